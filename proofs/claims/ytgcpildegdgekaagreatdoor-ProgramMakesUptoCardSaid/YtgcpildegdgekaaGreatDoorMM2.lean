/- Lemmas, walks and laws of this proof, part 2. Conditions: those that each names. -/
import Derived.Test.YtgcpildegdgekaaGreatDoorMM1
import Derived.ChangeKeysEq
set_option maxRecDepth 100000
set_option linter.unusedVariables false
namespace Go.Vm
open Go.RowKit
section
variable {U:eO} {n:Nat} {N:Nat->Prop} {w0:Fr} {w w':World} {ρ ρ':Own} {s:ASt U} {a:Act}
theorem jU {P:Program} {o:Oper} {K:Act->World->Prop} {Q:Exit->Act->World->Prop} {u:Value} (f:(execOp a.eval o).run P w=.ok (.value u) w') (j:K (a.put o.dst u) w'):o.wp P a w K Q:=by
 unfold Oper.wp;rw[f];exact j
theorem L3 {P:Program} {o:Oper} {K:Act->World->Prop} {Q:Exit->Act->World->Prop} (f:(execOp a.eval o).run P w=.ok .skip w') (j:K (a.put o.dst undef) w'):o.wp P a w K Q:=by
 unfold Oper.wp;rw[f];exact j
theorem Jl {P:Program} {o:Oper} {K:Act->World->Prop} {Q:Exit->Act->World->Prop} {f:FuncId} {args:Array Value} (j:(execOp a.eval o).run P w=.ok (.enter f args) w)
  (u:Calls P f args w fun e w'=>∃v,e=.returned v/\K (a.put o.dst v) w'):o.wp P a w K Q:=by
 unfold Oper.wp;rw[j];exact u.mono fun e w' ⟨v,he,hv⟩=>by grind
theorem bB9 {P:Program} {op:BinOp} {t:TypeId} {x y:aC U} {u v:Value} {X Y:Operand} {E:Enc U} {st:Nat->Prop} (J:Rel E w ρ st x u) (I:Rel E w ρ st y v)
  {cs:List Prop} {r:aC U} (ho:mz op x y=some (cs,r)) (j:dZ cs):
  ∃q,(do eqGuard op t X Y u v;binOp op t u v:Sem Value).run P w=.ok q w/\Rel E w ρ st r q:=by
 unfold mz at ho;split at ho
 ·rename_i k a G b;cases J;cases I;have S:(eqGuard op t X Y (.int k a) (.int G b)).run P w=.ok () w:=by
   simp_all[eqGuard]
  have hb:∀q,(binOp op t (.int k a) (.int G b)).run P w=.ok q w->(do eqGuard op t X Y (.int k a) (.int G b);binOp op t (.int k a) (.int G b):Sem Value).run P w=.ok q w:=fun q L=>by
   simp_all
  cases op
  case shl=>
   simp only[QJ,QX] at ho;obtain⟨rfl,rfl⟩:=ho;have f:¬b<0:=by
    have:0<=b:=j;omega
   exact⟨_,hb _ (by simp[binOp,Op.shift,f]),.int _ _⟩
  case shr=>
   simp only[QJ,QX] at ho;obtain⟨rfl,rfl⟩:=ho;have f:¬b<0:=by
    have:0<=b:=j;omega
   exact⟨_,hb _ (by simp[binOp,Op.shift,f]),.int _ _⟩
  all_goals
   simp only at ho;split at ho
   rotate_left
   ·cases ho
   rename_i O;subst O;simp only[QJ,QX,reduceCtorEq] at ho
  all_goals obtain⟨rfl,rfl⟩:=ho
  case add.isTrue=>exact⟨_,hb _ (by simp[binOp,Op.intArith]),.int _ _⟩
  case sub.isTrue=>exact⟨_,hb _ (by simp[binOp,Op.intArith]),.int _ _⟩
  case mul.isTrue=>exact⟨_,hb _ (by simp[binOp,Op.intArith]),.int _ _⟩
  case quo.isTrue=>
   have f:b≠0:=j;exact⟨_,hb _ (by simp_all[binOp,Op.intDiv]),.int _ _⟩
  case rem.isTrue=>
   have f:b≠0:=j;exact⟨_,hb _ (by simp_all[binOp,Op.intDiv]),.int _ _⟩
  case and.isTrue=>exact⟨_,hb _ (by simp[binOp,Op.intBits,kO]),.int _ _⟩
  case eql.isTrue=>exact⟨_,hb _ (by simp[binOp,Op.intCmp]),.bool _⟩
  case neq.isTrue=>exact⟨_,hb _ (by simp[binOp,Op.intCmp]),.bool _⟩
  case lss.isTrue=>exact⟨_,hb _ (by simp[binOp,Op.intCmp]),.bool _⟩
  case leq.isTrue=>exact⟨_,hb _ (by simp[binOp,Op.intCmp]),.bool _⟩
  case gtr.isTrue=>exact⟨_,hb _ (by simp[binOp,Op.intCmp]),.bool _⟩
  case geq.isTrue=>exact⟨_,hb _ (by simp[binOp,Op.intCmp]),.bool _⟩
 ·rename_i a b;cases J;cases I;have S:(eqGuard op t X Y (.string a) (.string b)).run P w=.ok () w:=by
   simp_all[eqGuard]
  have hb:∀q,(binOp op t (.string a) (.string b)).run P w=.ok q w->(do eqGuard op t X Y (.string a) (.string b);binOp op t (.string a) (.string b):Sem Value).run P w=.ok q w:=fun q L=>by
   simp_all
  cases op<;>simp only[QJ,QX,reduceCtorEq] at ho<;>obtain⟨rfl,rfl⟩:=ho
  case add=>
   have f:(a.size:Int)+b.size<=9223372036854775807:=j;exact⟨_,hb _ (by simp_all[binOp,Op.stringOp]),.str _⟩
  case eql=>exact⟨_,hb _ (by simp[binOp,Op.stringOp,beq_toListBytes]),.bool _⟩
  case neq=>exact⟨_,hb _ (by simp[binOp,Op.stringOp,bne,beq_toListBytes]),.bool _⟩
 grind
theorem bB3 {C:Cfg U} {E:Enc U} {st:Nat->Prop} {d:Nat} {S:TypeId->aC U->aC U->Option Bool}
  (O:∀t x y u v b,S t x y=some b->Rel E w ρ st x u->Rel E w ρ st y v->(Op.equalIn d t u v).run C.P w=.ok b w) {xs ys:List (aC U)} {us G:Array Value}
  (hu:us.size=xs.length) (L:∀k (h:k<xs.length),Rel E w ρ st xs[k] (us.getD k undef)) (hv:G.size=ys.length) (J:∀k (h:k<ys.length),Rel E w ρ st ys[k] (G.getD k undef)):
  ∀(j:List Field) (b:Bool),j.all (fun f=>f.name != "_")=true->Qz C.P S xs ys j=some b->(Op.eqFields d us G j).run C.P w=.ok b w:=by
 intro j
 induction j with
 |nil=>
  intro b _ h;simp only[Qz,QJ] at h;subst h;rfl
 |cons f j ih=>
  intro b I h;simp only[List.all_cons,QW,bne_iff_ne,ne_eq] at I;simp only[Qz] at h;split at h
  ·rename_i a c ha hc;split at h
   ·rename_i p q hp hq;obtain rfl:=QU h;obtain⟨u,V,ek⟩:=Gb (P:=C.P) ha hu L;obtain⟨v,Z,lU⟩:=Gb (P:=C.P) hc hv J;have he:=O _ _ _ _ _ _ hp ek lU;have hr:=ih q I.2 hq;simp only[Op.eqFields,ne_eq,I.1,not_false_eq_true,if_true,QE,V,Z,he,QL];cases p
    ·simp
    grind
   grind
  grind
theorem bB2 {C:Cfg U} {E:Enc U} {st:Nat->Prop} {d:Nat} {L:TypeId->aC U->aC U->Option Bool}
  (J:∀t x y u v b,L t x y=some b->Rel E w ρ st x u->Rel E w ρ st y v->(Op.equalIn d t u v).run C.P w=.ok b w) {xs ys:List (aC U)} {us j:Array Value}
  (hu:us.size=xs.length) (I:∀k (h:k<xs.length),Rel E w ρ st xs[k] (us.getD k undef)) (hv:j.size=ys.length) (G:∀k (h:k<ys.length),Rel E w ρ st ys[k] (j.getD k undef)) {e n:Nat}:
  ∀(f:List Nat) (b:Bool),Qy C.P L e n xs ys f=some b->(Op.eqItems d e n us j f).run C.P w=.ok b w:=by
 intro f
 induction f with
 |nil=>
  intro b h;simp only[Qy,QJ] at h;subst h;rfl
 |cons i f Z=>
  intro b h;simp only[Qy] at h;split at h
  ·rename_i a c ha hc;split at h
   ·rename_i p q hp hq;obtain rfl:=QU h;obtain⟨u,O,ek⟩:=Gb (P:=C.P) ha hu I;obtain⟨v,S,V⟩:=Gb (P:=C.P) hc hv G;have he:=J _ _ _ _ _ _ hp ek V;have hr:=Z q hq;simp only[Op.eqItems,QE,O,S,he,QL];cases p
    ·simp
    grind
   grind
  grind
theorem aI5 {C:Cfg U} {E:Enc U} {st:Nat->Prop} (d:Nat):∀(m:Nat) (t:TypeId) (x y:aC U) (u v:Value) (b:Bool),aeq C m t x y=some b->Rel E w ρ st x u->Rel E w ρ st y v->(Op.equalIn (m+d) t u v).run C.P w=.ok b w:=by
 intro m
 induction m with
 |zero=>intro t x y u v b h;cases h
 |succ m ih=>
  intro t x y u v b h S O;rw[Nat.succ_add];simp only[aeq] at h;split at h
  ·cases S;cases O;grind [run_equalIn_bool]
  ·cases S;cases O;grind [run_equalIn_int]
  ·cases S;cases O;grind [run_equalIn_string,beq_toListBytes]
  ·cases S with
   |agg _ us J G=>
    cases O with
    |agg _ Z I j=>
     split at h
     ·rename_i f V;have hf:C.P.fieldsOf t=f:=by simp[Program.fieldsOf,V]
      cases L:C.plain t with
      |false=>grind
      |true=>
       rw[L] at h;obtain⟨h1,h2,h3⟩:=C.plainOK t L;rw[run_equalIn_struct w _ t us Z (by grind) h1];rw[hf] at h3 ⊢;exact bB3 ih J G I j _ _ h3 h
     ·rename_i len e V;split at h
      ·rename_i n hn;obtain⟨i,hi,rfl⟩:=oH hn;rw[run_equalIn_array w _ us Z V hi];have hc:C.P.cellsOf e=i.size:=by simp[Program.cellsOf,hi]
       rw[hc];exact bB2 ih J G I j _ _ h
      grind
     grind
  grind
theorem bBa {C:Cfg U} {op:BinOp} {t:TypeId} {x y:aC U} {u v:Value} {X Y:Operand} {E:Enc U} {st:Nat->Prop} (j:Rel E w ρ st x u) (f:Rel E w ρ st y v)
  {cs:List Prop} {r:aC U} (ho:mw C op t x y=some (cs,r)) (S:dZ cs):
  ∃q,(do eqGuard op t X Y u v;binOp op t u v:Sem Value).run C.P w=.ok q w/\Rel E w ρ st r q:=by
 unfold mw at ho;split at ho
 ·rename_i xs L;cases G:C.plain t with
  |false=>grind
  |true=>
   rw[G] at ho;obtain⟨h1,V,h3⟩:=C.plainOK t G;have I:∀b,aeq C 40 t (.agg xs) (.agg L)=some b->(Op.equalIn 10000 t u v).run C.P w=.ok b w:=fun b hb=>aI5 9960 40 _ _ _ _ _ _ hb j f
   cases j;cases f;rename_i us hus hxs J hvs Z;have O:(eqGuard op t X Y (.agg us) (.agg J)).run C.P w=.ok () w:=run_eqGuard_agg w op t X Y us J V;simp only[QY] at ho;split at ho
   ·rename_i b hb;simp only[QJ,QX] at ho;obtain⟨rfl,rfl⟩:=ho;refine⟨.bool b,?_,.bool _⟩;grind [Sem.run_bind,Result.andThen_ok,run_eql_struct]
   ·rename_i b hb;simp only[QJ,QX] at ho;obtain⟨rfl,rfl⟩:=ho;refine⟨.bool !b,?_,.bool _⟩;grind [Sem.run_bind,Result.andThen_ok,run_neq_struct]
   grind
 ·rename_i a b;have I:∀q,aeq C 1 t (.bool a) (.bool b)=some q->(Op.equalIn 10000 t u v).run C.P w=.ok q w:=fun q hb=>aI5 9999 1 _ _ _ _ _ _ hb j f
  cases j;cases f;have O:(eqGuard op t X Y (.bool a) (.bool b)).run C.P w=.ok () w:=by
   simp_all[eqGuard]
  split at ho
  ·rename_i q hb;simp only[QJ,QX] at ho;obtain⟨rfl,rfl⟩:=ho;refine⟨.bool q,?_,.bool _⟩;simp_all[binOp,Op.equal,Op.maxDepth]
  ·rename_i q hb;simp only[QJ,QX] at ho;obtain⟨rfl,rfl⟩:=ho;refine⟨.bool !q,?_,.bool _⟩;simp_all[binOp,Op.equal,Op.maxDepth]
  grind
 ·exact bB9 j f ho S
theorem bB0 {P:Program} {op:BinOp} {t:TypeId} {x r:aC U} {y:Operand} {a:Act} {u:Value} {X:Operand} {E:Enc U} {st:Nat->Prop} (f:Rel E w ρ st x u) (ho:mo P op t x y=some r):
  ∃q,(do eqGuard op t X y u (a.eval y);binOp op t u (a.eval y):Sem Value).run P w=.ok q w/\Rel E w ρ st r q:=by
 unfold mo at ho;split at ho
 ·rename_i b hb;have j:(u=.nilIface/\b=true)\/∃p q,u=.iface p q/\b=false:=by
   unfold aEj at hb;split at hb
   ·cases hb;cases f with
    |ifc0=>grind
    |ifc1 p q=>grind
   ·cases hb;cases f;grind
   ·cases hb;cases f;grind
   grind
  split at ho
  ·rename_i L G;have e1:∀d:Nat,∀v:Value,(v=.nilIface->b=true)->(v≠ .nilIface->b=false/\∃p q,v=.iface p q)->(Op.equalIn (d+1) t v .nilIface).run P w=.ok b w:=fun d v J I=>by
    by_cases hv:v=.nilIface
    ·subst hv;simp[Op.equalIn,QV G,J rfl]
    ·obtain⟨hb,p,q,rfl⟩:=I hv;simp[Op.equalIn,QV G,hb]
   have S:(Op.equalIn 10000 t u .nilIface).run P w=.ok b w:=by
    grind
   have O:(eqGuard op t X (.const .nilIface) u .nilIface).run P w=.ok () w:=by
    rcases j with ⟨rfl,rfl⟩|⟨p,q,rfl,rfl⟩
    ·simp_all[eqGuard]
    simp_all[eqGuard]
   split at ho
   ·obtain rfl:=QU ho;refine⟨.bool b,?_,.bool _⟩;show (do eqGuard .eql t X (.const .nilIface) u .nilIface;binOp .eql t u .nilIface:Sem Value).run P w=_;simp_all[binOp,Op.equal,Op.maxDepth]
   ·obtain rfl:=QU ho;refine⟨.bool !b,?_,.bool _⟩;show (do eqGuard .neq t X (.const .nilIface) u .nilIface;binOp .neq t u .nilIface:Sem Value).run P w=_;simp_all[binOp,Op.equal,Op.maxDepth]
   grind
  grind
 grind
theorem bBZ {P:Program} {op:BinOp} {t:TypeId} {x r:aC U} {y:Operand} {a:Act} {u:Value} {X:Operand} {E:Enc U} {st:Nat->Prop} (f:Rel E w ρ st x u) (ho:mq P op t x y=some r):
  ∃q,(do eqGuard op t X y u (a.eval y);binOp op t u (a.eval y):Sem Value).run P w=.ok q w/\Rel E w ρ st r q:=by
 unfold mq at ho;split at ho
 ·exact bB0 f ho
 grind
theorem bAx {P:Program} {op:UnOp} {x r:aC U} {u:Value} {E:Enc U} {st:Nat->Prop} (f:Rel E w ρ st x u) (ho:aun op x=some r):
  ∃q,(Op.unary op u).run P w=.ok q w/\Rel E w ρ st r q:=by
 unfold aun at ho;split at ho
 ·cases f;split at ho
  ·obtain rfl:=QU ho;exact⟨_,by rfl,.int _ _⟩
  grind
 ·cases f;split at ho
  ·obtain rfl:=QU ho;exact⟨_,by rfl,.bool _⟩
  grind
 grind
theorem aWm {P:Program} {t:TypeId} {f fo:Nat} (h:Pe P t f=some fo):∃j u i,P.underlying t=some (.struct j)/\j[f]?=some u/\P.info? u.type=some i/\i.size≠0/\u.offset=fo:=by
 grind [Pe,oH]
theorem addr_add (b o k:Nat):(⟨b,o,none⟩:Addr).add k=⟨b,o+k,none⟩:=Addr.wT b o k
theorem Zn {P:Program} {t:TypeId} {f fo b o:Nat} (h:Pe P t f=some fo):(Instr.fieldAt t (.pointer (some ⟨b,o,none⟩)) f).run P w=.ok (.pointer (some ⟨b,o+fo,none⟩)) w:=by
 obtain⟨j,I,i,u,hf,hi,G,rfl⟩:=aWm h;simp only[Instr.fieldAt,QE,QV u,QL,hf,Instr.sureAddr,JO,fieldPlace,sizeOf,typeInfo,run_program,hi,QF G,addr_add]
theorem aWn {P:Program} {E:Enc U} {st:Nat->Prop} {look:Nat->Option (aT U)} {t:TypeId} {f fo:Nat} (h:Pe P t f=some fo) {x r:aC U} {v:Value} (hx:Rel E w ρ st x v)
  {cs:List Prop} {ob:Option (Nat×aT U)}
  (J:Wv look fo x=some (cs,r,ob)) (Z:∀id g i off I,storable look (.eptr id g i off I)=true->∃u,ρ id=some (g,u))
  (V:∀id i g j off I,storable look (.meptr id i g j off I)=true->∀O u,ρ (.mem id i)=some (O,u)->O=g):
  ∃q,(Instr.fieldAt t v f).run P w=.ok q w/\Rel E w ρ st r q/\ob=none:=by
 unfold Wv at J;cases hx with
 |ptr id off b hb=>
  simp only[val,QJ,QX] at J;obtain⟨_,rfl,rfl⟩:=J;exact⟨_,Zn h,.ptr id _ b hb,rfl⟩
 |eptr id g i off I b n' L hb hi=>
  have G:=(cC J).2;simp only[val,QJ,QX] at G;obtain⟨_,rfl,rfl⟩:=G;refine⟨_,Zn h,?_,rfl⟩;rw[KN];exact .eptr id g i _ I b n' L hb hi
 |eptrOld id g i off I O u v hb hg=>
  grind
 |ref l off b o f' S hc hl=>
  simp only[val,QJ,QX] at J;obtain⟨_,rfl,rfl⟩:=J;refine⟨_,Zn h,?_,rfl⟩;rw[KN];exact .ref l _ b o f' S hc hl
 |meptr id i g j off I b n' L hb hi=>
  have G:=(cC J).2;simp only[val,QJ,QX] at G;obtain⟨_,rfl,rfl⟩:=G;refine⟨_,Zn h,?_,rfl⟩;rw[KN];exact .meptr id i g j _ I b n' L hb hi
 |meptrOld id i g j off I O u v hb hg=>
  grind
 |_=>grind
end
section
variable {U:eO} {n:Nat} {N:Nat->Prop} {w0:Fr} {w w':World} {ρ ρ':Own} {s:ASt U} {a:Act}
theorem tT {P:Program} {e m:Nat} (h:(match iO P e with|some n=>Nat.beq n m|none=>false)=true):∃i,P.info? e=some i/\i.size=m:=by
 grind [oH,Nat.eq_of_beq_eq_true]
theorem toNat_lt {i:Int} {n:Nat} (h:0<=i/\i<n):i.toNat<n:=KI
theorem aVP {C:Cfg U} (h:RR C.E n N w0 ρ s a w) {look:Nat->Option (aT U)} (L:∀id ob,look id=some ob->s.objs id=some ob) {t:TypeId}
  {x:aC U} {v:Value} (hx:Rel C.E w ρ (aD N ρ w) x v) {k:IntKind} {i:Int} {cs:List Prop} {r:aC U} {ob:Option (Nat×aT U)}
  (ho:Xy C look t x i=some (cs,r,ob)) (hc:dZ cs):ob=none/\∃q,(Instr.indexAt t v (.int k i)).run C.P w=.ok q w/\Rel C.E w ρ (aD N ρ w) r q:=by
 unfold Xy at ho;split at ho
 ·rename_i e hu;split at ho
  ·rename_i τ xs;have J:=cC ho;clear ho;obtain⟨hb,ho⟩:=J;simp only[QJ,QX] at ho;obtain⟨rfl,rfl,rfl⟩:=ho;obtain⟨ti,j,I⟩:=tT hb;have hi:0<=i/\i<xs.length:=hc;have O:=toNat_lt hi;refine⟨rfl,?_⟩;cases hx with
   |lO _=>grind
   |sle _ _=>grind
   |sl _ _ b o S f hst hcap hcc hl=>
    refine⟨.pointer (some ⟨b,o+i.toNat*U.size τ,none⟩),?_,?_⟩
    ·simp[Instr.indexAt,asIntOf,QV hu,hi,sizeOf,typeInfo,j,I,addr_add]
    ·have hxi:xs.getD i.toNat (C.E.dflt τ)=xs[i.toNat]:=by grind
     rw[hxi];have:=Rel.ref (E:=C.E) (w:=w) (ρ:=ρ) (st:=aD N ρ w) (C.E.enc τ xs[i.toNat]) 0 b (o+i.toNat*U.size τ) (fun k=>f (i.toNat*U.size τ+k)) hst (fun k hk=>by
      have hk':k<U.size τ:=by rw[C.E.enc_len] at hk;exact hk
      have h4:(i.toNat+1)*U.size τ<=xs.length*U.size τ:=QC _ O;grind) (fun k hk=>hl _ O k hk)
     omega
  ·rename_i id g;split at ho
   ·rename_i τ g' xs hl;have J:=cC ho;clear ho;obtain⟨hb,ho⟩:=J;simp only[QJ,QX] at ho;obtain⟨rfl,rfl,rfl⟩:=ho;simp only[QW] at hb;obtain rfl:=QQ hb.1;obtain⟨ti,j,I⟩:=tT hb.2;have hi:0<=i/\i<xs.length:=hc;have O:=toNat_lt hi;refine⟨rfl,?_⟩;obtain⟨u,cs',h1,hp,h2,h3⟩:=h.objs _ _ (L _ _ hl);cases hx with
    |osl _ _ u' G hp'=>
     rw[h1] at G;simp only[QJ,QX,true_and] at G;subst G;rcases h2.2 with ⟨h0,pM⟩|⟨gb,S,cur,rfl,Z,hgb,hn,hcm,hcs,V⟩
     ·omega
     ·refine⟨.pointer (some ⟨gb,i.toNat*U.size τ,none⟩),?_,?_⟩
      ·simp[Instr.indexAt,asIntOf,QV hu,hi,sizeOf,typeInfo,j,I,addr_add]
      ·exact .eptr id g i.toNat 0 (U.size τ) gb xs.length S h1 O
    |oslOld _ _ g' u' v G hg=>
     grind
   ·rename_i τ g' gm xs hl;have J:=cC ho;clear ho;obtain⟨hb,ho⟩:=J;simp only[QJ,QX] at ho;obtain⟨rfl,rfl,rfl⟩:=ho;simp only[QW] at hb;obtain rfl:=QQ hb.1;obtain⟨ti,j,I⟩:=tT hb.2;have hi:0<=i/\i<xs.length:=hc;have O:=toNat_lt hi;refine⟨rfl,?_⟩;obtain⟨u,cs',h1,hp,h2,h3⟩:=h.objs _ _ (L _ _ hl);cases hx with
    |osl _ _ u' G hp'=>
     rw[h1] at G;simp only[QJ,QX,true_and] at G;subst G;rcases h2.2 with ⟨h0,pM⟩|⟨gb,S,cur,rfl,Z,hgb,hn,hcm,hcs,V⟩
     ·omega
     ·refine⟨.pointer (some ⟨gb,i.toNat*U.size τ,none⟩),?_,?_⟩
      ·simp[Instr.indexAt,asIntOf,QV hu,hi,sizeOf,typeInfo,j,I,addr_add]
      ·exact .eptr id g i.toNat 0 (U.size τ) gb xs.length S h1 O
    |oslOld _ _ g' u' v G hg=>
     grind
   grind
  ·rename_i id q g;split at ho
   ·rename_i τ ys hm;have J:=cC ho;clear ho;obtain⟨hb,ho⟩:=J;simp only[QJ,QX] at ho;obtain⟨rfl,rfl,rfl⟩:=ho;obtain⟨ti,j,I⟩:=tT hb;have hi:0<=i/\i<ys.length:=hc;have O:=toNat_lt hi;refine⟨rfl,?_⟩;have hms:=Ay h L hm;cases hx with
    |mslOld _ _ _ g' u v hr hg=>
     grind
    |msl _ _ _ u hr=>
     obtain⟨_,ds,hp,h2,h3⟩:=hms _ _ hr;rcases h2.2 with ⟨h0,pM⟩|⟨gb,S,cur,rfl,Z,hgb,hn,hcm,hcs,V⟩
     ·omega
     ·refine⟨.pointer (some ⟨gb,i.toNat*U.size τ,none⟩),?_,?_⟩
      ·simp[Instr.indexAt,asIntOf,QV hu,hi,sizeOf,typeInfo,j,I,addr_add]
      ·exact .meptr id q g i.toNat 0 (U.size τ) gb ys.length S hr O
   grind
  ·simp only[QJ,QX] at ho;obtain⟨rfl,rfl,rfl⟩:=ho;exact(show False from hc).elim
  ·rename_i id g lo hi sz;split at ho
   ·rename_i τ g' xs hl;have J:=cC ho;clear ho;obtain⟨hb,ho⟩:=J;simp only[QJ,QX] at ho;obtain⟨rfl,rfl,rfl⟩:=ho;simp only[QW] at hb;obtain rfl:=QQ hb.1.1;obtain rfl:=QQ hb.1.2;obtain⟨ti,j,I⟩:=tT hb.2;have hic:0<=i/\i<((hi-lo:Nat):Int):=hc;refine⟨rfl,?_⟩;obtain⟨u,cs',h1,hp,h2,h3⟩:=h.objs _ _ (L _ _ hl);cases hx with
    |ovwOld _ _ _ _ _ g' u' v G hg=>
     grind
    |ovw _ _ _ _ _ u' ad c G hp' hle had=>
     rcases had with ⟨rfl,rfl,rfl⟩|⟨b,n',S,o,rfl,hn,rfl,hoo,hcap⟩
     ·omega
     ·obtain rfl:=hoo KI;refine⟨.pointer (some ⟨b,(lo+i.toNat)*U.size τ,none⟩),?_,.eptr id g (lo+i.toNat) 0 (U.size τ) b n' S G KI⟩;simp[Instr.indexAt,asIntOf,QV hu,hic,sizeOf,typeInfo,j,I,addr_add,Nat.add_mul]
      try omega
   grind
  grind
 ·rename_i len e hu;split at ho
  ·rename_i m hm;obtain⟨ti,j,rfl⟩:=oH hm;split at ho
   ·simp only[QJ,QX] at ho;obtain⟨rfl,rfl,rfl⟩:=ho;have hi:0<=i/\i<len:=hc;refine⟨rfl,?_⟩;cases hx with
    |ptr _ _ b hb=>
     refine⟨_,?_,.ptr _ _ b hb⟩;simp[Instr.indexAt,asIntOf,QV hu,hi,sizeOf,typeInfo,j,Instr.sureAddr,addr_add]
   ·simp only[QJ,QX] at ho;obtain⟨rfl,rfl,rfl⟩:=ho;have hi:0<=i/\i<len:=hc;refine⟨rfl,?_⟩;cases hx with
    |ref _ _ b o f hst hcc hl=>
     refine⟨_,?_,.ref _ _ b o f hst hcc hl⟩;simp[Instr.indexAt,asIntOf,QV hu,hi,sizeOf,typeInfo,j,Instr.sureAddr,addr_add,KN]
   grind
  grind
 grind
theorem aVM {C:Cfg U} {t:TypeId} {st:Nat->Prop}
  {x:aC U} {v:Value} (j:Rel C.E w ρ st x v) {k:IntKind} {i:Int} {cs:List Prop} {r:aC U} {ob:Option (Nat×aT U)}
  (ho:indexOf C t x i=some (cs,r,ob)) (u:dZ cs):ob=none/\∃q,(Instr.index t v (.int k i)).run C.P w=.ok q w/\Rel C.E w ρ st r q:=by
 unfold indexOf at ho;split at ho
 ·rename_i b I;simp only[QJ,QX] at ho;obtain⟨rfl,rfl,rfl⟩:=ho;have hi:0<=i/\i<b.size:=u;have f:=toNat_lt hi;refine⟨rfl,?_⟩;cases j;refine⟨_,?_,.int _ _⟩;have e:b[i.toNat]?=some (b.data.toList.getD i.toNat 0):=by
   have h3:b.data.toList.getD i.toNat 0=b[i.toNat]:=by
    have S:i.toNat<b.data.size:=f;have O:b.data[i.toNat]?=some b.data[i.toNat]:=Array.getElem?_eq_getElem S;simp[O];rfl
   grind
  simp_all[Instr.index,asIntOf,QV]
 ·rename_i len e l I;split at ho
  ·rename_i m hm;obtain⟨ti,V,rfl⟩:=oH hm;split at ho
   ·rename_i y G;simp only[QJ,QX] at ho;obtain⟨rfl,rfl,rfl⟩:=ho;have hi:0<=i/\i<len:=u;refine⟨rfl,?_⟩;cases j with
    |agg _ Z J L=>
     obtain⟨q,hq,hr⟩:=Gb (w:=w) G J L;simp_all[Instr.index,asIntOf,QV,sizeOf,typeInfo]
   grind
  grind
 grind
theorem tj {E:Enc U} {st:Nat->Prop} {τ:U.τ} {xs:List (U.T τ)} {b o cap l m c:Nat} {f:Nat->Value} (u:st b) (J:m<=c) (I:l+m<=xs.length)
  (V:∀k,k<xs.length*U.size τ->w.cell? ⟨b,o+k,none⟩=some (f k)) (S:∀i (h:i<xs.length) k (j:k<(E.enc τ xs[i]).length),Rel E w ρ st (E.enc τ xs[i])[k] (f (i*U.size τ+k))) (a':Addr)
  (L:a'=⟨b,o+l*U.size τ,none⟩\/(m=0/\a'=⟨b,o,none⟩)):
  Rel E w ρ st (.sl τ ((xs.drop l).take m)) (.slice (some a') m c):=by
 have G:((xs.drop l).take m).length=m:=by grind
 rcases L with rfl|⟨rfl,rfl⟩
 ·have:=Rel.sl (E:=E) (w:=w) (ρ:=ρ) (st:=st) τ ((xs.drop l).take m) b (o+l*U.size τ) c (fun k=>f (l*U.size τ+k)) u KI (fun k j=>by
   rw[G] at j;have Z:(l+m)*U.size τ<=xs.length*U.size τ:=QC _ I;grind) (fun i hi k j=>by
   grind)
  grind
 ·have O:(xs.drop l).take 0=[]:=rfl;rw[O];exact Rel.sl (E:=E) (w:=w) (ρ:=ρ) (st:=st) τ [] b o c f u XQ (fun k j=>absurd j XQ) (fun i hi=>absurd hi XQ)
theorem Ue {P:Program} {t:TypeId} {d:TypeDesc} (f:P.underlying t=some d) (j:∀n e,d≠ .array n e) (v:Value) (lo hi:Option Value):(Instr.sliceAt t v lo hi none).run P w=(Instr.slice t v lo hi none).run P w:=by
 simp_all[Instr.sliceAt,QV]
theorem pV {P:Program} {k:IntKind} {i:Int} {y:Nat} {code:BoundsCode} (h:0<=i/\i<=y):(Instr.sliceBound (.int k i) y code).run P w=.ok i.toNat w:=by
 simp_all[Instr.sliceBound,asIntOf]
theorem aMV {C:Cfg U} {st:Nat->Prop} {t:TypeId} {x:aC U} {v:Value} (hx:Rel C.E w ρ st x v) {lo hi:Option (aC U)} {lo' hi':Option Value}
  (S:∀y,lo=some y->∃v,lo'=some v/\Rel C.E w ρ st y v) (I:lo=none->lo'=none)
  (Z:∀y,hi=some y->∃v,hi'=some v/\Rel C.E w ρ st y v) (J:hi=none->hi'=none)
  {cs:List Prop} {r:aC U} {ob:Option (Nat×aT U)} (ho:vF C t x lo hi=some (cs,r,ob)) (hc:dZ cs):
  ob=none/\∃q,(Instr.sliceAt t v lo' hi' none).run C.P w=.ok q w/\Rel C.E w ρ st r q:=by
 unfold vF at ho;split at ho
 ·rename_i b hu;rw[Ue hu (fun _ _ e=>by cases e)];cases hx;split at ho
  ·rename_i kl l kh h;simp only[QJ,QX] at ho;obtain⟨rfl,rfl,rfl⟩:=ho;obtain⟨_,rfl,nM⟩:=S _ rfl;obtain⟨_,rfl,lU⟩:=Z _ rfl;cases nM;cases lU;have h0:0<=l/\l<=h/\h<=b.size:=hc;refine⟨rfl,_,?_,.str _⟩;have cJ:=pV (P:=C.P) (w:=w) (k:=kh) (code:=.sliceAlen) (show 0<=h/\h<=b.size by omega);have dR:=pV (P:=C.P) (w:=w) (k:=kl) (code:=.sliceB) (show 0<=l/\l<=h.toNat by omega);simp_all[Instr.slice,Instr.sliceBounds,QV]
  ·rename_i kl l;simp only[QJ,QX] at ho;obtain⟨rfl,rfl,rfl⟩:=ho;obtain⟨_,rfl,nM⟩:=S _ rfl;obtain rfl:=J rfl;cases nM;have h0:0<=l/\l<=b.size:=hc;refine⟨rfl,_,?_,.str _⟩;simp_all[pV,Instr.slice,Instr.sliceBounds,QV]
  ·rename_i kh h;simp only[QJ,QX] at ho;obtain⟨rfl,rfl,rfl⟩:=ho;obtain⟨_,rfl,lU⟩:=Z _ rfl;obtain rfl:=I rfl;cases lU;have h0:0<=h/\h<=b.size:=hc;refine⟨rfl,_,?_,.str _⟩;simp_all[pV,Instr.slice,Instr.sliceBounds,QV]
  ·simp only[QJ,QX] at ho;obtain⟨rfl,rfl,rfl⟩:=ho;obtain rfl:=I rfl;obtain rfl:=J rfl;refine⟨rfl,_,?_,.str _⟩;simp_all[Instr.slice,Instr.sliceBounds,QV]
  grind
 ·rename_i e τ xs hu;have hbb:=cC ho;clear ho;obtain⟨hb,ho⟩:=hbb;obtain⟨ti,hti,hts⟩:=tT hb;rw[Ue hu (fun _ _ e=>by cases e)]
  -- the slice's value
  have hv:∃(j:Option Addr) (cap:Nat),v=.slice j xs.length cap/\xs.length<=cap/\∀(l m c:Nat),m<=c->c<=cap->l+m<=xs.length->(m=0\/c≠0)->
    ∀u,(u=j.map (·.add (l*U.size τ))\/(m=0/\u=j))->(j=none->c=0)->Rel C.E w ρ st (.sl τ ((xs.drop l).take m)) (.slice u m c):=by
   cases hx with
   |lO _=>
    refine⟨none,0,rfl,XQ,fun l m c O _ V _ u had oB=>?_⟩;have hm:m=0:=KI;subst hm;obtain rfl:=oB rfl;have:u=none:=by
     grind
    subst this;exact .lO τ
   |sle _ ad0=>
    refine⟨some ad0,0,rfl,XQ,fun l m c O oB V _ u had _=>?_⟩;have hm:m=0:=KI;have oA:c=0:=KI;subst hm;subst oA;show Rel C.E w ρ st (.sl τ []) _;exact .slE τ u
   |sl _ _ b o cap f hst L hcc hl=>
    refine⟨some ⟨b,o,none⟩,cap,rfl,L,fun l m c O _ V _ u had _=>?_⟩;rcases had with rfl|⟨rfl,rfl⟩
    ·simp only[Option.map_some,addr_add];exact tj (cap:=cap) hst O V hcc hl _ (.inl rfl)
    ·exact tj (cap:=cap) hst O V hcc hl _ (.inr ⟨rfl,rfl⟩)
  obtain⟨j,cap,rfl,L,G⟩:=hv;have had0:j=none->cap=0:=fun e=>by
   subst e;cases hx;rfl
  split at ho
  ·rename_i kl l kh h;simp only[QJ,QX] at ho;obtain⟨rfl,rfl,rfl⟩:=ho;obtain⟨_,rfl,nM⟩:=S _ rfl;obtain⟨_,rfl,lU⟩:=Z _ rfl;cases nM;cases lU;have h0:0<=l/\l<=h/\h<=xs.length:=hc;have cJ:=pV (P:=C.P) (w:=w) (k:=kh) (code:=.sliceAcap) (show 0<=h/\h<=cap by omega);have dR:=pV (P:=C.P) (w:=w) (k:=kl) (code:=.sliceB) (show 0<=l/\l<=h.toNat by omega);refine⟨rfl,.slice (if cap=l.toNat then j else j.map (·.add (l.toNat*U.size τ))) (h.toNat-l.toNat) (cap-l.toNat),?_,?_⟩
   ·simp_all[Instr.slice,Instr.sliceBounds,QV,sizeOf,typeInfo]
   grind
  ·rename_i kl l;simp only[QJ,QX] at ho;obtain⟨rfl,rfl,rfl⟩:=ho;obtain⟨_,rfl,nM⟩:=S _ rfl;obtain rfl:=J rfl;cases nM;have h0:0<=l/\l<=xs.length:=hc;have dR:=pV (P:=C.P) (w:=w) (k:=kl) (code:=.sliceB) (show 0<=l/\l<=xs.length by omega);refine⟨rfl,.slice (if cap=l.toNat then j else j.map (·.add (l.toNat*U.size τ))) (xs.length-l.toNat) (cap-l.toNat),?_,?_⟩
   ·simp_all[Instr.slice,Instr.sliceBounds,QV,sizeOf,typeInfo]
   ·have:=G l.toNat (xs.length-l.toNat) (cap-l.toNat) KI KI KI KI (if cap=l.toNat then j else j.map (·.add (l.toNat*U.size τ))) (by
     grind) (fun e=>by grind)
    grind [List.take_of_length_le]
  ·rename_i kh h;simp only[QJ,QX] at ho;obtain⟨rfl,rfl,rfl⟩:=ho;obtain⟨_,rfl,lU⟩:=Z _ rfl;obtain rfl:=I rfl;cases lU;have h0:0<=h/\h<=xs.length:=hc;have cJ:=pV (P:=C.P) (w:=w) (k:=kh) (code:=.sliceAcap) (show 0<=h/\h<=cap by omega);refine⟨rfl,.slice (if cap=0 then j else j.map (·.add (0*U.size τ))) h.toNat cap,?_,?_⟩
   ·simp_all[Instr.slice,Instr.sliceBounds,QV,sizeOf,typeInfo]
   ·have:=G 0 h.toNat cap KI (QP _) KI KI (if cap=0 then j else j.map (·.add (0*U.size τ))) (by
     grind) had0
    grind
  ·simp only[QJ,QX] at ho;obtain⟨rfl,rfl,rfl⟩:=ho;obtain rfl:=I rfl;obtain rfl:=J rfl;refine⟨rfl,.slice (if cap=0 then j else j.map (·.add (0*U.size τ))) xs.length cap,?_,?_⟩
   ·simp_all[Instr.slice,Instr.sliceBounds,QV,sizeOf,typeInfo]
   ·have:=G 0 xs.length cap L (QP _) KI KI (if cap=0 then j else j.map (·.add (0*U.size τ))) (by
     grind) had0
    grind
  grind
 grind
end
section
variable {U:eO} {n:Nat} {N:Nat->Prop} {w0:Fr} {w w':World} {ρ ρ':Own} {s:ASt U} {a:Act}
theorem aTb {P:Program}:∀(l:List Field) (w:World) (r:List (Nat×Nat)),Pd P l=some r->
  (l.mapM fun f=>do pure (f.offset,<- sizeOf f.type):Sem (List (Nat×Nat))).run P w=.ok r w:=by
 intro l
 induction l with
 |nil=>
  simp_all[Pd]
 |cons f l I=>
  intro w r j;simp only[Pd] at j;split at j
  ·rename_i m G hm u;obtain rfl:=QU j;obtain⟨i,hi,rfl⟩:=oH hm;simp_all[sizeOf,typeInfo]
  grind
theorem bAZ {P:Program} {E:Enc U} {st:Nat->Prop} {look:Nat->Option (aT U)} (Z:∀(x:aC U) v,Rel E w ρ st x v->storable look x=true->v.oneCell'=true) {t:TypeId} {pl:Nat->Option (Nat×Nat)} (u:placesOf P t=some pl)
  {z:List (aC U)} (hz:zeroCells P t=some z) {j:List (Nat×aC U)} {parts':Array (Nat×Value)} (hlen:j.length=parts'.size)
  (hp:∀k (h:k<j.length) (h':k<parts'.toList.length),j[k].1=parts'.toList[k].1/\Rel E w ρ st j[k].2 parts'.toList[k].2) {l:List (aC U)} (hl:oY look pl z j=some l):
  ∃q,(Instr.build t parts').run P w=.ok q w/\Rel E w ρ st (.agg l) q:=by
 obtain⟨zv,hzr,O,J⟩:=xB (E:=E) (w:=w) (ρ:=ρ) hz;unfold placesOf at u;split at u
 ·rename_i L hu;split at u
  ·rename_i r hr;obtain rfl:=QU u;have hma:(L.mapM fun f=>do pure (f.offset,<- sizeOf f.type):Sem (Array (Nat×Nat))).run P w=.ok r.toArray w:=by
    rw[Array.mapM_eq_mapM_toList];simp only[Sem.run_map,aTb _ w r hr,QL]
   obtain⟨V,S,G,I⟩:=Zm (E:=E) (w:=w) (ρ:=ρ) Z (place':=fun i=>(r.toArray)[i]?) (fun i q hq=>by grind) j parts'.toList z l zv.cells KI hp hl O (fun k hk=>J _ k hk);refine⟨.agg V,?_,.agg l V G I⟩;simp_all[Instr.build,QV]
  grind
 ·rename_i len e hu;split at u
  ·rename_i m hm;obtain rfl:=QU u;obtain⟨ti,hti,rfl⟩:=oH hm;obtain⟨V,S,G,I⟩:=Zm (E:=E) (w:=w) (ρ:=ρ) Z (place':=fun i=>some (i*ti.size,ti.size)) (fun i q hq=>hq) j parts'.toList z l zv.cells KI hp hl O (fun k hk=>J _ k hk);refine⟨.agg V,?_,.agg l V G I⟩;simp_all[Instr.build,QV,sizeOf,typeInfo]
  grind
 grind
theorem aWe {look:Nat->Option (aT U)} {p x:aC U} {r:Nat×aT U} (h:Oz look p x=some r):x.cellsOf.length=1:=by
 unfold Oz at h;split at h
 ·rfl
 grind
theorem aWd {P:Program} {E:Enc U} (h:RR E n N w0 ρ s a w) {look:Nat->Option (aT U)} (J:∀id ob,look id=some ob->s.objs id=some ob)
  {p x:aC U} {v u:Value} (hp:Rel E w ρ (aD N ρ w) p v) (hx:Rel E w ρ (aD N ρ w) x u) {id:Nat} {ob:aT U} (hs:Oz look p x=some (id,ob))
  {t:TypeId} (hm:iO P t=some 1):
  ∃w' ρ',(Instr.storeAt t v u).run P w=.ok () w'/\RR E n N w0 ρ' (s.obj id ob) a w':=by
 obtain⟨ti,hti,htis⟩:=oH hm;unfold Oz at hs;split at hs
 ·rename_i f g i off sz m gm;split at hs
  ·rename_i _ _ t' g' xs _ gm' _ hl hlm;obtain⟨hb,hs⟩:=cC hs;simp only[QJ,QX] at hs;obtain⟨rfl,rfl⟩:=hs;simp only[QW] at hb;obtain⟨⟨⟨⟨cJ,dR⟩,gV⟩,wM⟩,wL⟩:=hb;obtain rfl:=QQ cJ;obtain rfl:=QQ dR;obtain rfl:=QQ gV;obtain rfl:=QQ wM;have S:=QQ wL;have hone:u.oneCell'=true:=xM h J hx (by grind [storable]);have hcu:u.cells=#[u]:=cells_one hone;obtain⟨u1,cs,h1,hpp,h2,h3⟩:=h.objs _ _ (J _ _ hl);cases hp with
   |eptrOld _ _ _ _ _ g' L v hr hg=>
    grind
   |eptr _ _ _ _ _ b n' V hr hi=>
    rw[h1] at hr;simp only[QJ,QX,true_and] at hr;subst hr;rcases h2.2 with ⟨h0,_⟩|⟨gb,cap',cur,heq,hbase,hgb,hn,hcm,hcs,htake⟩
    ·cases h0
    simp only[JI,QJ,KQ,and_true] at heq;obtain⟨rfl,rfl,rfl⟩:=heq;rw[S,Nat.mul_one] at hcs htake;have hrun:=run_storeCells_at P b i (U.ety t') [u] 0 cur w hgb (by grind) (fun q hq=>by grind);simp only[JB] at hrun;refine⟨w.setRow b (cur.toList.take i++[u]++cur.toList.drop (i+[u].length)).toArray,dJ ρ f g (.slice (some ⟨b,0,none⟩) xs.length V),?_,?_⟩
    ·simp_all[Instr.storeAt,Instr.sureAddr,storeVar,sizeOf,typeInfo]
    ·have hold:∀g1 L,ρ f=some (g1,L)->(g1=g/\L=.slice (some ⟨b,0,none⟩) xs.length V)\/((∀a,L≠ .pointer a)/\g1<g):=fun g1 L hr=>by
      grind
     have I:∀O,O<w.heap.size->(∀g L,ρ f=some (g,L)->blk L≠some O)->(w.setRow b (cur.toList.take i++[u]++cur.toList.drop (i+[u].length)).toArray).heap[O]?=w.heap[O]?:=fun O _ hne=>
      setRow_other w b O _ (fun e=>hne _ _ h1 (by simp[blk,e]))
     have Z:∀O,blk (.slice (some ⟨b,0,none⟩) xs.length V)=some O->(∃g L,ρ f=some (g,L)/\blk L=some O)\/(w.heap.size<=O):=fun O hb'=>.inl ⟨_,_,h1,hb'⟩
     have hb:=Cd hbase w (cur.toList.take i++[u]++cur.toList.drop (i+[u].length)).toArray;have hcl:cur.toList.length=V:=KI;have hget:∀q,q<xs.length->((cur.toList.take i++[u]++cur.toList.drop (i+[u].length)).take xs.length).getD q undef=if q=i then u else cs.getD q undef:=fun q hq=>by
      have e1:cs[q]?=cur.toList[q]?:=by
       grind
      simp only[List.getD_eq_getElem?_getD,KE,JQ hq,e1];simp only[KZ,List.getElem?_append,KU,hcl,JE]
      by_cases hqi:q=i
      ·grind
      ·rw[QF hqi];congr 1
       by_cases hlt:q<i
       ·grind
       ·rw[QF KI,QF KI,KO];grind
     have G:∀ob,s.objs f=some ob->ob.simple=true:=fun ob ho=>by rw[J _ _ hl] at ho;cases ho;rfl
     refine h.upd f g _ _ G hold hb I Z ?_;refine⟨_,(cur.toList.take i++[u]++cur.toList.drop (i+[u].length)).take xs.length,by simp[dJ],hpp,⟨?_,.inr ⟨b,V,_,rfl,hbase,setRow_heap w b cur _ _ (0,0) hgb,hn,hcm,?_,?_⟩⟩,S,hi,?_,?_⟩
     ·grind
     ·grind
     ·grind
     ·rw[hget i hi,JQ rfl];exact h.tJ f g _ G hold hb I Z hx
     ·intro j hj hji k hk;have pN:k=0:=by rw[E.enc_len,S] at hk;omega
      subst pN;rw[S,Nat.mul_one,JB,hget j hj,QF hji];have:=h3 j hj 0 hk;rw[S,Nat.mul_one,JB] at this;exact h.tJ f g _ G hold hb I Z this
  grind
 grind
theorem aTo {P:Program} {E:Enc U} (h:RR E n N w0 ρ s a w) {look:Nat->Option (aT U)} (f:∀id ob,look id=some ob->s.objs id=some ob)
  {t:TypeId} {p:aC U} {v:Value} (hp:Rel E w ρ (aD N ρ w) p v) {cs:List Prop} {r:aC U} {ob:Option (Nat×aT U)} (ho:Xd P look t p=some (cs,r,ob)) (hc:dZ cs):
  ob=none/\∃ad u,v=.pointer (some ad)/\(loadVar t ad).run P w=.ok u w/\Rel E w ρ (aD N ρ w) r u:=by
 unfold Xd at ho;split at ho
 ·rename_i id g i off sz;split at ho
  ·rename_i t' g' xs i' m gm O;split at ho
   ·rename_i d hu hag;obtain⟨hb,ho⟩:=cC ho;cases ho;simp only[QW] at hb;obtain⟨⟨cJ,dR⟩,gV⟩:=hb;obtain rfl:=QQ cJ;obtain rfl:=QQ dR;obtain rfl:=QQ gV;obtain rfl:i=i':=hc;refine⟨rfl,?_⟩;obtain⟨u1,cs',V,hpp,S,hsz,hil,hm,_⟩:=h.objs _ _ (f _ _ O);cases hp with
    |eptrOld _ _ _ _ _ g' u' v j hg=>
     grind
    |eptr _ _ _ _ _ b n' cap j hi=>
     rw[V] at j;simp only[QJ,QX,true_and] at j;subst j;rcases S.2 with ⟨Z,_⟩|⟨gb,L,cur,G,J,hgb,hn,hcm,hcs,I⟩
     ·cases Z
     simp only[JI,QJ,KQ,and_true] at G;grind [Xt,loadVar,Sem.run_bind,Result.andThen_ok,run_load,cell_of_row]
   grind
  ·rename_i t' g' gm xs O;split at ho
   ·rename_i d hu hag;obtain⟨hb,ho⟩:=cC ho;cases ho;simp only[QW] at hb;obtain⟨⟨cJ,dR⟩,gV⟩:=hb;obtain rfl:=QQ cJ;obtain rfl:=QQ dR;obtain rfl:=QQ gV;refine⟨rfl,?_⟩;obtain⟨u1,cs',V,hpp,S,hsz,hno,h3⟩:=h.objs _ _ (f _ _ O);cases hp with
    |eptrOld _ _ _ _ _ g' u' v j hg=>
     grind
    |eptr _ _ _ _ _ b n' cap j hi=>
     rw[V] at j;simp only[QJ,QX,true_and] at j;subst j;rcases S.2 with ⟨Z,_⟩|⟨gb,L,cur,G,J,hgb,hn,hcm,hcs,I⟩
     ·cases Z
     simp only[JI,QJ,KQ,and_true] at G;obtain⟨rfl,rfl,rfl⟩:=G;have hagg:=Xt (w:=w) hu;obtain⟨t1,ys,v1,ds,q1,q2,q3,q4,q5,q6⟩:=h3 i hi;refine⟨_,v1,rfl,?_,.msl id i gm v1 q2⟩;grind [loadVar,Sem.run_bind,Result.andThen_ok,run_load,cell_of_row]
   grind
  grind
 grind
theorem aVO {C:Cfg U} (h:RR C.E n N w0 ρ s a w) {look:Nat->Option (aT U)} (j:∀id ob,look id=some ob->s.objs id=some ob) {t:TypeId}
  {x:aC U} {v:Value} (hx:Rel C.E w ρ (aD N ρ w) x v) {k:IntKind} {i:Int} {cs:List Prop} {r:aC U} {ob:Option (Nat×aT U)}
  (ho:Xx C look t x i=some (cs,r,ob)) (hc:dZ cs):ob=none/\∃q,(Instr.indexAt t v (.int k i)).run C.P w=.ok q w/\Rel C.E w ρ (aD N ρ w) r q:=by
 unfold Xx at ho;split at ho
 ·rename_i e id g hu;split at ho
  ·rename_i τ g' xs _ _ _ hl;have L:=cC ho;clear ho;obtain⟨hb,ho⟩:=L;simp only[QJ,QX] at ho;obtain⟨rfl,rfl,rfl⟩:=ho;simp only[QW] at hb;obtain rfl:=QQ hb.1;obtain⟨ti,I,G⟩:=tT hb.2;have hi:0<=i/\i<xs.length:=hc;have J:=toNat_lt hi;refine⟨rfl,?_⟩;obtain⟨u,cs',Z,hp,h2,h3⟩:=h.objs _ _ (j _ _ hl);cases hx with
   |osl _ _ u' f hp'=>
    rw[Z] at f;simp only[QJ,QX,true_and] at f;subst f;rcases h2.2 with ⟨h0,pM⟩|⟨gb,O,cur,rfl,V,hgb,hn,hcm,hcs,S⟩
    ·omega
    ·refine⟨.pointer (some ⟨gb,i.toNat*U.size τ,none⟩),?_,?_⟩
     ·simp[Instr.indexAt,asIntOf,QV hu,hi,sizeOf,typeInfo,I,G,addr_add]
     ·exact .eptr id g i.toNat 0 (U.size τ) gb xs.length O Z J
   |oslOld _ _ g' u' v f hg=>
    grind
  grind
 grind
theorem RR.kn {E:Enc U} (h:RR E n N w0 ρ s a w) {m gm:Nat} {t1:U.τ} {ys:List (U.T t1)} (hm:s.objs m=some (.row t1 gm ys)):
  RR E n N w0 (dJ ρ m (gm+1) (.slice none 0 0)) (s.obj m (.row t1 (gm+1) [])) a w/\
  (∀{v:Value},Rel E w ρ (aD N ρ w) (.osl m gm) v->Rel E w (dJ ρ m (gm+1) (.slice none 0 0)) (aD N (dJ ρ m (gm+1) (.slice none 0 0)) w) (.sl t1 ys) v):=by
 obtain⟨um,csm,S,mp,m2,m3,m4⟩:=h.Ld hm;have hold:∀g u,ρ m=some (g,u)->(g=gm+1/\u=.slice none 0 0)\/((∀a,u≠ .pointer a)/\g<gm+1):=fun g u L=>by
  grind
 have hw:Below w0.heap.size w w:=Below.refl _ _;have G:∀b,b<w.heap.size->(∀g u,ρ m=some (g,u)->blk u≠some b)->w.heap[b]?=w.heap[b]?:=fun _ _ _=>rfl
 have I:∀b,blk (.slice none 0 0)=some b->(∃g u,ρ m=some (g,u)/\blk u=some b)\/(w.heap.size<=b):=fun b hb=>by cases hb
 have j:∀ob,s.objs m=some ob->ob.simple=true:=fun ob ho=>by rw[hm] at ho;cases ho;rfl
 refine⟨h.upd m (gm+1) (.slice none 0 0) _ j hold hw G I ⟨.slice none 0 0,[],by simp[dJ],(fun a e=>by cases e),JV _ _ _ _,fun i hi=>absurd hi XQ⟩,fun {v} hv=>?_⟩;have V:um=v:=by
  cases hv with
  |osl _ _ u' Z hp'=>
   grind
  |oslOld _ _ g' u' v Z hg=>
   grind
 subst V;rcases m3 with ⟨⟨ad,rfl⟩,rfl⟩|⟨b,o,cap,f,rfl,O,hc,hl'⟩
 ·exact .slE t1 ad
 ·refine .sl t1 ys b o cap f ?_ O hc (fun i hi k hk=>h.tJ m (gm+1) (.slice none 0 0) j hold hw G I (hl' i hi k hk));obtain⟨q1,q2⟩:=(h.own S).2 b rfl;refine⟨q2,h.qE S rfl,fun id g u L J=>?_⟩
  ·unfold dJ at L;split at L
   ·cases L;cases J
   ·rename_i hne;exact h.sep _ _ _ _ _ _ b S L (fun e=>hne e.symm) rfl J
theorem bA2 {C:Cfg U} (h:RR C.E n N w0 ρ s a w) {look:Nat->Option (aT U)} (I:∀id ob,look id=some ob->s.objs id=some ob)
  {t:TypeId} {τ:U.τ} (hτ:lG C t=some τ) {z:List (aC U)} (hz:zeroCells C.P (U.ety τ)=some z) {len:Nat} (hzl:z.length=U.size τ)
  {f:List (Nat×aC U)} {parts':Array (Nat×Value)} (hpl:f.length=parts'.size)
  (hp:∀k (h:k<f.length) (h':k<parts'.toList.length),f[k].1=parts'.toList[k].1/\Rel C.E w ρ (aD N ρ w) f[k].2 parts'.toList[k].2)
  {cs:List Prop} {r:aC U} {ob:Option (Nat×aT U)} (ho:lz look τ len f=some (cs,r,ob)):
  ∃v' w' ρ',(Instr.buildSlice t len parts').run C.P w=.ok v' w'/\RR C.E n N w0 ρ' (s.putObj ob) a w'/\Rel C.E w' ρ' (aD N ρ' w') r v':=by
 obtain⟨hu,i,hi,Z⟩:=qY hτ;obtain⟨L,hzr,hzsz,hzrel⟩:=xB (E:=C.E) (w:=w) (ρ:=ρ) hz;unfold lz at ho;split at ho
 ·rename_i m gm;split at ho
  ·rename_i t1 gm' ys hlm;split at ho
   ·rename_i y hy;obtain⟨hb,ho⟩:=cC ho;cases ho;simp only[QW] at hb;obtain⟨⟨cJ,dR⟩,gV⟩:=hb;obtain rfl:=QQ cJ;obtain rfl:=QQ dR;have V:=QQ gV;have hps:parts'.toList.length=1:=by grind
    obtain⟨S,O⟩:=hp 0 XQ KI;simp only[JZ] at S O;obtain⟨⟨i0,v⟩,hpe⟩:∃x,parts'.toList=[x]:=List.length_eq_one_iff.1 hps;simp only[hpe,JZ] at S O;subst S;have hone:v.oneCell'=true:=xM h I O (by grind [storable]);have hcu:v.cells=#[v]:=cells_one hone;have hpe':parts'=#[(0,v)]:=by grind
    subst hpe';have hrow:((Array.range (1*1)).map (fun k=>L.cells[k % L.cells.size]!)).size=1:=XQ;have J:Instr.fill (fun i=>some (i*1,1)) ((Array.range (1*1)).map (fun k=>L.cells[k % L.cells.size]!)) [(0,v)]=some #[v]:=by
     generalize (Array.range (1*1)).map (fun k=>L.cells[k % L.cells.size]!)=base at hrow;obtain⟨b0,rfl⟩:∃b0,base=#[b0]:=by
      obtain⟨l⟩:=base;grind [List.length_eq_one_iff]
     simp[Instr.fill,hcu]
    obtain⟨hR,hv⟩:=h.kn (I _ _ hlm);have G:Below w.heap.size w (w.alloc (.cells #[v] (U.ety τ))):=(Below.refl _ _).alloc (QP _) _;refine⟨.slice (some ⟨w.heap.size,0,none⟩) 1 1,w.alloc (.cells #[v] (U.ety τ)),_,?_,hR.ext G,?_⟩
    ·have lV:¬1*i.size > 2^24:=KI;have h0:¬1*i.size=0:=KI;rw[Z,V] at lV h0;simp only[Instr.buildSlice,QE,QV hu,QL,sizeOf,typeInfo,run_program,hi,JO,Z,V,QF lV,QF h0,hzr,J,newRow,run_newObj];rfl
    ·have hst:∀b,aD N (dJ ρ m (gm+1) (.slice none 0 0)) w b->aD N (dJ ρ m (gm+1) (.slice none 0 0)) (w.alloc (.cells #[v] (U.ety τ))) b/\(w.alloc (.cells #[v] (U.ety τ))).heap[b]?=w.heap[b]?:=fun b ⟨S,O,q3⟩=>
      ⟨⟨JX S G.size,O,q3⟩,G.block b S⟩
     refine .sl τ [y] w.heap.size 0 1 (fun k=>if k=0 then v else undef) ⟨XQ,h.T8 (QP _),fun id g u hr hbl=>?_⟩ XQ (fun k hk=>?_) (fun j hj k hk=>?_)
     ·have:=(hR.own hr).2 _ hbl;omega
     ·simp_all
     ·have pO:j=0:=by grind
      subst pO;have hey:=C.E.unsl_ok _ _ _ _ hy;have pN:k=0:=by
       grind
      subst pN;have e1:(C.E.enc τ [y][0])[0]=.sl t1 ys:=by
       grind
      rw[e1,Nat.zero_mul,JB,JQ rfl];exact(hv O).mono hst (fun _ _ _ hr=>.inl hr)
   grind
  grind
 grind
end
section
variable {U:eO} {n:Nat} {N:Nat->Prop} {w0:Fr} {w w':World} {ρ ρ':Own} {s:ASt U} {a:Act}
theorem wk {E:Enc U} {st st':Nat->Prop} {r:aC U} {v:Value} (f:Q7 r=true) (h:Rel E w ρ st r v):Rel E w' ρ' st' r v:=by
 cases r with
 |agg l=>
  cases h with
  |agg _ u G I=>exact .agg l u G (fun k j=>(I k j).pure (QT.1 f _ (QH j)))
 |_=>exact h.pure f
theorem aQE {E:Enc U} {st st':Nat->Prop} {r:aC U} {v:Value} (f:r.yF=true) (h:Rel E w ρ st r v):Rel E w' ρ' st' r v:=by
 cases r with
 |tup l=>
  cases h with
  |tup _ u G I=>exact .tup l u G (fun k j=>wk (QT.1 f _ (QH j)) (I k j))
 |_=>exact wk f h
theorem gF.closed {E:Enc U} {st st':Nat->Prop} {base id f:Nat} {ob:aT U} (O:ob.closed=true) (h1:ρ' (.ob f)=ρ (.ob id)) (V:∀j,ρ' (.mem f j)=ρ (.mem id j))
  (hst:∀b,st b->st' b) (h:gF E w ρ st base id ob):gF E w ρ' st' base f ob:=by
 have Z:∀{x:aC U} {v:Value},x.flat=true->Rel E w ρ st x v->Rel E w ρ' st' x v:=fun hx hv=>
  (hv.flat (ρ':=cO) hx).mono (fun b hb=>⟨hst b hb,rfl⟩) (fun _ _ _ hr=>by cases hr)
 cases ob with
 |cells l=>
  obtain⟨b,c,ty,q1,L,J,q4,q5⟩:=h;exact⟨b,c,ty,by grind,L,J,q4,fun k G=>Z (QT.1 O _ (QH G)) (q5 k G)⟩
 |row t g xs=>
  obtain⟨u,cs,q1,hp,L,J⟩:=h;exact⟨u,cs,by grind,hp,L,fun i h k G=>Z (E.enc_flat t _ _ (QH G)).1 (J i h k G)⟩
 |rowF t g xs i m S=>cases O
 |deep t g S xs=>
  obtain⟨u,cs,q1,hp,L,hs,hm,J⟩:=h;refine⟨u,cs,by grind,hp,L,hs,fun j I=>by grind,fun j I=>?_⟩;obtain⟨t1,ys,v,ds,r1,r2,r3,r4,r5,r6⟩:=J j I;exact⟨t1,ys,v,ds,r1,by grind,r3,r4,r5,fun i hi k G=>Z (E.enc_flat t1 _ _ (QH G)).1 (r6 i hi k G)⟩
 |deepS t g S xs i=>cases O
 |deepF t g S xs m gq=>cases O
 |one t g m S=>cases O
 |gone g S n=>
  exact⟨by rw[h1];exact h.1,fun j I=>by rw[V];exact h.2.1 j I,fun j I=>by rw[V];exact h.2.2 j I⟩
 |opq k d=>
  show E.rep k d w base (ρ' (.ob f)) (fun j=>ρ' (.mem f j));rw[h1,show (fun j=>ρ' (.mem f j))=fun j=>ρ (.mem id j) from funext V];exact h
def only(ρ:Own) (id f:Nat):Own:=fun nm=>if nm.id=f then ρ (nm.at id) else none
def Hw (ρ ρ':Own) (id f:Nat):Own:=fun nm=>if nm.id=id then ρ' (nm.at f) else ρ nm
theorem Vr (ρ:Own) (id f:Nat):only ρ id f (.ob f)=ρ (.ob id):=JQ rfl
theorem aQz (ρ:Own) (id f j:Nat):only ρ id f (.mem f j)=ρ (.mem id j):=JQ rfl
theorem yO {ρ:Own} {id f:Nat} {nm:Name} {g:Nat} {u:Value} (h:only ρ id f nm=some (g,u)):nm.id=f/\ρ (nm.at id)=some (g,u):=by
 grind [only]
theorem aXk {E:Enc U} {st:Nat->Prop} {id I:Nat} {x y:aC U} {v:Value} (h:Zs id I x=some y) (f:Rel E w ρ st x v):Rel E w (only ρ id I) st y v:=by
 have Z:∀{x:aC U} {v:Value},x.flat=true->Rel E w ρ st x v->Rel E w (only ρ id I) st x v:=fun f hv=>hv.flat f
 unfold Zs at h;split at h
 ·rename_i i off;obtain⟨hb,h⟩:=cC h;cases h;obtain rfl:=QQ hb;cases f with
  |ptr _ _ b hp=>exact .ptr _ _ b (by rw[Vr];exact hp)
 ·rename_i i g;obtain⟨hb,h⟩:=cC h;cases h;obtain rfl:=QQ hb;cases f with
  |osl _ _ _ hp O=>exact .osl _ _ _ (by rw[Vr];exact hp) O
  |oslOld _ _ V u _ hp S=>exact .oslOld _ _ V u _ (by rw[Vr];exact hp) S
 ·rename_i l;obtain⟨hb,h⟩:=cC h;cases h;cases f with
  |agg _ G J L=>exact .agg l G J (fun k j=>Z (QT.1 hb _ (QH j)) (L k j))
 ·obtain⟨hb,h⟩:=cC h;cases h;unfold aC.Hf at hb;split at hb
  ·cases f with
   |fn _ _ G J L=>exact .fn _ [] G J (fun k j=>absurd j XQ)
  grind
theorem aXi {E:Enc U} {st:Nat->Prop} {id f:Nat}:∀(xs ys:List (aC U)) (args:List Value),Hj id f xs=some ys->args.length=xs.length->(∀k (h:k<xs.length),Rel E w ρ st xs[k] (args.getD k undef))->
  ys.length=xs.length/\∀k (h:k<ys.length),Rel E w (only ρ id f) st ys[k] (args.getD k undef):=by
 intro xs
 induction xs with
 |nil=>
  intro ys args h _ _;cases h;grind
 |cons x l G=>
  intro ys args h j I;simp only[Hj] at h;split at h
  ·rename_i y m J hm;cases h
   match args,j with
   |v::u,j=>
    obtain⟨S,O⟩:=G m u hm (by grind) (fun k L=>I (k+1) (by grind));grind [aXk]
  grind
theorem aXj {id f:Nat}:∀(xs ys:List (aC U)) (j:Nat),ownArg j xs=some (f,id)->Hj id f xs=some ys->ownArg j ys=some (f,f):=by
 intro xs
 induction xs with
 |nil=>intro ys j h;cases h
 |cons x l I=>
  intro ys j h u;simp only[Hj] at u;split at u
  ·rename_i y m G hm;cases u;unfold Zs at G;grind [ownArg]
  grind
theorem aXh {id f:Nat} {r:aC U} (h:r.yF=true):jw id f r=r:=by
 cases r<;>first|rfl| (cases h;done)
theorem aXg {C:Cfg U} (hs:fY C w0) (h:RR C.E n N w0 ρ s a w) {look:Nat->Option (aT U)} (hlook:∀id ob,look id=some ob->s.objs id=some ob) {f:FuncId}
  {m:List (aC U)->aT U->Option (List Prop×aC U×aT U)} (hm:C.eff f=some m) {xs:List (aC U)} {args:Array Value} (hn:args.size=xs.length) (hx:∀k (h:k<xs.length),Rel C.E w ρ (aD N ρ w) xs[k] (args.getD k undef))
  {cs:List Prop} {r:aC U} {ob:Option (Nat×aT U)} (ho:jv look m xs=some (cs,r,ob)) (hc:dZ cs):
  (callFunc f args).run C.P w=.ok (.enter f args) w/\Calls C.P f args w fun e w'=>∃v,e=.returned v/\∃ρ',RR C.E n N w0 ρ' (s.putObj ob) a w'/\Rel C.E w' ρ' (aD N ρ' w') r v:=by
 unfold jv at ho;split at ho
 ·rename_i L id hown;split at ho
  ·rename_i ye hl;split at ho
   ·rename_i ys hys;split at ho
    ·rename_i kN r1 yR hmr;obtain⟨hb,ho⟩:=cC ho;cases ho;simp only[QW] at hb;obtain⟨⟨oB,oA⟩,Z⟩:=hb;obtain⟨hcall,hsum⟩:=hs.2 f m hm;refine⟨hcall args w,?_⟩;have hob:=h.objs _ _ (hlook _ _ hl);obtain⟨Gq,Oj⟩:=aXi (E:=C.E) (st:=aD N ρ w) xs ys args.toList hys KI (fun k hk=>by
      have:=hx k hk;simpa using this)
     have hdom:∀nm:Name,nm.id=id->∀g u,ρ nm=some (g,u)->ye.simple=true->nm=.ob id:=fun nm G g u I hsi=>by
      obtain⟨o,S,q2⟩:=h.dom _ _ _ I;rw[G,hlook _ _ hl] at S;obtain rfl:=QU S;obtain⟨i,rfl⟩:=q2 hsi;rw[show i=id from G]
     refine(hsum (aD N ρ w) (only ρ id L) w args L ys ye yR cs r1 h.below (fun b hb=>⟨hb.1,fun nm g u I=>hb.2.2 _ _ _ (yO I).2⟩) (fun nm g u I=>?_) (fun nm V g g' u u' b I J hne hb=>?_)
      (hob.closed oB (Vr ρ id L) (aQz ρ id L) (fun _ h=>h)) KI (fun k hk=>by simpa using Oj k hk) oB hmr hc oA Z (aXj _ _ _ hown hys)).mono ?_
     ·obtain⟨S,q2⟩:=yO I;refine⟨S,fun hsi=>?_⟩;have:=hdom _ (Name.sY id nm) _ _ q2 hsi;cases nm with
      |ob i=>rw[show i=L from S]
      |mem i j=>cases this
     ·obtain⟨S,q2⟩:=yO I;obtain⟨q3,q4⟩:=yO J;exact h.sep _ _ _ _ _ _ b q2 q4 (fun e=>hne (Name.J0 (S.trans q3.symm) e)) hb
     ·rintro e w' ⟨v,ρ1,rfl,hv,hob1,hd1,hch⟩
      have o1:∀nm:Name,nm.id=id->only ρ id L (nm.at L)=ρ nm:=fun nm G=>by
       unfold only;rw[JQ (Name.sY L nm)];cases nm with
       |ob i=>rw[show i=id from G];rfl
       |mem i j=>rw[show i=id from G];rfl
      have b1:∀nm:Name,nm.id=id->Hw ρ ρ1 id L nm=ρ1 (nm.at L):=fun nm G=>JQ G
      have c:Chg N (fun i=>i=id) w0.heap.size ρ (Hw ρ ρ1 id L) w w':=by
       refine⟨fun nm G=>QF G,fun nm g u G I=>?_,hch.below,fun b hb hne=>?_,fun nm g u b G I O=>?_,fun nm V g g' u u' b G hnm' I J hne O=>?_⟩
       ·rw[b1 nm G];exact hch.mono (nm.at L) g u (Name.sY L nm) (by grind)
       ·exact hch.same b hb (fun nm g u G I=>hne (nm.at id) g u (Name.sY id nm) (yO I).2)
       ·rw[b1 nm G] at I;rcases hch.new _ g u b (Name.sY L nm) I O with ⟨V,g',u',hnm',J,hbl'⟩|hge
        ·exact .inl ⟨V.at id,g',u',Name.sY id V,(yO J).2,hbl'⟩
        omega
       ·rw[b1 nm G] at I;rw[b1 V hnm'] at J;exact hch.sep _ _ _ _ _ _ b (Name.sY L nm) (Name.sY L V) I J (fun e=>hne (Name.J0 (show nm.id=V.id from G.trans hnm'.symm) e)) O
      have hst:∀b,((aD N ρ w b\/w.heap.size<=b\/∃nm g u,only ρ id L nm=some (g,u)/\blk u=some b)/\b<w'.heap.size/\∀nm g u,ρ1 nm=some (g,u)->blk u≠some b)->aD N (Hw ρ ρ1 id L) w' b:=by
       rintro b ⟨S,q2,q3⟩
       refine⟨q2,?_,fun nm g u I O=>?_⟩
       ·rcases S with S|S|⟨nm,g,u,I,O⟩
        ·exact S.2.1
        ·exact h.T8 S
        ·exact h.qE (yO I).2 O
       ·by_cases G:nm.id=id
        ·grind
        ·have pL:ρ nm=some (g,u):=by rw[<- I];exact(QF G).symm
         rcases S with S|S|⟨V,g',u',J,hbl'⟩
         ·exact S.2.2 _ _ _ pL O
         ·have:=((h.own pL).2 b O).2;omega
         ·exact h.sep _ _ _ _ _ _ b pL (yO J).2 (fun e=>by grind [Name.sY]) O hbl'
      have hob2:gF C.E w' (Hw ρ ρ1 id L) (aD N (Hw ρ ρ1 id L) w') w0.heap.size id yR:=
       hob1.closed oA (b1 (.ob id) rfl) (fun j=>b1 (.mem id j) rfl) hst
      refine⟨v,rfl,Hw ρ ρ1 id L,h.change c rfl (fun i hi=>?_) (fun nm g u G I=>?_) (fun i o hi hio=>?_) (fun i o hi _=>⟨yR,by
       rw[hi];show cond (Nat.beq id id) _ _=_;rw[KL];rfl⟩),?_⟩
      ·show cond (Nat.beq i id) _ _=_;rw[fX hi];rfl
      ·have e:(s.putObj (some (id,yR))).objs nm.id=some yR:=by
        show cond (Nat.beq nm.id id) _ _=_;rw[G,KL];rfl
       refine⟨yR,e,fun hsi=>?_⟩;rw[b1 nm G] at I;have:=(hd1 _ _ _ I).2 hsi;cases nm with
       |ob i=>grind
       |mem i j=>cases this
      ·subst hi;have e:(s.putObj (some (i,yR))).objs i=some yR:=by
        show cond (Nat.beq i i) _ _=_;rw[KL];rfl
       grind
      ·cases hpp:r1.yF with
       |true=>
        grind [aXh,aQE]
       |false=>
        rw[hpp,Bool.false_or] at Z;have lU:=hv.2 Z;unfold Gc at Z;split at Z
        ·rename_i k g1 t g2 Rk;simp only[QW] at Z;obtain rfl:=QQ Z.1;obtain rfl:=QQ Z.2;have e0:jw id k (.osl k g1:aC U)=.osl id g1:=by
          show cond (Nat.beq k k) _ _=_;grind
         rw[e0];obtain⟨u2,cs2,p1,p2,_⟩:=hob1;cases lU with
         |osl _ _ u' J hp'=>exact .osl id g1 v (by rw[b1 (.ob id) rfl];exact J) hp'
         |oslOld _ _ g' u' v J hg=>
          grind
        grind
    grind
   grind
  grind
 grind
end
section
variable {U:eO} {n:Nat} {N:Nat->Prop} {w0:Fr} {w w':World} {ρ ρ':Own} {s:ASt U} {a:Act}
theorem yK {E:Enc U} (h:RR E n N w0 ρ s a w) (f:Array (Nat×Operand)):∀k (j:k<(f.toList.map fun p=>(p.1,s.eval p.2)).length) (u:k<(f.map fun (p:Nat×Operand)=>(p.1,a.eval p.2)).toList.length),
  (f.toList.map fun p=>(p.1,s.eval p.2))[k].1=(f.map fun (p:Nat×Operand)=>(p.1,a.eval p.2)).toList[k].1/\
   Rel E w ρ (aD N ρ w) (f.toList.map fun p=>(p.1,s.eval p.2))[k].2 (f.map fun (p:Nat×Operand)=>(p.1,a.eval p.2)).toList[k].2:=by
 intro k j u;simp only[List.getElem_map,Array.getElem_toList,Array.getElem_map];exact⟨trivial,h.eval _⟩
theorem aPD {E:Enc U} {st:Nat->Prop}:∀(l:List (aC U)) (f:List Value),Uo l=some f->∀(ws:List Value),ws.length=l.length->(∀k (h:k<l.length),Rel E w ρ st l[k] (ws.getD k undef))->ws=f:=by
 intro l
 induction l with
 |nil=>
  intro f h ws j _;cases h;grind
 |cons x l J=>
  intro f h ws j G
  match ws,j with
  |v::ws,j=>
   have I:=G 0 XQ;simp only[JZ,List.getD_cons_zero] at I;cases x<;>simp only[Uo] at h<;>(try (cases h;done))
   split at h
   ·rename_i k n L u;cases h;cases I;rw[J _ u ws (by grind) (fun k O=>G (k+1) (by grind))]
   grind
theorem aHC {E:Enc U} {ρ':Own} {st:Nat->Prop} {x:aC U} {v:Value} (f:x.Hf=true) (h:Rel E w ρ st x v):Rel E w ρ' st x v:=by
 unfold aC.Hf at f;split at f
 ·cases h with
  |fn J _ j u I=>exact .fn _ [] j u (fun k G=>absurd G XQ)
 ·exact h.flat f
theorem aWg {E:Enc U} {ρ':Own} {st:Nat->Prop} {x:aC U} {v:Value} (f:x.Pa=true) (h:Rel E w ρ st x v):Rel E w ρ' st x v:=by
 unfold aC.Pa at f;split at f
 ·rename_i l;cases h with
  |agg _ u G I=>exact .agg l u G (fun k j=>aHC (QT.1 f _ (QH j)) (I k j))
 ·exact aHC f h
set_option maxHeartbeats 4000000 in
theorem aIU {C:Cfg U} (hs:fY C w0) (h:RR C.E n N w0 ρ s a w) {look:Nat->Option (aT U)} (I:∀id ob,look id=some ob->s.objs id=some ob) {o:Oper}
  (hfresh:∀d,o.dst=some d->look (C.off+d)=none->s.objs (C.off+d)=none) (hd:∀d,o.dst=some d->d<n) {cs:List Prop} {r:aC U} {ob:Option (Nat×aT U)} (ho:aop C o s.eval look=some (cs,r,ob)) (hc:dZ cs)
  {K:Act->World->Prop} {Q:Exit->Act->World->Prop} (hK:∀ρ' u w',RR C.E n N w0 ρ' ((s.putObj ob).put o.dst r) (a.put o.dst u) w'->K (a.put o.dst u) w'):o.wp C.P a w K Q:=by
 have hstor:∀(x:aC U) v,Rel C.E w ρ (aD N ρ w) x v->storable look x=true->v.oneCell'=true:=fun x v hx hsx=>xM h I hx hsx
 -- a value, the world as it was
 have same:∀{u:Value},(execOp a.eval o).run C.P w=.ok (.value u) w->Rel C.E w ρ (aD N ρ w) r u->ob=none->o.wp C.P a w K Q:=fun hr hu hob=>by
  subst hob;exact jU hr (hK ρ _ w (h.put o.dst hd hu))
 obtain⟨dst,op,ty,pos,after,guard⟩:=o;unfold aop at ho
 try simp only at ho
 try simp only at hK
 try simp only at hd
 try simp only at hfresh
 cases op<;>(try simp only at ho)<;>(try (cases ho;done))
 case move x=>
  simp only[val,QJ,QX] at ho;obtain⟨rfl,rfl,rfl⟩:=ho;exact same rfl (h.eval x) rfl
 case assign x=>
  simp only[val,QJ,QX] at ho;obtain⟨rfl,rfl,rfl⟩:=ho;exact same rfl (h.eval x) rfl
 case pick c x y=>
  have hcr:=h.eval c;have J:=h.eval x;have hyr:=h.eval y;have G:∀b,a.eval c=.bool b->(execOp a.eval {dst:=dst,op:=.pick c x y,type:=ty,pos:=pos,after:=after,guard:=guard}).run C.P w=.ok (.value (if b then a.eval x else a.eval y)) w:=fun b hb=>by
   simp_all[execOp,asBool]
  split at ho
  ·rename_i b bx byv oA sN Gq;simp only[val,QJ,QX] at ho;obtain⟨rfl,rfl,rfl⟩:=ho;rw[oA] at hcr;rw[sN] at J;rw[Gq] at hyr;generalize hce:a.eval c=vc at hcr;cases hcr;grind
  ·rename_i b oA _;rw[oA] at hcr;generalize hce:a.eval c=vc at hcr;cases hcr;grind [val]
  grind
 case alloc t=>
  split at ho
  ·rename_i d;split at ho
   ·rename_i V;split at ho
    ·rename_i x hx;simp only[QJ,QX] at ho;obtain⟨rfl,rfl,rfl⟩:=ho;obtain⟨w',ρ',G,hR,hp⟩:=bBS h (hfresh d rfl V) hx;refine jU (u:=.pointer (some ⟨w.heap.size,0,none⟩)) (w':=w') ?_ (hK ρ' _ w' (hR.put (some d) hd (.ptr (C.off+d) 0 _ hp)));simp[execOp,G]
    ·split at ho
     ·rename_i l hz;simp only[QJ,QX] at ho;obtain⟨rfl,rfl,rfl⟩:=ho;obtain⟨w',ρ',G,hR,hp⟩:=bBR h (hfresh d rfl V) hz;refine jU (u:=.pointer (some ⟨w.heap.size,0,none⟩)) (w':=w') ?_ (hK ρ' _ w' (hR.put (some d) hd (.ptr (C.off+d) 0 _ hp)));simp[execOp,G]
     grind
   grind
  grind
 case box t x=>
  split at ho
  ·rename_i d;split at ho
   ·rename_i V;have hbb:=cC ho;clear ho;obtain⟨hb,ho⟩:=hbb;simp only[QJ,QX] at ho;obtain⟨rfl,rfl,rfl⟩:=ho;obtain⟨w',ρ',G,hR,hp⟩:=bA4 (P:=C.P) h I (hfresh d rfl V) t (h.eval x) hb;refine jU (u:=.pointer (some ⟨w.heap.size,0,none⟩)) (w':=w') ?_ (hK ρ' _ w' (hR.put (some d) hd (.ptr (C.off+d) 0 _ hp)));show ((do pure (Next.value (<- Instr.box t (a.eval x)))):Sem Next).run C.P w=_;simp_all
   grind
  grind
 case build t O=>
  split at ho
  ·rename_i pl z hpl hz;split at ho
   ·rename_i l V;simp only[val,QJ,QX] at ho;obtain⟨rfl,rfl,rfl⟩:=ho;obtain⟨q,G,Z⟩:=bAZ (E:=C.E) (w:=w) (ρ:=ρ) hstor hpl hz (parts':=O.map fun (p:Nat×Operand)=>(p.1,a.eval p.2)) XQ (yK h O) V;refine same ?_ Z rfl;show ((do pure (Next.value (<- Instr.build t (O.map fun (p:Nat×Operand)=>(p.1,a.eval p.2)))):Sem Next)).run C.P w=_;simp_all
   grind
  grind
 case buildSlice t len O=>
  split at ho
  ·rename_i d τ hτ;split at ho
   ·rename_i z V hz;have hbb:=cC ho;clear ho;obtain⟨hb,ho⟩:=hbb;simp only[QW] at hb;split at ho
    ·rename_i l hfl;split at ho
     ·rename_i xs hxs;cases hpu:C.pur with
      |true=>
       rw[hpu,QY] at ho;simp only[QJ,QX] at ho;obtain⟨rfl,rfl,rfl⟩:=ho;obtain⟨q,w',G,hR,Z⟩:=bA0 h I hτ hz (QQ hb.1) (QR hb.2) (parts':=O.map fun (p:Nat×Operand)=>(p.1,a.eval p.2)) XQ (yK h O) hfl hxs;refine jU (u:=q) (w':=w') ?_ (hK ρ _ w' (hR.put (some d) hd Z));show ((do pure (Next.value (<- Instr.buildSlice t len (O.map fun (p:Nat×Operand)=>(p.1,a.eval p.2)))):Sem Next)).run C.P w=_;simp_all
      |false=>
      rw[hpu,QK] at ho;split at ho
      ·simp only[QJ,QX] at ho;obtain⟨rfl,rfl,rfl⟩:=ho;obtain⟨q,w',ρ',G,hR,Z⟩:=aII h I (hfresh d rfl V) hτ hz (QQ hb.1) (QR hb.2) (parts':=O.map fun (p:Nat×Operand)=>(p.1,a.eval p.2)) XQ (yK h O) hfl hxs;refine jU (u:=q) (w':=w') ?_ (hK ρ' _ w' (hR.put (some d) hd Z));show ((do pure (Next.value (<- Instr.buildSlice t len (O.map fun (p:Nat×Operand)=>(p.1,a.eval p.2)))):Sem Next)).run C.P w=_;simp_all
      ·obtain⟨_,ho⟩:=ll ho;simp only[QJ,QX] at ho;obtain⟨rfl,rfl,rfl⟩:=ho;obtain⟨q,w',ρ',G,hR,Z⟩:=aII h I (hfresh d rfl V) hτ hz (QQ hb.1) (QR hb.2) (parts':=O.map fun (p:Nat×Operand)=>(p.1,a.eval p.2)) XQ (yK h O) hfl hxs;obtain⟨hR2,lU⟩:=hR.kn (m:=C.off+d) (gm:=0) (t1:=τ) (ys:=xs) (by simp[ASt.obj]);have e:(s.obj (C.off+d) (.row τ 0 xs)).obj (C.off+d) (.row τ (0+1) [])=s.obj (C.off+d) (.row τ 1 []):=by
        simp only[ASt.obj,ASt.mk.injEq,true_and];grind
       rw[e] at hR2;refine jU (u:=q) (w':=w') ?_ (hK _ _ w' (hR2.put (some d) hd (lU Z)));show ((do pure (Next.value (<- Instr.buildSlice t len (O.map fun (p:Nat×Operand)=>(p.1,a.eval p.2)))):Sem Next)).run C.P w=_;simp_all
     ·obtain⟨_,ho⟩:=ll ho;obtain⟨q,w',ρ',G,hR,Z⟩:=bA2 h I hτ hz (QQ hb.1) (parts':=O.map fun (p:Nat×Operand)=>(p.1,a.eval p.2)) XQ (yK h O) ho;refine jU (u:=q) (w':=w') ?_ (hK ρ' _ w' (hR.put (some d) hd Z));show ((do pure (Next.value (<- Instr.buildSlice t len (O.map fun (p:Nat×Operand)=>(p.1,a.eval p.2)))):Sem Next)).run C.P w=_;simp_all
    grind
   grind
  grind
 case makeSlice t x y=>
  split at ho
  ·rename_i d τ hτ;split at ho
   ·rename_i z i V hz hi;split at ho
    ·rename_i e k c k' m he hx hy;obtain⟨hb,ho⟩:=cC ho;simp only[QW] at hb;split at ho
     ·cases ho
     simp only[QJ,QX] at ho;obtain⟨rfl,rfl,rfl⟩:=ho;obtain⟨oB,rfl,uE⟩:=hc;have J:=h.eval x;have hyr:=h.eval y;rw[hx] at J;rw[hy] at hyr;obtain⟨q,w',ρ',G,hR,Z⟩:=aTc h (hfresh d rfl V) hτ hz (QQ hb.1) he hi (QR hb.2) (k:=k) (k':=k') oB uE;refine jU (u:=q) (w':=w') ?_ (hK ρ' _ w' (hR.put (some d) hd Z));generalize S:a.eval x=vx at J;generalize hye:a.eval y=vy at hyr;cases J;cases hyr;show ((do pure (Next.value (<- Instr.makeSlice t (a.eval x) (a.eval y))):Sem Next)).run C.P w=_;simp_all
    grind
   grind
  grind
 case load t p=>
  split at ho
  ·rename_i l off hb;obtain⟨b,o',f,hv,hat⟩:=aIM h I (h.eval p) hb;unfold val? at ho;split at ho
   ·rename_i x hx;simp only[QJ,QX] at ho;obtain⟨rfl,rfl,rfl⟩:=ho;obtain⟨u,G,hu⟩:=aCs hx hat;simp_all[execOp,Instr.loadAt,Instr.sureAddr]
   grind
  ·obtain⟨hob,ad,u,hv,G,hu⟩:=aTo (P:=C.P) h I (h.eval p) ho hc;simp_all[execOp,Instr.loadAt,Instr.sureAddr]
 case store t p x=>
  split at ho
  ·rename_i m hm;have hbb:=cC ho;clear ho;obtain⟨hb,ho⟩:=hbb;split at ho
   ·rename_i ob' hob;simp only[QJ,QX] at ho;obtain⟨rfl,rfl,rfl⟩:=ho;obtain⟨id,obj⟩:=ob';obtain⟨w',ρ',G,hR⟩:=aLv (P:=C.P) h I (h.eval p) (h.eval x) hob hm (QQ hb);refine L3 (w':=w') ?_ (hK ρ' _ w' (hR.put dst hd (.raw _)));simp[execOp,G]
   ·split at ho
    ·rename_i ob' hob;simp only[QJ,QX] at ho;obtain⟨rfl,rfl,rfl⟩:=ho;obtain⟨id,obj⟩:=ob';have h1:(s.eval x).cellsOf.length=1:=aWe hob;obtain⟨w',ρ',G,hR⟩:=aWd (P:=C.P) h I (h.eval p) (h.eval x) hob (t:=t) (by simp_all);refine L3 (w':=w') ?_ (hK ρ' _ w' (hR.put dst hd (.raw _)));simp[execOp,G]
    grind
  grind
 case binOp op xt x y yt=>
  split at ho
  ·rename_i r' hab;simp only[val,QJ,QX] at ho;obtain⟨rfl,rfl,rfl⟩:=ho;obtain⟨q,G,Z⟩:=bBZ (P:=C.P) (a:=a) (X:=x) (h.eval x) hab;refine same ?_ Z rfl;simp only[execOp,QE] at G ⊢;simp_all
  ·split at ho
   ·rename_i cs' r' hab;simp only[QJ,QX] at ho;obtain⟨rfl,rfl,rfl⟩:=ho;obtain⟨q,G,Z⟩:=bBa (C:=C) (t:=xt) (X:=x) (Y:=y) (h.eval x) (h.eval y) hab hc;refine same ?_ Z rfl;simp only[execOp,QE] at G ⊢;simp_all
   grind
 case convert src dt x=>
  split at ho
  ·rename_i d1 k k1 n1 hsr hdt S;simp only[val,QJ,QX] at ho;obtain⟨rfl,rfl,rfl⟩:=ho;have J:=h.eval x;rw[S] at J;generalize hve:a.eval x=vx at J;cases J;refine same (u:=.int k (k.wrap n1)) ?_ (.int _ _) rfl;simp_all[execOp,convert,QV,Conv.intToInt]
  grind
 case unOp op xt x=>
  unfold val? at ho;split at ho
  ·rename_i r' hab;simp only[QJ,QX] at ho;obtain⟨rfl,rfl,rfl⟩:=ho;obtain⟨q,G,Z⟩:=bAx (P:=C.P) (h.eval x) hab;simp_all[execOp]
  grind
 case fieldAddr t x f=>
  split at ho
  ·rename_i fo hfo;obtain⟨q,G,Z,hob⟩:=aWn (P:=C.P) (look:=look) hfo (h.eval x) ho (fun id g i off sz hst=>by
    unfold storable at hst;simp only at hst;split at hst
    ·rename_i t' g' xs V;obtain rfl:=QQ hst;obtain⟨u,_,h1,_⟩:=h.objs _ _ (I _ _ V);grind
    grind) (fun id i g j off sz hst=>zq h I hst)
   simp_all[execOp]
  grind
 case nilCheck x=>
  have G:∀ad,a.eval x=.pointer (some ad)->(execOp a.eval {dst:=dst,op:=.nilCheck x,type:=ty,pos:=pos,after:=after,guard:=guard}).run C.P w=.ok (.value (a.eval x)) w:=fun ad hp=>by
   simp[execOp,hp]
  have J:=h.eval x;split at ho
  ·rename_i id off S;simp only[val,QJ,QX] at ho;obtain⟨rfl,rfl,rfl⟩:=ho;rw[S] at J;refine same ?_ J rfl;generalize hfv:a.eval x=fv at J G ⊢;cases J with
   |ptr _ _ b hb=>grind
  ·rename_i id g i off sz S;obtain⟨hst,ho⟩:=cC ho;simp only[val,QJ,QX] at ho;obtain⟨rfl,rfl,rfl⟩:=ho;rw[S] at J;refine same ?_ J rfl;generalize hfv:a.eval x=fv at J G ⊢;cases J with
   |eptr _ _ _ _ _ b n' cap hr hi=>grind
   |eptrOld _ _ _ _ _ g' u v hr hg=>
    unfold storable at hst;simp only at hst;split at hst
    ·rename_i t' g'' xs V;obtain rfl:=QQ hst;obtain⟨u',_,h1,_⟩:=h.objs _ _ (I _ _ V);grind
    grind
  ·rename_i id i g j off sz S;obtain⟨hst,ho⟩:=cC ho;simp only[val,QJ,QX] at ho;obtain⟨rfl,rfl,rfl⟩:=ho;rw[S] at J;refine same ?_ J rfl;generalize hfv:a.eval x=fv at J G ⊢;cases J with
   |meptr _ _ _ _ _ _ b n' cap hr hi=>grind
   |meptrOld _ _ _ _ _ _ g' u v hr hg=>
    grind [zq]
  ·rename_i l off S;simp only[val,QJ,QX] at ho;obtain⟨rfl,rfl,rfl⟩:=ho;rw[S] at J;refine same ?_ J rfl;generalize hfv:a.eval x=fv at J G ⊢;cases J with
   |ref _ _ b o f hb hc V=>grind
  grind
 case makeFunc fn first captured=>
  split at ho
  ·rename_i f;obtain⟨h0,ho⟩:=cC ho;simp only[val,QJ,QX] at ho;obtain⟨rfl,rfl,rfl⟩:=ho;have uD:first.size=0:=QQ h0;have hfe:first=#[]:=Array.eq_empty_of_size_eq_zero uD
   subst hfe;refine same (u:=.func (.func f) #[] (captured.map a.eval)) ?_ (.fn f _ _ XQ (fun k hk=>?_)) rfl
   ·simp[execOp,Instr.makeFunc]
   ·have hk':k<captured.size:=by grind
    have:=h.eval captured[k];simp_all
  grind
 case field t x f=>
  split at ho
  ·rename_i fields hu;split at ho
   ·rename_i fl l hfl V;unfold val? at ho;split at ho
    ·rename_i y hy;simp only[QJ,QX] at ho;obtain⟨rfl,rfl,rfl⟩:=ho;have hx:=h.eval x;rw[V] at hx;generalize hve:a.eval x=vx at hx;cases hx with
     |agg _ vs hn hr=>
      obtain⟨q,G,Z⟩:=Gb (w:=w) hy hn hr;simp_all[execOp,Instr.field,QV,asAgg]
    grind
   grind
  grind
 case indexAddr t x ix=>
  split at ho
  ·rename_i k i hix;have hi:=h.eval ix;rw[hix] at hi;generalize hve:a.eval ix=vi at hi;cases hi;split at ho
   ·rename_i q0 hq0;obtain rfl:=QU ho;obtain⟨hob,q,G,Z⟩:=aVP (k:=k) h I (h.eval x) hq0 hc;simp_all[execOp]
   ·obtain⟨hob,q,G,Z⟩:=aVO (k:=k) h I (h.eval x) ho hc;simp_all[execOp]
  grind
 case index t x ix=>
  split at ho
  ·rename_i k i hix;have hi:=h.eval ix;rw[hix] at hi;generalize hve:a.eval ix=vi at hi;cases hi;obtain⟨hob,q,G,Z⟩:=aVM (k:=k) (h.eval x) ho hc;simp_all[execOp]
  grind
 case slice t x lo hi mx=>
  cases mx with
  |some m=>cases ho
  |none=>
   have ho':vF C t (s.eval x) (lo.map s.eval) (hi.map s.eval)=some (cs,r,ob):=by
    grind
   obtain⟨hob,q,G,Z⟩:=aMV (lo':=lo.map a.eval) (hi':=hi.map a.eval) (h.eval x)
    (fun y hy=>by
     obtain⟨z,hz,rfl⟩:=Option.map_eq_some_iff.1 hy;exact⟨a.eval z,by grind,h.eval z⟩) (fun e=>by
     grind)
    (fun y hy=>by
     obtain⟨z,hz,rfl⟩:=Option.map_eq_some_iff.1 hy;exact⟨a.eval z,by grind,h.eval z⟩) (fun e=>by
     grind) ho' hc
   simp_all[execOp]
 case makeInterface t x=>
  split at ho
  ·rename_i fields l hu hx;split at ho
   ·rename_i vs hvs;simp only[val,QJ,QX] at ho;obtain⟨rfl,rfl,rfl⟩:=ho;have J:=h.eval x;rw[hx] at J;generalize hve:a.eval x=vx at J;cases J with
    |agg _ ws hn V=>
     have e:ws=vs.toArray:=by
      have:=aPD l vs hvs ws.toList KI (fun k hk=>by simpa using V k hk);grind
     subst e;refine same (u:=.iface t (.agg vs.toArray)) ?_ (.raw _) rfl;simp_all[execOp,Instr.makeInterface,QV]
   grind
  grind
 case lookup t m x ok=>
  split at ho
  ·rename_i k nn hm hx;split at ho
   ·rename_i f hf;simp only[val,QJ,QX] at ho;obtain⟨rfl,rfl,rfl⟩:=ho;have hmr:=h.eval m;have J:=h.eval x;rw[hm] at hmr;rw[hx] at J;generalize hve:a.eval m=vm at hmr;generalize hvx:a.eval x=vx at J;cases hmr with
    |frz _ _ hr=>
     cases J;obtain⟨u,b,G,r1,r2,f1,f2⟩:=C.frzOK k t f hf w _ _ nn hr;refine same (u:=.tuple #[u,b]) ?_ (.tup _ _ rfl (fun j hj=>match j,hj with
      |0,_=>aWg f1 r1
      |1,_=>r2.flat f2)) rfl
     simp_all[execOp]
   grind
  grind
 case extract t i=>
  split at ho
  ·rename_i l V;unfold val? at ho;split at ho
   ·rename_i y hy;simp only[QJ,QX] at ho;obtain⟨rfl,rfl,rfl⟩:=ho;have hx:=h.eval t;rw[V] at hx;generalize hve:a.eval t=vx at hx;cases hx with
    |tup _ vs hn hr=>
     have hlt:i<l.length:=(JF.1 hy).1;have hyy:=(JF.1 hy).2;have:=hr i hlt;simp_all[execOp,Instr.extract]
   grind
  grind
 case call c=>
  obtain⟨callee,args,argTypes⟩:=c;simp only at ho;split at ho
  ·-- len
   split at ho
   ·rename_i x t hargs hts;split at ho
    ·rename_i m hm;simp only[val,QJ,QX] at ho;obtain⟨rfl,rfl,rfl⟩:=ho;have L:args=#[x]:=by grind
     have hts':argTypes=#[t]:=by grind
     subst L;subst hts';have hx:=h.eval x;have G:(Builtin.len_ #[t] ty #[a.eval x]).run C.P w=.ok (.int .i64 m) w:=by
      unfold aI0 at hm;split at hm
      ·rename_i b hu S;rw[S] at hx;generalize a.eval x=vx at hx;cases hx;obtain rfl:=QU hm;simp_all[Builtin.len_,QV,goInt]
      ·rename_i e τ xs hu S;rw[S] at hx;generalize a.eval x=vx at hx;obtain rfl:=QU hm;cases hx
       ·simp_all[Builtin.len_,QV,goInt]
       ·simp_all[Builtin.len_,QV,goInt]
       simp_all[Builtin.len_,QV,goInt]
      ·rename_i e hu S;rw[S] at hx;generalize a.eval x=vx at hx;obtain rfl:=QU hm;cases hx;simp_all[Builtin.len_,QV,goInt]
      ·rename_i e id g hu S;split at hm
       ·rename_i τ g' xs V;have hbb:=cC hm;clear hm;obtain⟨hb,hm⟩:=hbb;obtain rfl:=QU hm;obtain rfl:=QQ hb;rw[S] at hx;obtain⟨u,cs',h1,hp,h2,h3⟩:=h.objs _ _ (I _ _ V);generalize a.eval x=vx at hx;cases hx with
        |osl _ _ u' hr' hp'=>
         rw[h1] at hr';simp only[QJ,QX,true_and] at hr';subst hr';rcases h2.2 with ⟨rfl,h0⟩|⟨gb,cap,cur,rfl,_⟩
         ·simp_all[Builtin.len_,QV,goInt]
         simp_all[Builtin.len_,QV,goInt]
        |oslOld _ _ g' u' v hr' hg=>
         grind
       ·rename_i τ g' gm xs V;have hbb:=cC hm;clear hm;obtain⟨hb,hm⟩:=hbb;obtain rfl:=QU hm;obtain rfl:=QQ hb;rw[S] at hx;obtain⟨u,cs',h1,hp,h2,h3⟩:=h.objs _ _ (I _ _ V);generalize a.eval x=vx at hx;cases hx with
        |osl _ _ u' hr' hp'=>
         rw[h1] at hr';simp only[QJ,QX,true_and] at hr';subst hr';rcases h2.2 with ⟨rfl,h0⟩|⟨gb,cap,cur,rfl,_⟩
         ·simp_all[Builtin.len_,QV,goInt]
         simp_all[Builtin.len_,QV,goInt]
        |oslOld _ _ g' u' v hr' hg=>
         grind
       grind
      ·rename_i e id i g hu S;split at hm
       ·rename_i t1 ys hmr;obtain rfl:=QU hm;rw[S] at hx;have hms:=Ay h I hmr;generalize a.eval x=vx at hx;cases hx with
        |msl _ _ _ u hr'=>
         obtain⟨_,ds,hp,h2,h3⟩:=hms _ _ hr';rcases h2.2 with ⟨rfl,h0⟩|⟨gb,cap,cur,rfl,_⟩
         ·simp_all[Builtin.len_,QV,goInt]
         ·simp[Builtin.len_,QV hu,goInt]
        |mslOld _ _ _ g' u' v hr' hg=>
         grind
       grind
      ·rename_i e id g lo hi sz hu S;split at hm
       ·rename_i τ g' xs V;have hbb:=cC hm;clear hm;obtain⟨hb,hm⟩:=hbb;obtain rfl:=QU hm;obtain rfl:=QQ hb;rw[S] at hx;obtain⟨u,cs',h1,hp,h2,h3⟩:=h.objs _ _ (I _ _ V);generalize a.eval x=vx at hx;cases hx with
        |ovw _ _ _ _ _ u' ad c hr' hp' hl' had=>simp_all[Builtin.len_,QV,goInt]
        |ovwOld _ _ _ _ _ g' u' v hr' hg=>
         grind
       grind
      ·rename_i k e hu;obtain rfl:=QU hm;simp_all[Builtin.len_,QV,goInt]
      grind
     refine same ?_ (.int _ _) rfl;simp_all[execOp,resolve,invoke,builtin]
    grind
   grind
  ·-- min
   unfold val? at ho;split at ho
   ·rename_i y hy;simp only[QJ,QX] at ho;obtain⟨rfl,rfl,rfl⟩:=ho;unfold zn at hy;split at hy
    ·rename_i k x k' y' V;split at hy
     ·rename_i hk;subst hk;obtain rfl:=QU hy;obtain⟨p,q,hpq⟩:∃p q,args.toList=[p,q]:=by
       match Z:args.toList with
       |[p,q]=>grind
       |[]=>grind
       |[_]=>grind
       |_::_::_::_=>grind
      have L:args=#[p,q]:=by grind
      subst L;simp only[List.map_cons,List.map_nil,List.cons.injEq,and_true] at V;have hp:=h.eval p;have Z:=h.eval q;rw[V.1] at hp;rw[V.2] at Z;generalize hpe:a.eval p=vp at hp;generalize hqe:a.eval q=vq at Z;cases hp;cases Z;refine same (u:=.int k (if y'<x then y' else x)) ?_ (.int _ _) rfl;simp_all[execOp,resolve,invoke,builtin,Builtin.min_,Builtin.min2]
     grind
    ·rename_i k x k' y' k'' z V;split at hy
     ·rename_i hk;obtain⟨sO,fJ⟩:=hk;subst sO;subst fJ;obtain rfl:=QU hy;obtain⟨p,q,r,hpq⟩:∃p q r,args.toList=[p,q,r]:=by
       match Z:args.toList with
       |[p,q,r]=>grind
       |[]=>grind
       |[_]=>grind
       |[_,_]=>grind
       |_::_::_::_::_=>grind
      have L:args=#[p,q,r]:=by grind
      subst L;simp only[List.map_cons,List.map_nil,List.cons.injEq,and_true] at V;have hp:=h.eval p;have Z:=h.eval q;have hr:=h.eval r;rw[V.1] at hp;rw[V.2.1] at Z;rw[V.2.2] at hr;generalize hpe:a.eval p=vp at hp;generalize hqe:a.eval q=vq at Z;generalize hre:a.eval r=vr at hr;cases hp;cases Z;cases hr;refine same (u:=.int k (if z<(if y'<x then y' else x) then z else (if y'<x then y' else x))) ?_ (.int _ _) rfl;simp_all[execOp,resolve,invoke,builtin,Builtin.min_,Builtin.min2]
     grind
    grind
   grind
  ·-- max
   unfold val? at ho;split at ho
   ·rename_i y hy;simp only[QJ,QX] at ho;obtain⟨rfl,rfl,rfl⟩:=ho;unfold zx at hy;split at hy
    ·rename_i k x k' y' V;split at hy
     ·rename_i hk;subst hk;obtain rfl:=QU hy;obtain⟨p,q,hpq⟩:∃p q,args.toList=[p,q]:=by
       match Z:args.toList with
       |[p,q]=>grind
       |[]=>grind
       |[_]=>grind
       |_::_::_::_=>grind
      have L:args=#[p,q]:=by grind
      subst L;simp only[List.map_cons,List.map_nil,List.cons.injEq,and_true] at V;have hp:=h.eval p;have Z:=h.eval q;rw[V.1] at hp;rw[V.2] at Z;generalize hpe:a.eval p=vp at hp;generalize hqe:a.eval q=vq at Z;cases hp;cases Z;refine same (u:=.int k (if x<y' then y' else x)) ?_ (.int _ _) rfl;simp_all[execOp,resolve,invoke,builtin,Builtin.max_,Builtin.max2]
     grind
    ·rename_i k x k' y' k'' z V;split at hy
     ·rename_i hk;obtain⟨sO,fJ⟩:=hk;subst sO;subst fJ;obtain rfl:=QU hy;obtain⟨p,q,r,hpq⟩:∃p q r,args.toList=[p,q,r]:=by
       match Z:args.toList with
       |[p,q,r]=>grind
       |[]=>grind
       |[_]=>grind
       |[_,_]=>grind
       |_::_::_::_::_=>grind
      have L:args=#[p,q,r]:=by grind
      subst L;simp only[List.map_cons,List.map_nil,List.cons.injEq,and_true] at V;have hp:=h.eval p;have Z:=h.eval q;have hr:=h.eval r;rw[V.1] at hp;rw[V.2.1] at Z;rw[V.2.2] at hr;generalize hpe:a.eval p=vp at hp;generalize hqe:a.eval q=vq at Z;generalize hre:a.eval r=vr at hr;cases hp;cases Z;cases hr;refine same (u:=.int k (if (if x<y' then y' else x)<z then z else (if x<y' then y' else x))) ?_ (.int _ _) rfl;simp_all[execOp,resolve,invoke,builtin,Builtin.max_,Builtin.max2]
     grind
    ·rename_i x1 x2 x3 x4 x5 V;obtain rfl:=QU hy;obtain⟨p1,p2,p3,p4,p5,hpq⟩:∃p1 p2 p3 p4 p5,args.toList=[p1,p2,p3,p4,p5]:=by
      match Z:args.toList with
      |[p1,p2,p3,p4,p5]=>grind
      |[]=>grind
      |[_]=>grind
      |[_,_]=>grind
      |[_,_,_]=>grind
      |[_,_,_,_]=>grind
      |_::_::_::_::_::_::_=>simp_all
     have L:args=#[p1,p2,p3,p4,p5]:=by grind
     subst L;simp only[List.map_cons,List.map_nil,List.cons.injEq,and_true] at V;obtain⟨l1,l2,l3,l4,l5⟩:=V;have ev:∀{p:Operand} {x:Int},s.eval p=.int .i64 x->a.eval p=.int .i64 x:=fun {p x} e=>by
      have:=h.eval p;rw[e] at this;generalize a.eval p=u at this;cases this;rfl
     have m2:∀a b:Int,Builtin.max2 (.int .i64 a) (.int .i64 b)=pure (.int .i64 (vV a b)):=fun a b=>by
      rfl
     refine same (u:=.int .i64 (vV (vV (vV (vV x1 x2) x3) x4) x5)) ?_ (.int _ _) rfl;simp_all[execOp,resolve,invoke,builtin,Builtin.max_]
    grind
   grind
  ·-- append
   split at ho
   ·rename_i d x y hargs;have L:args=#[x,y]:=by grind
    subst L;obtain⟨q,w',ρ',G,hR,Z⟩:=bBb (ty:=ty) h I (hfresh d rfl) (h.eval x) (h.eval y) ho hc;refine jU (u:=q) (w':=w') ?_ (hK ρ' _ w' (hR.put (some d) hd Z));simp_all[execOp,resolve,invoke,builtin]
   grind
  ·-- a function
   rename_i x;split at ho
   ·rename_i f caps S;have J:=h.eval x;rw[S] at J;generalize hfv:a.eval x=fv at J;cases J with
    |fn _ _ vs hvn hvl=>
    have hargsz:(args.map a.eval++vs).size=(args.toList.map s.eval++caps).length:=by grind
    have hrel:∀k (hk:k<(args.toList.map s.eval++caps).length),Rel C.E w ρ (aD N ρ w) (args.toList.map s.eval++caps)[k] ((args.map a.eval++vs).getD k undef):=fun k hk=>by
     by_cases hk':k<args.size
     ·have e:(args.map a.eval++vs).getD k undef=a.eval args[k]:=by simp_all
      rw[e];rw[KY (by grind)];simp only[List.getElem_map,Array.getElem_toList];exact h.eval _
     ·have fJ:k-args.size<caps.length:=by grind
      have e:(args.map a.eval++vs).getD k undef=vs.getD (k-args.size) undef:=by
       simp_all
      grind
    have fin:((callFunc f (args.map a.eval++vs)).run C.P w=.ok (.enter f (args.map a.eval++vs)) w/\Calls C.P f (args.map a.eval++vs) w fun e w'=>∃v,e=.returned v/\∃ρ',RR C.E n N w0 ρ' (s.putObj ob) a w'/\Rel C.E w' ρ' (aD N ρ' w') r v)->
      Oper.wp C.P {dst:=dst,op:=.call {callee:=.value x,args:=args,argTypes:=argTypes},type:=ty,pos:=pos,after:=after,guard:=guard} a w K Q:=by
     rintro ⟨hcall,hcalls⟩
     refine Jl (f:=f) (args:=args.map a.eval++vs) ?_ (hcalls.mono ?_)
     ·grind [execOp,resolve,Deferred.ofValue,invoke]
     ·rintro e w' ⟨v,rfl,ρ',hR,hv⟩
      exact⟨v,rfl,hK ρ' v w' (hR.put dst hd hv)⟩
    grind [aZ2,Option.map_eq_some_iff,aXg]
   grind
  grind
end
section
variable {U:eO} {n:Nat} {N:Nat->Prop} {w0:Fr} {w w':World} {ρ ρ':Own} {s s':ASt U} {a:Act}
def nX (ρ:Own) (id:Nat) (p:Option (Nat×Value)) (f:Nat->Option (Nat×Value)):Own:=fun nm=>if nm.id=id then (match nm with | .ob _=>p | .mem _ i=>f i) else ρ nm
theorem qZ {id:Nat} {p:Option (Nat×Value)} {f:Nat->Option (Nat×Value)} {nm:Name} (h:nm.id≠id):nX ρ id p f nm=ρ nm:=by simp_all[nX]
theorem vK {id:Nat} {p:Option (Nat×Value)} {f:Nat->Option (Nat×Value)}:nX ρ id p f (.ob id)=p:=JQ rfl
theorem vL {id i:Nat} {p:Option (Nat×Value)} {f:Nat->Option (Nat×Value)}:nX ρ id p f (.mem id i)=f i:=JQ rfl
theorem L7 {E:Enc U} (h:RR E n N w0 ρ s a w) {m id:Nat} (hmi:m≠id) {ρ':Own} (hout:∀nm:Name,nm.id≠m->nm.id≠id->ρ' nm=ρ nm)
  (L:∀(nm:Name) g u,(nm.id=m\/nm.id=id)->ρ nm=some (g,u)->ρ' nm=some (g,u)\/((∀a,u≠ .pointer a)/\∃S O,ρ' nm=some (S,O)/\g<S))
  (hw:Below w0.heap.size w w') (J:∀b,b<w.heap.size->(∀(nm:Name) g u,(nm.id=m\/nm.id=id)->ρ nm=some (g,u)->blk u≠some b)->w'.heap[b]?=w.heap[b]?)
  (src:Name->Name) (j:∀(nm:Name) g u b,(nm.id=m\/nm.id=id)->ρ' nm=some (g,u)->blk u=some b->((src nm).id=m\/(src nm).id=id)/\((∃g0 u0,ρ (src nm)=some (g0,u0)/\blk u0=some b)\/(nm=.ob id/\w.heap.size<=b)))
  (hinj:∀(nm f:Name) g S u O b b',(nm.id=m\/nm.id=id)->(f.id=m\/f.id=id)->ρ' nm=some (g,u)->ρ' f=some (S,O)->blk u=some b->blk O=some b'->src nm=src f->nm=f):
  Chg N (fun q=>q=m\/q=id) w0.heap.size ρ ρ' w w':=by
 refine⟨fun nm hn=>hout nm (fun e=>hn (.inl e)) (fun e=>hn (.inr e)),L,hw,J,fun nm g u b hd hr hb=>?_,fun nm f g S u O b hd Z hr V hne hb hb'=>?_⟩
 ·grind
 ·obtain⟨_,h2⟩:=j nm g u b hd hr hb;obtain⟨_,h2'⟩:=j f S O b Z V hb';rcases h2 with ⟨g0,u0,q1,q2⟩|⟨e,q⟩
  ·rcases h2' with ⟨g1,u1,I,G⟩|⟨e',q'⟩
   ·exact h.sep _ _ _ _ _ _ b q1 I (fun e=>hne (hinj _ _ _ _ _ _ _ _ hd Z hr V hb hb' e)) q2 G
   ·have:=((h.own q1).2 b q2).2;omega
  ·rcases h2' with ⟨g1,u1,I,G⟩|⟨e',q'⟩
   ·have:=((h.own I).2 b G).2;omega
   grind
def S6 (C:Cfg U) (s:ASt U) (j:Nat) (t:TypeId) (x y:aC U):Option (List Prop×ASt U):=
 match x,y with
 | .osl id g,.int _ m=>match s.objs id,C.P.underlying t with
  |some (.row τ f xs),some (.slice e)=>cond (Nat.beq g f&&(match iO C.P e with|some q=>Nat.beq q (U.size τ)|none=>false))
    (some ([0<=m/\m<=xs.length],(s.obj id (.row τ (g+1) (xs.take m.toNat))).set j (.osl id (g+1)))) none
  |_,_=>none
 |_,_=>none
theorem aQ4 {base e size m k cap:Nat} {cs:List Value} {b:Nat} (h:w.ownsRow base e size (.slice (some ⟨b,0,none⟩) k cap) k cs) (hm:m<=k):w.ownsRow base e size (.slice (some ⟨b,0,none⟩) m cap) m (cs.take (m*size)):=by
 have S:m*size<=k*size:=QC _ hm;refine⟨by rw[KU,h.1];omega,?_⟩;rcases h.2 with ⟨O,_⟩|⟨Z,L,cur,j,f,u,V,I,G,J⟩
 ·cases O
 ·simp only[JI,QJ,KQ,and_true,true_and] at j;obtain⟨rfl,rfl⟩:=j;exact .inr ⟨b,cap,cur,rfl,f,u,KI,I,G,by grind⟩
theorem aQ9 {C:Cfg U} (h:RR C.E n N w0 ρ s a w) {V:Nat} (hd:V<n) {t:TypeId} {x y:aC U} {u v:Value} (hx:Rel C.E w ρ (aD N ρ w) x u) (hy:Rel C.E w ρ (aD N ρ w) y v)
  {cs:List Prop} (ho:S6 C s V t x y=some (cs,s')) (hc:dZ cs):
  ∃f ρ',(Instr.sliceAt t u none (some v) none).run C.P w=.ok f w/\RR C.E n N w0 ρ' s' (a.put (some V) f) w:=by
 unfold S6 at ho;split at ho
 ·rename_i id g ki m;split at ho
  ·rename_i τ g' xs e hid hu;obtain⟨hb,ho⟩:=cC ho;cases ho;simp only[QW] at hb;obtain rfl:=QQ hb.1;obtain⟨ti,hti,hts⟩:=tT hb.2;cases hy;have h0:0<=m/\m<=xs.length:=hc;obtain⟨u1,J,h1,hpp,h2,h3⟩:=h.objs _ _ hid;have wG:u1=u:=by
    cases hx with
    |osl _ _ I hr' hp'=>
     grind
    |oslOld _ _ g' I v hr' hg=>
     grind
   subst wG;have L:∀f,(∀b,blk f=some b->blk u1=some b)->(∀a,f≠ .pointer a)->w.ownsRow w0.heap.size (U.ety τ) (U.size τ) f m.toNat (J.take (m.toNat*U.size τ))->
     RR C.E n N w0 (dJ ρ id (g+1) f) ((s.obj id (.row τ (g+1) (xs.take m.toNat))).set V (.osl id (g+1))) (a.put (some V) f) w:=fun f hbl hvp hown=>by
    have hold:∀g1 I,ρ id=some (g1,I)->(g1=g+1/\I=f)\/((∀a,I≠ .pointer a)/\g1<g+1):=fun g1 I hr=>by
     grind
    have O:∀Z,blk f=some Z->(∃g I,ρ id=some (g,I)/\blk I=some Z)\/(w.heap.size<=Z):=fun Z hb'=>.inl ⟨_,_,h1,hbl Z hb'⟩
    have G:∀ob,s.objs id=some ob->ob.simple=true:=fun ob ho=>by rw[hid] at ho;cases ho;rfl
    refine(h.upd id (g+1) f _ G hold (Below.refl _ _) (fun _ _ _=>rfl) O ?_).put (some V) (fun _ e=>by grind) (.osl id (g+1) f (by simp[dJ]) hvp);have hml:(xs.take m.toNat).length=m.toNat:=by grind
    refine⟨f,J.take (m.toNat*U.size τ),by simp[dJ],hvp,by grind,fun j hj k hk=>?_⟩;rw[hml] at hj;have hjx:j<xs.length:=KI;have e1:(xs.take m.toNat)[j]'KI=xs[j]:=List.getElem_take;have fJ:k<(C.E.enc τ xs[j]).length:=by grind
    have hks:k<U.size τ:=by rw[C.E.enc_len] at fJ;omega
    have hlt:j*U.size τ+k<m.toNat*U.size τ:=by
     have:(j+1)*U.size τ<=m.toNat*U.size τ:=QC _ hj;grind
    have e2:(J.take (m.toNat*U.size τ)).getD (j*U.size τ+k) undef=J.getD (j*U.size τ+k) undef:=by
     grind
    simp only[e1,e2];exact h.tJ id (g+1) f G hold (Below.refl _ _) (fun _ _ _=>rfl) O (h3 j hjx k fJ)
   have hsl:=Ue (P:=C.P) (w:=w) hu (fun _ _ e=>by cases e) u1 none (some (.int ki m));rcases h2.2 with ⟨rfl,pM⟩|⟨gb,S,cur,heq,hbase,hgb,hn,hcm,hcs,htake⟩
   ·have Gt:m.toNat=0:=KI;have cJ:=pV (P:=C.P) (w:=w) (k:=ki) (code:=.sliceAcap) (show 0<=m/\m<=(0:Nat) by omega);refine⟨.slice none 0 0,_,?_,L (.slice none 0 0) (fun b hb=>by cases hb) (fun a e=>by cases e) (by rw[Gt];grind [World.ownsRow_nil])⟩;simp_all[Instr.slice,Instr.sliceBounds,QV,sizeOf,typeInfo]
   ·subst heq;have cJ:=pV (P:=C.P) (w:=w) (k:=ki) (code:=.sliceAcap) (show 0<=m/\m<=S by omega);refine⟨.slice (some ⟨gb,0,none⟩) m.toNat S,_,?_,L (.slice (some ⟨gb,0,none⟩) m.toNat S) (fun b hb=>hb) (fun a e=>by cases e) (aQ4 h2 KI)⟩;simp_all[Instr.slice,Instr.sliceBounds,QV,sizeOf,typeInfo,addr_add]
  grind
 grind
def ku (C:Cfg U) (s:ASt U) (d j:Nat) (t:TypeId) (len:Nat):List (Nat×aC U)->Option (List Prop×ASt U)
 |[(0,.nils)]=>match lG C t,s.objs d with
  |some τ,none=>match C.E.inner τ,zeroCells (U:=U) C.P (U.ety τ) with
   |some f,some z=>match U.unsl τ f [] with
    |some y=>cond (Nat.beq len 1&&Nat.beq (U.size τ) 1&&Nat.beq z.length (U.size τ)) (some ([],(s.obj d (.deep τ 0 0 [y])).set j (.osl d 0))) none
    |none=>none
   |_,_=>none
  |_,_=>none
 |_=>none
theorem S8 {E:Enc U} (h:RR E n N w0 ρ s a w) {id:Nat} {ρ':Own} (hout:∀nm:Name,nm.id≠id->ρ' nm=ρ nm)
  (J:∀(nm:Name) g u,nm.id=id->ρ nm=some (g,u)->ρ' nm=some (g,u)\/((∀a,u≠ .pointer a)/\∃L u',ρ' nm=some (L,u')/\g<L))
  (hw:Below w0.heap.size w w') (I:∀b,b<w.heap.size->(∀(nm:Name) g u,nm.id=id->ρ nm=some (g,u)->blk u≠some b)->w'.heap[b]?=w.heap[b]?)
  (x0:Name) (f:∀(nm:Name) g u b,nm.id=id->ρ' nm=some (g,u)->blk u=some b->(∃g0 u0,ρ nm=some (g0,u0)/\blk u0=some b)\/(nm=x0/\w.heap.size<=b)):
  Chg N (fun q=>q=id) w0.heap.size ρ ρ' w w':=by
 refine⟨fun nm hn=>hout nm hn,J,hw,I,fun nm g u b hd hr hb=>?_,fun nm O g L u u' b hd V hr S hne hb Z=>?_⟩
 ·grind
 ·rcases f nm g u b hd hr hb with ⟨g0,u0,q1,q2⟩|⟨e,q⟩
  ·rcases f O L u' b V S Z with ⟨g1,u1,G,j⟩|⟨e',q'⟩
   ·exact h.sep _ _ _ _ _ _ b q1 G hne q2 j
   ·have:=((h.own q1).2 b q2).2;omega
  ·rcases f O L u' b V S Z with ⟨g1,u1,G,j⟩|⟨e',q'⟩
   ·have:=((h.own G).2 b j).2;omega
   grind
theorem T6 (s:ASt U) (id d:Nat) (y:aT U) (v:aC U):(∀q,q≠id->((s.obj id y).set d v).objs q=s.objs q)/\((s.obj id y).set d v).objs id=some y:=by
 refine⟨fun q f=>?_,?_⟩
 ·show cond (Nat.beq q id) _ _=_;rw[fX f];rfl
 ·show cond (Nat.beq id id) _ _=_;simp_all
theorem aYc {C:Cfg U} (h:RR C.E n N w0 ρ s a w) {d dt:Nat} (hd:dt<n) {t:TypeId} {len:Nat}
  {f:List (Nat×aC U)} {parts':Array (Nat×Value)} (hpl:f.length=parts'.size)
  (hp:∀k (h:k<f.length) (h':k<parts'.toList.length),f[k].1=parts'.toList[k].1/\Rel C.E w ρ (aD N ρ w) f[k].2 parts'.toList[k].2)
  {cs:List Prop} (ho:ku C s d dt t len f=some (cs,s')):
  ∃v' w' ρ',(Instr.buildSlice t len parts').run C.P w=.ok v' w'/\RR C.E n N w0 ρ' s' (a.put (some dt) v') w':=by
 unfold ku at ho;split at ho
 ·split at ho
  ·rename_i τ hτ S;split at ho
   ·rename_i t1 z hin hz;split at ho
    ·rename_i y hy;obtain⟨hb,ho⟩:=cC ho;cases ho;simp only[QW] at hb;obtain⟨⟨cJ,gV⟩,wM⟩:=hb;obtain rfl:=QQ cJ;have J:=QQ gV;have hzl:=QQ wM;obtain⟨hu,i,hi,his⟩:=qY hτ;obtain⟨L,hzr,hzsz,hzrel⟩:=xB (E:=C.E) (w:=w) (ρ:=ρ) hz;have hps:parts'.toList.length=1:=by grind
     obtain⟨q1,q2⟩:=hp 0 XQ KI;simp only[JZ] at q1 q2;obtain⟨⟨i0,v⟩,hpe⟩:∃x,parts'.toList=[x]:=List.length_eq_one_iff.1 hps;simp only[hpe,JZ] at q1 q2;subst q1;have hpe':parts'=#[(0,v)]:=by grind
     subst hpe';cases q2
     let I:Value:=.slice none 0 0
     have hone:I.oneCell'=true:=rfl;have hcu:I.cells=#[I]:=cells_one hone;have hrow:((Array.range (1*1)).map (fun k=>L.cells[k % L.cells.size]!)).size=1:=XQ;have V:Instr.fill (fun i=>some (i*1,1)) ((Array.range (1*1)).map (fun k=>L.cells[k % L.cells.size]!)) [(0,I)]=some #[I]:=by
      generalize (Array.range (1*1)).map (fun k=>L.cells[k % L.cells.size]!)=base at hrow;obtain⟨b0,rfl⟩:∃b0,base=#[b0]:=by
       obtain⟨l⟩:=base;grind [List.length_eq_one_iff]
      rfl
     have hnone:=h.tK S;have hmemd:=h.vU (id:=d) (fun ob ho=>by grind)
     let w2:=w.alloc (.cells #[I] (U.ety τ))
     let vn:Value:=.slice (some ⟨w.heap.size,0,none⟩) 1 1
     have hvn:∀a,vn≠ .pointer a:=fun a e=>by
      grind
     let ρ2:Own:=nX ρ d (some (0,vn)) (fun j=>if j=0 then some (0,I) else none)
     have ed:ρ2 (.ob d)=some (0,vn):=vK;have edm:∀j,ρ2 (.mem d j)=if j=0 then some (0,I) else none:=fun j=>vL
     have O:Below w.heap.size w w2:=(Below.refl _ _).alloc (QP _) _;have c:Chg N (fun q=>q=d) w0.heap.size ρ ρ2 w w2:=by
      refine S8 h (fun nm hn=>qZ hn) (fun nm g u G Z=>?_) (O.mono h.below.size) (fun b hb _=>O.block b hb) (.ob d) (fun nm g u b G Z hb=>?_)
      ·exfalso;cases nm with
       |ob q=>
        obtain rfl:q=d:=G;grind
       |mem q j=>
        obtain rfl:q=d:=G;grind
      ·cases nm with
       |ob q=>
        obtain rfl:q=d:=G;grind [blk]
       |mem q j=>
        obtain rfl:q=d:=G;rw[edm] at Z;split at Z
        ·cases Z;cases hb
        grind
     obtain⟨o1,o3⟩:=T6 s d dt (.deep τ 0 0 [y]) (.osl d 0);have hR:=h.change (s':=s.obj d (.deep τ 0 0 [y])) c rfl (fun q G=>o1 q G) (fun nm g u G Z=>?_) (fun q ob G ho=>?_) (fun q ob G _=>⟨_,(congrArg _ G).trans o3⟩)
     ·refine⟨vn,w2,ρ2,?_,hR.put (some dt) (fun _ e=>by grind) (.osl d 0 vn ed hvn)⟩;have lV:¬1*i.size > 2^24:=KI;have h0:¬1*i.size=0:=KI;rw[his,J] at lV h0;simp only[Instr.buildSlice,QE,QV hu,QL,sizeOf,typeInfo,run_program,hi,JO,his,J,QF lV,QF h0,hzr];rw[show Instr.fill (fun i=>some (i*1,1)) ((Array.range (1*1)).map (fun k=>L.cells[k % L.cells.size]!)) [(0,Value.slice none 0 0)]=some #[I] from V];rfl
     ·exact⟨_,by rw[G];exact o3,fun e=>by cases e⟩
     ·subst G;rw[show (s.obj q (.deep τ 0 0 [y])).objs q=some (.deep τ 0 0 [y]) from o3] at ho;cases ho;refine⟨vn,[I],ed,hvn,⟨by grind,.inr ⟨w.heap.size,1,#[I],rfl,h.below.size,heap_alloc_new w _,XQ,by unfold maxLen;omega,by grind,by simp[J]⟩⟩,J,fun j hj=>?_,fun j hj=>?_⟩
      ·grind
      ·have pO:j=0:=by grind
       subst pO;exact⟨t1,[],I,[],C.E.unsl_ok _ _ _ _ hy,by grind,rfl,(fun a e=>by grind),JV _ _ _ _,fun i hi=>absurd hi XQ⟩
    grind
   grind
  grind
 grind
theorem aHU {E:Enc U} (h:RR E n N w0 ρ s a w) {τ:U.τ} {ys:List (U.T τ)} {y:Value} (V:k6 E w ρ (aD N ρ w) τ ys y):
  ∃f,Ri w ys.length (U.size τ) f y/\∀i (h:i<ys.length) k (hk:k<(E.enc τ ys[i]).length),Rel E w ρ (aD N ρ w) (E.enc τ ys[i])[k] (f (i*U.size τ+k)):=by
 have J:=E.pos τ;rcases V with ⟨⟨ad,rfl⟩,rfl⟩|⟨b,o,L,f,rfl,I,hc,O⟩
 ·exact⟨fun _=>undef,.inl ⟨⟨ad,rfl⟩,rfl⟩,fun i hi=>absurd hi XQ⟩
 ·refine⟨f,.inr ⟨b,o,L,rfl,I,fun j hj=>⟨hc j hj,?_⟩⟩,O⟩;have hq:j / U.size τ<ys.length:=Nat.div_lt_of_lt_mul (by grind);have hm:j % U.size τ<(E.enc τ ys[j / U.size τ]).length:=by rw[E.enc_len];exact Nat.mod_lt _ J
  have:=O (j / U.size τ) hq (j % U.size τ) hm;have e:j / U.size τ*U.size τ+j % U.size τ=j:=by grind [Nat.div_add_mod]
  rw[e] at this;obtain⟨u,G⟩:=E.enc_flat τ _ _ (QH hm);refine this.sF G (fun _ _ _ Z=>(h.own Z).1) (fun id g he=>?_) (fun id g i off S he=>?_) (fun id i g he=>?_) (fun id i g j off S he=>?_)
  ·rw[he] at u;cases u
  ·rw[he] at u;cases u
  ·rw[he] at u;cases u
  ·rw[he] at u;cases u
theorem ml {E:Enc U} {w:World} {ρ:Own} {st:Nat->Prop} {τ:U.τ} {xs ys:List (U.T τ)} {cs:List Value} {f:Nat->Value} (hcl:cs.length=xs.length*U.size τ)
  (S:∀i (h:i<xs.length) k (u:k<(E.enc τ xs[i]).length),Rel E w ρ st (E.enc τ xs[i])[k] (cs.getD (i*U.size τ+k) undef))
  (L:∀i (h:i<ys.length) k (u:k<(E.enc τ ys[i]).length),Rel E w ρ st (E.enc τ ys[i])[k] (f (i*U.size τ+k))):
  ∀j (h:j<(xs++ys).length) k (u:k<(E.enc τ (xs++ys)[j]).length),Rel E w ρ st (E.enc τ (xs++ys)[j])[k] ((cs++(List.range (ys.length*U.size τ)).map f).getD (j*U.size τ+k) undef):=by
 intro j hj k u;have J:(xs++ys).length=xs.length+ys.length:=XQ;have V:k<U.size τ:=by rw[E.enc_len] at u;exact u
 by_cases G:j<xs.length
 ·have e:(xs++ys)[j]=xs[j]:=KY G;have hin:j*U.size τ+k<cs.length:=by
   rw[hcl];have:(j+1)*U.size τ<=xs.length*U.size τ:=QC _ G;grind
  grind
 ·have I:j-xs.length<ys.length:=KI;have e:(xs++ys)[j]=ys[j-xs.length]:=List.getElem_append_right KI;have:=L (j-xs.length) I k (by grind);simp only[e];have Z:j*U.size τ=xs.length*U.size τ+(j-xs.length)*U.size τ:=by
   rw[<- Nat.add_mul];grind
  have O:(j-xs.length+1)*U.size τ<=ys.length*U.size τ:=QC _ I;rw[Nat.add_mul,Nat.one_mul] at O;have e2:(cs++(List.range (ys.length*U.size τ)).map f).getD (j*U.size τ+k) undef=f ((j-xs.length)*U.size τ+k):=by
   have h5:¬j*U.size τ+k<cs.length:=KI;have h6:j*U.size τ+k-cs.length=(j-xs.length)*U.size τ+k:=KI;grind
  grind
def kv (C:Cfg U) (look:Nat->Option (aT U)) (J:List TypeId) (x y:aC U):Out U:=
 match J,x with
 |[t,t'],.msl id i g=>cond (Nat.beq t t') (match lG C t,look id with
  |some τ,some (.deep u O G xs)=>match C.P.info? (U.ety τ),sH C.E look id i g with
   |some f,some ⟨L,I⟩=>match f.zero,oD τ L I,rowOf C.E look τ y with
    |some z,some us,some j=>match U.unsl u τ (us++j) with
     |some q=>cond (Nat.beq z.cells.size (U.size τ)&&Nat.ble 1 f.bytes) (some ([(us.length+j.length)*f.bytes<=140737488355328],.msl id i (G+1),some (id,.deepS u O (G+1) (xs.set i q) i))) none
     |none=>none
    |_,_,_=>none
   |_,_=>none
  |_,_=>none) none
 |_,_=>none
theorem aYd {C:Cfg U} (h:RR C.E n N w0 ρ s a w) {look:Nat->Option (aT U)} (G:∀id ob,look id=some ob->s.objs id=some ob) {argTypes:Array TypeId} {ty:TypeId} {x y:aC U} {u v:Value} (hx:Rel C.E w ρ (aD N ρ w) x u) (hy:Rel C.E w ρ (aD N ρ w) y v)
  {cs:List Prop} {r:aC U} {ob:Option (Nat×aT U)} (ho:kv C look argTypes.toList x y=some (cs,r,ob)) (hc:dZ cs):
  ∃S w' ρ',(Builtin.append_ argTypes ty #[u,v]).run C.P w=.ok S w'/\RR C.E n N w0 ρ' (s.putObj ob) a w'/\Rel C.E w' ρ' (aD N ρ' w') r S:=by
 unfold kv at ho;split at ho
 ·rename_i t t' id i g hat;have hbo:=cC ho;clear ho;obtain⟨hb,ho⟩:=hbo;obtain rfl:=QQ hb;have hargs:argTypes=#[t,t]:=by grind
  subst hargs;split at ho
  ·rename_i τ tx g0 gm xs hτ hid;split at ho
   ·rename_i inf t1 ys hi hmr;split at ho
    ·rename_i z us zs hz hcast hzs;split at ho
     ·rename_i q hq;obtain⟨dR,ho⟩:=cC ho;cases ho;simp only[QW] at dR;obtain⟨L,hby⟩:=dR;have L:=QQ L;have hby:=QR hby;obtain⟨rfl,rfl⟩:=oV hcast;have O:(ys.length+zs.length)*inf.bytes<=140737488355328:=hc;have hid':=G _ _ hid;have hgm:g=gm:=by
       grind [sH,Nat.eq_of_beq_eq_true]
      subst hgm;have hms:=Ay h G hmr;obtain⟨u0,kN,r1,r2,r3,r4,r5,r6⟩:=h.objs _ _ hid';have V:ρ (.mem id i)=some (g,u):=by
       cases hx with
       |msl _ _ _ _ V=>exact V
       |mslOld _ _ _ g' u' _ V hg=>
        grind
      have hix:i<xs.length:=by
       grind
      obtain⟨_,ds,hvp,h2,h3⟩:=hms _ _ V;obtain⟨f,hcy,hl⟩:=aHU h (P3 h G hy hzs);obtain⟨hu,i',hi',his⟩:=qY hτ;rw[hi] at hi';obtain rfl:=QU hi';obtain⟨S,w',hrun,hown',I,hpv,hblk⟩:=J3 (P:=C.P) (ty:=ty) hu hi hz his L (C.E.pos t1) hby h2 hvp hcy O h.below.size
      let ρ2:Own:=nX ρ id (ρ (.ob id)) (fun j=>if j=i then some (g+1,S) else (ρ (.mem id j)).map fun p=>(g+1,p.2))
      have eid:ρ2 (.ob id)=ρ (.ob id):=vK;have emem:∀j,ρ2 (.mem id j)=if j=i then some (g+1,S) else (ρ (.mem id j)).map fun p=>(g+1,p.2):=fun j=>vL
      have hmemv:∀j Z J,ρ (.mem id j)=some (Z,J)->Z=g/\∀a,J≠ .pointer a:=fun j Z J fD=>by
       have hj:j<xs.length:=by
        grind
       grind
      have c:Chg N (fun q=>q=id) w0.heap.size ρ ρ2 w w':=by
       refine S8 h (fun nm hn=>qZ hn) (fun nm Z J hd fD=>?_) ((Below.refl _ _).grown I h.below.size (fun k hk=>?_)) (fun b hb hne=>I.block b hb (fun e=>?_)) (.mem id i) (fun nm Z J b hd fD hb=>?_)
       ·cases nm with
        |ob q=>
         obtain rfl:q=id:=hd;grind
        |mem q j=>
         obtain rfl:q=id:=hd;grind
       ·exact((h.own V).2 k (by grind [lQ])).1
       ·exact hne (.mem id i) g u rfl V (by grind [lQ])
       ·cases nm with
        |ob q=>
         obtain rfl:q=id:=hd;grind
        |mem q j=>
         obtain rfl:q=id:=hd;rw[emem] at fD;split at fD
         ·grind
         ·cases Ya:ρ (.mem q j) with
          |none=>grind
          |some p=>
           grind
      have keep:∀{nm:Name} {Z:Nat} {J:Value} {e:TypeId} {m k:Nat} {cs:List Value},nm≠ .mem id i->ρ nm=some (Z,J)->(∀a,J≠ .pointer a)->w.ownsRow w0.heap.size e m J k cs->w'.ownsRow w0.heap.size e m J k cs:=fun {nm Z J e m k cs} hne fD wI hw=>by
       refine hw.kept I ?_;rw[lQ hvp,lQ wI];cases Ya:blk J with
       |none=>grind
       |some b=>exact .inr (fun e=>h.sep _ _ _ _ _ _ b fD V hne Ya e.symm)
      obtain⟨o1,o3⟩:=T6 s id 0 (.deepS tx g0 (g+1) (xs.set i q) i) .any;have hR:=h.change (s':=s.obj id (.deepS tx g0 (g+1) (xs.set i q) i)) c rfl (fun q hq=>o1 q hq) (fun nm g u hq V=>?_) (fun p ob hp ho=>?_) (fun q ob hq _=>⟨_,(congrArg _ hq).trans o3⟩)
      ·exact⟨S,w',ρ2,hrun,hR,.msl id i (g+1) S (by grind)⟩
      ·exact⟨_,by rw[hq];exact o3,fun e=>by cases e⟩
      ·subst hp;rw[show (s.obj p (.deepS tx g0 (g+1) (xs.set i q) i)).objs p=some (.deepS tx g0 (g+1) (xs.set i q) i) from o3] at ho;cases ho;refine⟨u0,kN,by grind,r2,by grind,r4,fun j hj=>?_,fun j hj=>?_⟩
       ·grind
       ·rw[KR] at hj;obtain⟨t2,ws,v2,Bz,p1,p2,p3,p4,p5,p6⟩:=r6 j hj
        by_cases hji:j=i
        ·subst hji;refine⟨t1,ys++zs,S,_,?_,by grind,fun e=>absurd rfl e,hpv,by rw[QM];exact hown',?_⟩
         ·simp only[List.getElem_set_self];exact C.E.unsl_ok _ _ _ _ hq
         ·exact ml h2.1 (fun i hi k hk=>c.rel (h3 i hi k hk)) (fun i hi k hk=>c.rel (hl i hi k hk))
        ·have e1:(xs.set i q)[j]'KI=xs[j]:=by grind
         rw[e1];exact⟨t2,ws,v2,Bz,p1,by grind,fun _=>p3,p4,keep (fun e=>hji (Name.mem.inj e).2) p2 p4 p5,fun i hi k hk=>c.rel (p6 i hi k hk)⟩
     grind
    grind
   grind
  grind
 grind
def kt (C:Cfg U) (look:Nat->Option (aT U)) (t:TypeId) (p x:aC U):Out U:=
 match p,x with
 | .eptr id g i off J,.msl f k L=>match look id,iO C.P t with
  |some (.deepS I G u xs j),some 1=>cond (Nat.beq id f&&Nat.beq g G&&Nat.beq L u&&Nat.beq off 0&&Nat.beq J 1)
    (some ([i=j/\k=j],.raw undef,some (id,.deep I G u xs))) none
  |_,_=>none
 |_,_=>none
theorem aYb {C:Cfg U} (h:RR C.E n N w0 ρ s a w) {look:Nat->Option (aT U)} (hlook:∀id ob,look id=some ob->s.objs id=some ob) {t:TypeId} {p x:aC U} {v u:Value} (hp:Rel C.E w ρ (aD N ρ w) p v) (hx:Rel C.E w ρ (aD N ρ w) x u)
  {cs:List Prop} {r:aC U} {ob:Option (Nat×aT U)} (ho:kt C look t p x=some (cs,r,ob)) (hc:dZ cs):
  ∃w' ρ',(Instr.storeAt t v u).run C.P w=.ok () w'/\RR C.E n N w0 ρ' (s.putObj ob) a w'/\r=.raw undef:=by
 unfold kt at ho;split at ho
 ·rename_i id g i off sz id' k gk;split at ho
  ·rename_i tx g0 gm xs i0 hid hm;obtain⟨hb,ho⟩:=cC ho;cases ho;simp only[QW] at hb;obtain⟨⟨⟨⟨cJ,dR⟩,gV⟩,wM⟩,wL⟩:=hb;obtain rfl:=QQ cJ;obtain rfl:=QQ dR;obtain rfl:=QQ gV;obtain rfl:=QQ wM;obtain rfl:=QQ wL;obtain⟨rfl,rfl⟩:i=i0/\k=i0:=hc;obtain⟨ti,hti,htis⟩:=oH hm;have hid:=hlook _ _ hid;obtain⟨L,cs,h1,hpp,h2,hsz,hno,h3⟩:=h.objs _ _ hid;have hix:∀Z u',ρ (.mem id k)=some (Z,u')->k<xs.length:=fun Z u' O=>by
    grind
   have O:ρ (.mem id k)=some (gk,u)/\u.oneCell'=true:=by
    cases hx with
    |msl _ _ _ _ O=>exact⟨O,(h.own O).1⟩
    |mslOld _ _ _ Z u' _ O hg=>
     grind
   obtain⟨O,hone⟩:=O;have hcu:u.cells=#[u]:=cells_one hone;cases hp with
   |eptrOld _ _ _ _ _ Z u' v O hg=>
    grind
   |eptr _ _ _ _ _ b n' cap hrb hi=>
    rw[h1] at hrb;simp only[QJ,QX,true_and] at hrb;subst hrb;rcases h2.2 with ⟨h0,_⟩|⟨gb,V,cur,heq,I,hgb,hn,hcm,hcs,htake⟩
    ·cases h0
    simp only[JI,QJ,KQ,and_true] at heq;obtain⟨rfl,rfl,rfl⟩:=heq;have hcs':=hcs;have J:=htake;rw[hsz,Nat.mul_one] at hcs' J;have hrun:=run_storeCells_at C.P b k (U.ety tx) [u] 0 cur w hgb (by grind) (fun q hq=>by grind);simp only[JB] at hrun;have hcl:cur.toList.length=cap:=KI;have hget:∀q,q<xs.length->((cur.toList.take k++[u]++cur.toList.drop (k+[u].length)).take xs.length).getD q undef=if q=k then u else cs.getD q undef:=fun q hq=>by
     have e1:cs[q]?=cur.toList[q]?:=by
      grind
     simp only[List.getD_eq_getElem?_getD,KE,JQ hq,e1];simp only[KZ,List.getElem?_append,KU,hcl,JE]
     by_cases hqi:q=k
     ·grind
     ·rw[QF hqi];congr 1
      by_cases hlt:q<k
      ·grind
      ·rw[QF KI,QF KI,KO];grind
    let w2:=w.setRow b (cur.toList.take k++[u]++cur.toList.drop (k+[u].length)).toArray
    have hoth:∀nm g1 L,nm≠ .ob id->ρ nm=some (g1,L)->∀f,blk L=some f->w2.heap[f]?=w.heap[f]?:=fun nm g1 L G S f hb'=>
     setRow_other w b f _ (fun e=>h.sep _ _ _ _ _ _ f S h1 G hb' (by simp[blk,e]))
    have c:Chg N (fun q=>q=id) w0.heap.size ρ ρ w w2:=⟨fun _ _=>rfl,fun _ _ _ _ S=>.inl S,Cd I w _,fun f _ G=>setRow_other w b f _ (fun e=>G _ _ _ rfl h1 (by simp[blk,e])),
     fun nm g1 L f hd S hb'=>.inl ⟨nm,g1,L,hd,S,hb'⟩,fun nm nm' g1 g2 L u2 f _ _ S mN G cJ=>h.sep _ _ _ _ _ _ f S mN G cJ⟩
    refine⟨w2,ρ,?_,h.change (s':=s.obj id (.deep tx g gk xs)) c rfl (fun q hq=>?_) (fun nm g1 L hd S=>?_) (fun q ob hq ho=>?_) (fun q ob hq _=>⟨.deep tx g gk xs,by grind [ASt.obj]⟩),rfl⟩
    ·simp only[Instr.storeAt,Instr.sureAddr,storeVar,sizeOf,typeInfo,QE,JO,QL,run_program,hti];grind
    ·grind [fX,ASt.obj]
    ·exact⟨.deep tx g gk xs,by grind [ASt.obj],fun e=>by cases e⟩
    ·subst hq;have:(s.obj q (.deep tx g gk xs)).objs q=some (.deep tx g gk xs):=by simp[ASt.obj]
     rw[this] at ho;obtain rfl:=QU ho;refine⟨_,(cur.toList.take k++[u]++cur.toList.drop (k+[u].length)).take xs.length,h1,hpp,⟨?_,.inr ⟨b,cap,_,rfl,I,setRow_heap w b cur _ _ (0,0) hgb,hn,hcm,?_,?_⟩⟩,hsz,hno,fun j hj=>?_⟩
     ·grind
     ·grind
     ·grind
     ·obtain⟨t2,ws,v2,Bz,p1,p2,p3,p4,p5,p6⟩:=h3 j hj;refine⟨t2,ws,v2,Bz,p1,p2,?_,p4,?_,fun i hi k hk=>c.rel (p6 i hi k hk)⟩
      ·grind
      ·refine⟨p5.1,?_⟩;rcases p5.2 with hn'|⟨Z,V,cur',rfl,hb,hg,rest⟩
       ·grind
       ·exact .inr ⟨Z,V,cur',rfl,hb,by rw[hoth _ _ _ (fun e=>by cases e) p2 Z rfl];exact hg,rest⟩
  grind
 grind
def Xw (C:Cfg U) (look:Nat->Option (aT U)) (t:TypeId) (x u:aC U):Out U:=
 match C.P.underlying t,x,u with
 |some (.slice e),.osl id g,.int _ i=>match look id with
  |some (.deepS τ G _ xs _)=>cond (Nat.beq g G&&(match iO C.P e with|some n=>Nat.beq n (U.size τ)|none=>false))
    (some ([0<=i/\i<xs.length],.eptr id g i.toNat 0 (U.size τ),none)) none
  |_=>none
 |some (.array len e),.eptr id g j off f,.int _ i=>match iO C.P e with
  |some q=>cond (storable look (.eptr id g j off f)) (some ([0<=i/\i<len],.eptr id g j (off+i.toNat*q) f,none)) none
  |none=>none
 |_,_,_=>none
theorem aVN {C:Cfg U} (h:RR C.E n N w0 ρ s a w) {look:Nat->Option (aT U)} (f:∀id ob,look id=some ob->s.objs id=some ob) {t:TypeId} {x ix:aC U} {u v:Value} (hx:Rel C.E w ρ (aD N ρ w) x u) (O:Rel C.E w ρ (aD N ρ w) ix v)
  {cs:List Prop} {r:aC U} {ob:Option (Nat×aT U)} (ho:Xw C look t x ix=some (cs,r,ob)) (hc:dZ cs):
  ob=none/\∃q,(Instr.indexAt t u v).run C.P w=.ok q w/\Rel C.E w ρ (aD N ρ w) r q:=by
 unfold Xw at ho;split at ho
 ·rename_i e id g ki i V;split at ho
  ·rename_i τ g' gm xs i0 hid;obtain⟨hb,ho⟩:=cC ho;cases ho;simp only[QW] at hb;obtain rfl:=QQ hb.1;obtain⟨ti,I,Z⟩:=tT hb.2;cases O;have S:0<=i/\i<xs.length:=hc;obtain⟨u1,csx,h1,hpp,h2,_⟩:=h.objs _ _ (f _ _ hid);have wG:u1=u:=by
    cases hx with
    |osl _ _ u' hr' hp'=>
     grind
    |oslOld _ _ g' u' v hr' hg=>
     grind
   subst wG;refine⟨rfl,?_⟩;have J:=toNat_lt S;rcases h2.2 with ⟨h0',pM⟩|⟨gb,L,cur,rfl,hbase,hgb,hn,hcm,hcs,htake⟩
   ·omega
   ·refine⟨.pointer (some ⟨gb,i.toNat*U.size τ,none⟩),?_,?_⟩
    ·simp[Instr.indexAt,asIntOf,QV V,S,sizeOf,typeInfo,I,Z,addr_add]
    ·exact .eptr id g i.toNat 0 (U.size τ) gb xs.length L h1 J
  grind
 ·rename_i len e id g j off sz ki i V;split at ho
  ·rename_i q hq;obtain⟨G,ho⟩:=cC ho;cases ho;obtain⟨ti,I,rfl⟩:=oH hq;cases O;have hi:0<=i/\i<len:=hc;refine⟨rfl,?_⟩;cases hx with
   |eptr _ _ _ _ _ b n' L hr J=>
    refine⟨_,?_,.eptr id g j _ sz b n' L hr J⟩;simp[Instr.indexAt,asIntOf,QV V,hi,sizeOf,typeInfo,I,Instr.sureAddr,addr_add,KN]
   |eptrOld _ _ _ _ _ g' u v hr hg=>
    unfold storable at G;split at G
    ·grind
    ·rename_i id2 g2 _ _ _ S;cases S;split at G
     ·rename_i t2 g3 xs2 hl;obtain rfl:=QQ G;obtain⟨u2,_,h2,_⟩:=h.objs _ _ (f _ _ hl);grind
     grind
    ·grind
    ·grind
    grind
  grind
 grind
def Ad (C:Cfg U) (look:Nat->Option (aT U)) (t:TypeId) (x:aC U) (lo hi:Option (aC U)):Out U:=
 match C.deep,C.P.underlying t,x with
 |false,some (.slice e),.osl id g=>match look id with
  |some (.row τ f xs)=>cond (Nat.beq g f&&(match iO C.P e with|some q=>Nat.beq q (U.size τ)|none=>false)) (match lo,hi with
   |some (.int _ l),some (.int _ h)=>some ([0<=l/\l<=h/\h<=xs.length],.ovw id g l.toNat h.toNat (U.size τ),none)
   |some (.int _ l),none=>some ([0<=l/\l<=xs.length],.ovw id g l.toNat xs.length (U.size τ),none)
   |none,some (.int _ h)=>some ([0<=h/\h<=xs.length],.ovw id g 0 h.toNat (U.size τ),none)
   |_,_=>none) none
  |_=>none
 |_,_,_=>none
theorem N9 {C:Cfg U} (h:RR C.E n N w0 ρ s a w) {look:Nat->Option (aT U)} (u:∀id ob,look id=some ob->s.objs id=some ob) {t:TypeId} {x:aC U} {v:Value} (hx:Rel C.E w ρ (aD N ρ w) x v) {lo hi:Option (aC U)} {lo' hi':Option Value}
  (I:∀y,lo=some y->∃v,lo'=some v/\Rel C.E w ρ (aD N ρ w) y v) (L:lo=none->lo'=none)
  (J:∀y,hi=some y->∃v,hi'=some v/\Rel C.E w ρ (aD N ρ w) y v) (O:hi=none->hi'=none)
  {cs:List Prop} {r:aC U} {ob:Option (Nat×aT U)} (ho:Ad C look t x lo hi=some (cs,r,ob)) (hc:dZ cs):
  ob=none/\∃q,(Instr.sliceAt t v lo' hi' none).run C.P w=.ok q w/\Rel C.E w ρ (aD N ρ w) r q:=by
 unfold Ad at ho;split at ho
 ·rename_i e id g hdp hu;split at ho
  ·rename_i τ g' xs hid;have hbb:=cC ho;clear ho;obtain⟨hb,ho⟩:=hbb;simp only[QW] at hb;obtain rfl:=QQ hb.1;obtain⟨ti,hti,hts⟩:=tT hb.2;rw[Ue hu (fun _ _ e=>by cases e)];obtain⟨u1,csx,h1,G,h2,_⟩:=h.objs _ _ (u _ _ hid);have wG:u1=v:=by
    cases hx with
    |osl _ _ u' hr' hp'=>
     grind
    |oslOld _ _ g' u' v hr' hg=>
     grind
   subst wG
   -- the slice's value
   obtain⟨S,f,rfl,hcap,j⟩:∃(S:Option Addr) (f:Nat),u1=.slice S xs.length f/\xs.length<=f/\∀(l m:Nat),l<=m->m<=xs.length->Rel C.E w ρ (aD N ρ w) (.ovw id g l m (U.size τ)) (.slice (if f=l then S else S.map (·.add (l*U.size τ))) (m-l) (f-l)):=by
    rcases h2.2 with ⟨rfl,pM⟩|⟨gb,f,cur,rfl,hbase,hgb,hn,hcm,hcs,htake⟩
    ·refine⟨none,0,by grind,KI,fun l m hl hm=>?_⟩;have wJ:l=0:=KI;have Gt:m=0:=KI;subst wJ;subst Gt;exact .ovw id g 0 0 (U.size τ) _ none 0 h1 G (QP _) (.inl ⟨rfl,rfl,rfl⟩)
    ·refine⟨some ⟨gb,0,none⟩,f,rfl,hn,fun l m hl hm=>?_⟩;refine .ovw id g l m (U.size τ) _ _ (f-l) h1 G hl (.inr ⟨gb,xs.length,f,if f=l then 0 else l*U.size τ,rfl,hm,?_,fun hlt=>by grind,KI⟩);grind [addr_add]
   split at ho
   ·rename_i kl l kh hh;simp only[QJ,QX] at ho;obtain⟨rfl,rfl,rfl⟩:=ho;obtain⟨_,rfl,V⟩:=I _ rfl;obtain⟨_,rfl,Z⟩:=J _ rfl;cases V;cases Z;have h0:0<=l/\l<=hh/\hh<=xs.length:=hc;have cJ:=pV (P:=C.P) (w:=w) (k:=kh) (code:=.sliceAcap) (show 0<=hh/\hh<=f by omega);have dR:=pV (P:=C.P) (w:=w) (k:=kl) (code:=.sliceB) (show 0<=l/\l<=hh.toNat by omega);refine⟨rfl,_,?_,j l.toNat hh.toNat KI KI⟩;simp_all[Instr.slice,Instr.sliceBounds,QV,sizeOf,typeInfo]
   ·rename_i kl l;simp only[QJ,QX] at ho;obtain⟨rfl,rfl,rfl⟩:=ho;obtain⟨_,rfl,V⟩:=I _ rfl;obtain rfl:=O rfl;cases V;have h0:0<=l/\l<=xs.length:=hc;simp_all[pV,Instr.slice,Instr.sliceBounds,QV,sizeOf,typeInfo]
   ·rename_i kh hh;simp only[QJ,QX] at ho;obtain⟨rfl,rfl,rfl⟩:=ho;obtain⟨_,rfl,Z⟩:=J _ rfl;obtain rfl:=L rfl;cases Z;have h0:0<=hh/\hh<=xs.length:=hc;have cJ:=pV (P:=C.P) (w:=w) (k:=kh) (code:=.sliceAcap) (show 0<=hh/\hh<=f by omega);have:=j 0 hh.toNat KI KI;simp_all[Instr.slice,Instr.sliceBounds,QV,sizeOf,typeInfo]
   grind
  grind
 grind
def C5 (C:Cfg U) (look:Nat->Option (aT U)) (d:Nat) (t:TypeId) (len:Nat):List (Nat×aC U)->Out U
 |[(0,.osl m f)]=>match lG C t,look d,zeroCells (U:=U) C.P (match lG C t with|some τ=>U.ety τ|none=>0) with
  |some τ,none,some z=>cond (C.deep&&!C.pur&&storable look (.osl m f)&&Nat.beq len 1&&Nat.beq (U.size τ) 1&&Nat.beq z.length (U.size τ)) (some ([],.osl d 0,some (d,.one τ 0 m f))) none
  |_,_,_=>none
 |_=>none
theorem bA1 {C:Cfg U} (h:RR C.E n N w0 ρ s a w) {look:Nat->Option (aT U)} (hlook:∀id ob,look id=some ob->s.objs id=some ob) {d:Nat} (hf:look d=none->s.objs d=none) {t:TypeId} {len:Nat}
  {f:List (Nat×aC U)} {parts':Array (Nat×Value)} (hpl:f.length=parts'.size)
  (hp:∀k (h:k<f.length) (h':k<parts'.toList.length),f[k].1=parts'.toList[k].1/\Rel C.E w ρ (aD N ρ w) f[k].2 parts'.toList[k].2)
  {cs:List Prop} {r:aC U} {ob:Option (Nat×aT U)} (ho:C5 C look d t len f=some (cs,r,ob)):
  ∃v' w' ρ',(Instr.buildSlice t len parts').run C.P w=.ok v' w'/\RR C.E n N w0 ρ' (s.putObj ob) a w'/\Rel C.E w' ρ' (aD N ρ' w') r v':=by
 unfold C5 at ho;split at ho
 ·rename_i m gm;split at ho
  ·rename_i τ z hτ hfree hz;obtain⟨hb,ho⟩:=cC ho;cases ho;simp only[QW] at hb;obtain⟨⟨⟨⟨_,hst⟩,cJ⟩,gV⟩,wM⟩:=hb;obtain rfl:=QQ cJ;have V:=QQ gV;have hzl:=QQ wM;rw[hτ] at hz;simp only at hz;obtain⟨hu,i,hi,his⟩:=qY hτ;obtain⟨zv,hzr,hzsz,hzrel⟩:=xB (E:=C.E) (w:=w) (ρ:=ρ) hz;have hps:parts'.toList.length=1:=by grind
   obtain⟨q1,q2⟩:=hp 0 XQ KI;simp only[JZ] at q1 q2;obtain⟨⟨i0,J⟩,hpe⟩:∃x,parts'.toList=[x]:=List.length_eq_one_iff.1 hps;simp only[hpe,JZ] at q1 q2;subst q1;have hpe':parts'=#[(0,J)]:=by grind
   subst hpe';have O:J.oneCell'=true:=xM h hlook q2 hst;have hcu:J.cells=#[J]:=cells_one O;have hrow:((Array.range (1*1)).map (fun k=>zv.cells[k % zv.cells.size]!)).size=1:=XQ;have hfill:Instr.fill (fun i=>some (i*1,1)) ((Array.range (1*1)).map (fun k=>zv.cells[k % zv.cells.size]!)) [(0,J)]=some #[J]:=by
    generalize (Array.range (1*1)).map (fun k=>zv.cells[k % zv.cells.size]!)=base at hrow;obtain⟨b0,rfl⟩:∃b0,base=#[b0]:=by
     obtain⟨l⟩:=base;grind [List.length_eq_one_iff]
    simp[Instr.fill,hcu]
   have L:=hf hfree;have Z:=h.tK L
   let w2:=w.alloc (.cells #[J] (U.ety τ))
   let vn:Value:=.slice (some ⟨w.heap.size,0,none⟩) 1 1
   have hvn:∀a,vn≠ .pointer a:=fun a e=>by
    grind
   have j:Below w.heap.size w w2:=(Below.refl _ _).alloc (QP _) _;have hold:∀g u,ρ (.ob d)=some (g,u)->(g=0/\u=vn)\/((∀a,u≠ .pointer a)/\g<0):=fun g u hr=>(Z _ _ hr).elim
   have I:∀b,b<w.heap.size->(∀g u,ρ (.ob d)=some (g,u)->blk u≠some b)->w2.heap[b]?=w.heap[b]?:=fun b hb _=>j.block b hb
   have S:∀b,blk vn=some b->(∃g u,ρ (.ob d)=some (g,u)/\blk u=some b)\/(w.heap.size<=b):=fun b hb=>by
    have hb':some w.heap.size=some b:=hb;grind
   have G:∀ob,s.objs d=some ob->ob.simple=true:=fun ob ho=>by grind
   refine⟨vn,w2,dJ ρ d 0 vn,?_,h.upd d 0 vn (.one τ 0 m gm) G hold (j.mono h.below.size) I S ?_,.osl d 0 vn (by simp[dJ]) hvn⟩
   ·have lV:¬1*i.size > 2^24:=KI;have h0:¬1*i.size=0:=KI;rw[his,V] at lV h0;simp only[Instr.buildSlice,QE,QV hu,QL,sizeOf,typeInfo,run_program,hi,JO,his,V,QF lV,QF h0,hzr,hfill,newRow,run_newObj];rfl
   ·refine⟨vn,[J],by simp[dJ],hvn,⟨by grind,.inr ⟨w.heap.size,1,#[J],rfl,h.below.size,heap_alloc_new w _,XQ,by unfold maxLen;omega,by grind,by grind⟩⟩,V,?_,O⟩;exact h.tJ d 0 vn G hold (j.mono h.below.size) I S q2
  grind
 grind
def mm (C:Cfg U) (look:Nat->Option (aT U)) (d:Nat) (G:List TypeId) (x y:aC U):Out U:=
 match G,y with
 |[t,t'],.osl q L=>cond (Nat.beq t t') (match lG C t,look q with
  |some τ,some (.one j I m f)=>match C.P.info? (U.ety τ),oD τ j [] with
   |some i,some _=>match i.zero with
    |some z=>cond (Nat.beq z.cells.size (U.size τ)&&Nat.ble 1 i.bytes&&Nat.beq L I) (match x with
     | .nils=>match look d with
      |none=>some ([i.bytes<=140737488355328],.osl d 0,some (d,.deepF τ 0 0 [] m f))
      |some _=>none
     | .osl id g=>match look id with
      |some (.deep u O J xs)=>match oD τ u xs with
       |some us=>cond (Nat.beq g O) (some ([(us.length+1)*i.bytes<=140737488355328],.osl id (g+1),some (id,.deepF τ (g+1) J us m f))) none
       |none=>none
      |_=>none
     |_=>none) none
    |none=>none
   |_,_=>none
  |_,_=>none) none
 |_,_=>none
theorem bBH {C:Cfg U} (h:RR C.E n N w0 ρ s a w) {look:Nat->Option (aT U)} (O:∀id ob,look id=some ob->s.objs id=some ob) {d:Nat} (hf:look d=none->s.objs d=none)
  {argTypes:Array TypeId} {ty:TypeId} {x y:aC U} {u v:Value} (hx:Rel C.E w ρ (aD N ρ w) x u) (hy:Rel C.E w ρ (aD N ρ w) y v)
  {cs:List Prop} {r:aC U} {ob:Option (Nat×aT U)} (ho:mm C look d argTypes.toList x y=some (cs,r,ob)) (hc:dZ cs):
  ∃L w' ρ',(Builtin.append_ argTypes ty #[u,v]).run C.P w=.ok L w'/\RR C.E n N w0 ρ' (s.putObj ob) a w'/\Rel C.E w' ρ' (aD N ρ' w') r L:=by
 unfold mm at ho;split at ho
 ·rename_i t t' q gq hat;have hbo:=cC ho;clear ho;obtain⟨hb,ho⟩:=hbo;obtain rfl:=QQ hb;have hargs:argTypes=#[t,t]:=by grind
  subst hargs;split at ho
  ·rename_i τ J gy m gm hτ hq;split at ho
   ·rename_i i l0 hi hcast;obtain⟨rfl,_⟩:=oV hcast;split at ho
    ·rename_i z hz;have hbo:=cC ho;clear ho;obtain⟨dR,ho⟩:=hbo;simp only[QW] at dR;obtain⟨⟨hzs,hby⟩,hgy⟩:=dR;have hzs:=QQ hzs;have hby:=QR hby;obtain rfl:=QQ hgy;obtain⟨hu,i',hi',his⟩:=qY hτ;rw[hi] at hi';obtain rfl:=QU hi';obtain⟨uy,csy,y1,y2,y3,y4,y5,y6⟩:=h.objs _ _ (O _ _ hq);have hvy:uy=v:=by
      cases hy with
      |osl _ _ u' hr' hp'=>
       grind
      |oslOld _ _ I u' v hr' hg=>
       grind
     subst hvy;have hcy:Ri w 1 (U.size J) (fun _=>csy.getD 0 undef) uy:=by
      rcases y3.2 with ⟨f,pM⟩|⟨gb,cap,cur,heq,hbase,hgb,hn,hcm,hcs,htake⟩
      ·omega
      ·refine .inr ⟨gb,0,cap,heq,hn,fun j hj=>?_⟩;grind [cell_of_row]
     -- both forms in one
     have main:∀(id I S:Nat) (xs:List (U.T J)) (kN:List Value),(∀ob,s.objs id=some ob->ob.simple=false)->w.ownsRow w0.heap.size (U.ety J) (U.size J) u xs.length kN->(∀a,u≠ .pointer a)->
       ((∃g,ρ (.ob id)=some (g,u)/\g<I)\/(ρ (.ob id)=none/\u=.slice none 0 0))->(∀j,xs.length<=j->ρ (.mem id j)=none)->
       (∀j (hj:j<xs.length),∃t1 ys v ds,C.E.enc J xs[j]=[.sl t1 ys]/\ρ (.mem id j)=some (S,v)/\kN.getD j undef=v/\(∀a,v≠ .pointer a)/\w.ownsRow w0.heap.size (U.ety t1) (U.size t1) v ys.length ds/\
        ∀i (h:i<ys.length) k (hk:k<(C.E.enc t1 ys[i]).length),Rel C.E w ρ (aD N ρ w) (C.E.enc t1 ys[i])[k] (ds.getD (i*U.size t1+k) undef))->
       (xs.length+1)*i.bytes<=140737488355328->
       ∃L w' ρ',(Builtin.append_ #[t,t] ty #[u,uy]).run C.P w=.ok L w'/\RR C.E n N w0 ρ' (s.putObj (some (id,.deepF J I S xs m gm))) a w'/\Rel C.E w' ρ' (aD N ρ' w') (.osl id I) L:=by
      intro id I S xs kN hids hown hpu V hno hmem hbytes;obtain⟨L,w',hrun,hown',G,hpv,hblk⟩:=J3 (P:=C.P) (ty:=ty) (base:=w0.heap.size) hu hi hz his hzs (C.E.pos J) hby hown hpu hcy hbytes h.below.size
      let ρ2:Own:=nX ρ id (some (I,L)) (fun j=>ρ (.mem id j))
      have eid:ρ2 (.ob id)=some (I,L):=vK;have emem:∀j,ρ2 (.mem id j)=ρ (.mem id j):=fun j=>vL
      have c:Chg N (fun q=>q=id) w0.heap.size ρ ρ2 w w':=by
       refine S8 h (fun nm hn=>qZ hn) (fun nm g1 u1 hd fD=>?_) ((Below.refl _ _).grown G h.below.size (fun k hk=>?_)) (fun b hb hne=>G.block b hb (fun e=>?_)) (.ob id) (fun nm g1 u1 b hd fD hb=>?_)
       ·cases nm with
        |ob q=>
         obtain rfl:q=id:=hd;grind
        |mem q j=>
         obtain rfl:q=id:=hd;grind
       ·rcases V with ⟨g0,f,_⟩|⟨_,f⟩
        ·exact((h.own f).2 k (by grind [lQ])).1
        ·rw[f] at hk;cases hk
       ·rcases V with ⟨g0,f,_⟩|⟨_,f⟩
        ·exact hne (.ob id) g0 u rfl f (by grind [lQ])
        ·rw[f] at e;cases e
       ·cases nm with
        |ob q=>
         obtain rfl:q=id:=hd;rw[eid] at fD;cases fD;rcases hblk b hb with hb'|hb'
         ·rcases V with ⟨g0,f,_⟩|⟨_,f⟩
          ·grind
          ·rw[f] at hb';cases hb'
         grind
        |mem q j=>
         obtain rfl:q=id:=hd;grind
      have keep:∀{nm:Name} {g1:Nat} {u1:Value} {e:TypeId} {m k:Nat} {cs:List Value},nm≠ .ob id->ρ nm=some (g1,u1)->(∀a,u1≠ .pointer a)->w.ownsRow w0.heap.size e m u1 k cs->w'.ownsRow w0.heap.size e m u1 k cs:=fun {nm g1 u1 e m k cs} hne fD wI hw=>by
       refine hw.kept G ?_;rw[lQ hpu,lQ wI];cases Ya:blk u1 with
       |none=>grind
       |some b=>
        rcases V with ⟨g0,f,_⟩|⟨_,f⟩
        ·exact .inr (fun e=>h.sep _ _ _ _ _ _ b fD f hne Ya e.symm)
        ·exact .inr (fun e=>by rw[f] at e;cases e)
      obtain⟨o1,o3⟩:=T6 s id 0 (.deepF J I S xs m gm) .any;have hR:=h.change (s':=s.obj id (.deepF J I S xs m gm)) c rfl (fun q hq=>o1 q hq) (fun nm g u hq hr=>?_) (fun p ob hp ho=>?_) (fun q ob hq _=>⟨_,(congrArg _ hq).trans o3⟩)
      ·exact⟨L,w',ρ2,hrun,hR,.osl id I L eid hpv⟩
      ·exact⟨_,by rw[hq];exact o3,fun e=>by cases e⟩
      ·subst hp;rw[show (s.obj p (.deepF J I S xs m gm)).objs p=some (.deepF J I S xs m gm) from o3] at ho;cases ho;have hcl:kN.length=xs.length:=by rw[hown.1,y4,Nat.mul_one]
       have hlast:(kN++(List.range (1*U.size J)).map fun _=>csy.getD 0 undef).getD xs.length undef=csy.getD 0 undef:=by
        grind
       refine⟨L,_,eid,hpv,hown',y4,fun j hj=>by grind,by rw[hlast];exact c.rel y5,fun j hj=>?_⟩;obtain⟨t1,ws,v1,ds,r1,r2,r3,r4,r5,r6⟩:=hmem j hj;refine⟨t1,ws,v1,ds,r1,by grind,?_,r4,keep (fun e=>by cases e) r2 r4 r5,fun i hi k hk=>c.rel (r6 i hi k hk)⟩;grind
     split at ho
     ·split at ho
      ·rename_i hfree;cases ho;cases hx;have Z:=hf hfree;have hnone:=h.tK Z;exact main d 0 0 [] [] (fun ob ho=>by grind) (JV _ _ _ _) (fun a e=>by cases e) (.inr ⟨by
        cases hq:ρ (.ob d) with
        |none=>rfl
        |some p=>grind,rfl⟩) (fun j _=>h.vU (fun ob ho=>by grind) j) (fun j hj=>absurd hj XQ) (by
        have:i.bytes<=140737488355328:=hc;grind)
      grind
     ·rename_i id g;split at ho
      ·rename_i τx I S Rk hid;split at ho
       ·rename_i us hus;obtain⟨gV,ho⟩:=cC ho;cases ho;obtain rfl:=QQ gV;obtain⟨rfl,rfl⟩:=oV hus;have hid':=O _ _ hid;obtain⟨ux,csx,x1,x2,x3,x4,x5,x6⟩:=h.objs _ _ hid';have hvx:ux=u:=by
         cases hx with
         |osl _ _ u' hr' hp'=>
          grind
         |oslOld _ _ I u' v hr' hg=>
          grind
        subst hvx;exact main id (g+1) S Rk csx (fun ob ho=>by rw[hid'] at ho;cases ho;rfl) x3 x2 (.inl ⟨g,x1,KI⟩) x5 x6 hc
       grind
      grind
     grind
    grind
   grind
  grind
 grind
theorem aOf {P:Program} (O V ty G:TypeId) {sz:Nat} (g o u L:Nat) (a:Addr) (f I:Nat) (cur:Array Value) (t:TypeId) (cs:List Value)
  (hu:P.underlying O=some (.slice G)) {i:TypeInfo} (hi:P.info? G=some i) (hs:i.size=sz)
  (Z:w.heap[g]?=some (.cells cur t (0,0))) (hn:cs.length=Nat.min f u*sz)
  (J:∀j v,cs[j]?=some v->w.cell? (a.add j)=some v) (S:o+cs.length<=cur.size) (h1:∀v∈cs,v.oneCell'=true):
  (Builtin.copy_ #[O,V] ty #[.slice (some ⟨g,o,none⟩) u L,.slice (some a) f I]).run P w=
   .ok (goInt (Nat.min f u)) (w.setRow g (cur.toList.take o++cs++cur.toList.drop (o+cs.length)).toArray):=by
 have hl:=run_loadCells_list (P:=P) w a cs J;have hst:=run_storeCells_at P g o t cs 0 cur w Z KI h1;simp_all[Builtin.copy_,QV,Builtin.lenOf,Builtin.firstCells,sizeOf,typeInfo]
def lj (look:Nat->Option (aT U)) (τ:U.τ):aC U->Option (Nat×Nat×Nat×Nat×List (U.T τ))
 | .osl id g=>match look id with
  |some (.row f j xs)=>match oD τ f xs with
   |some us=>cond (Nat.beq g j) (some (id,g,0,us.length,us)) none
   |none=>none
  |_=>none
 | .ovw id g lo hi u=>match look id with
  |some (.row f j xs)=>match oD τ f xs with
   |some us=>cond (Nat.beq g j&&Nat.beq u (U.size τ)) (some (id,g,lo,hi,us)) none
   |none=>none
  |_=>none
 |_=>none
theorem aYt {E:Enc U} (h:RR E n N w0 ρ s a w) {look:Nat->Option (aT U)} (G:∀id ob,look id=some ob->s.objs id=some ob) {τ:U.τ} {x:aC U} {v:Value} (hx:Rel E w ρ (aD N ρ w) x v)
  {id g lo hi:Nat} {xs:List (U.T τ)} (f:lj look τ x=some (id,g,lo,hi,xs)):
  s.objs id=some (.row τ g xs)/\lo<=hi/\∃u O c,ρ (.ob id)=some (g,u)/\v=.slice O (hi-lo) c/\
   ((O=none/\c=0/\lo=hi)\/∃b n J o,u=.slice (some ⟨b,0,none⟩) n J/\hi<=n/\O=some ⟨b,o,none⟩/\(lo<hi->o=lo*U.size τ)/\hi-lo<=c):=by
 unfold lj at f;split at f
 ·rename_i id' g1;split at f
  ·rename_i t2 Z ys V;split at f
   ·rename_i us L;obtain⟨hb,f⟩:=cC f;obtain⟨rfl,rfl⟩:=oV L;simp only[QJ,QX] at f;obtain⟨rfl,rfl,rfl,rfl,rfl⟩:=f;obtain rfl:=QQ hb;have j:=G _ _ V;obtain⟨u1,cs,h1,hp,h2,_⟩:=h.objs _ _ j;have huv:u1=v:=by
     cases hx with
     |osl _ _ S I hp'=>
      grind
     |oslOld _ _ Z S v I hg=>
      grind
    subst huv;refine⟨j,Nat.zero_le _,?_⟩;rcases h2.2 with ⟨rfl,pM⟩|⟨gb,J,cur,rfl,hbase,hgb,hn,hcm,hcs,htake⟩
    ·grind
    ·exact⟨_,some ⟨gb,0,none⟩,J,h1,by rfl,.inr ⟨gb,ys.length,J,0,rfl,QP _,rfl,fun _=>KI,KI⟩⟩
   grind
  grind
 ·rename_i id' g1 lo1 Oo sz;split at f
  ·rename_i t2 Z ys V;split at f
   ·rename_i us L;obtain⟨hb,f⟩:=cC f;obtain⟨rfl,rfl⟩:=oV L;simp only[QJ,QX] at f;obtain⟨rfl,rfl,rfl,rfl,rfl⟩:=f;simp only[QW] at hb;obtain rfl:=QQ hb.1;obtain rfl:=QQ hb.2;have j:=G _ _ V;obtain⟨u1,cs,h1,hp,h2,_⟩:=h.objs _ _ j;cases hx with
    |ovwOld _ _ _ _ _ Z S v I hg=>
     grind
    |ovw _ _ _ _ _ S O c I _ hle had=>exact⟨j,hle,_,O,c,I,rfl,had⟩
   grind
  grind
 grind
def mv (C:Cfg U) (look:Nat->Option (aT U)) (j:List TypeId) (x y:aC U):Out U:=
 match j with
 |[t,_]=>match lG C t with
  |some τ=>match lj look τ x,rowOf C.E look τ y with
   |some (id,g,lo,hi,xs),some f=>cond C.pur none (some ([],.int .i64 ((min f.length (hi-lo):Nat):Int),some (id,.row τ g (xs.take lo++f.take (min f.length (hi-lo))++xs.drop (lo+min f.length (hi-lo))))))
   |_,_=>none
  |none=>none
 |_=>none
theorem aRl {s:ASt U} {id:Nat} {ob:aT U} (h:s.objs id=some ob):s.obj id ob=s:=by
 cases s with
 |mk t o=>
  grind [ASt.obj,ASt.mk.injEq,fX]
theorem bB8 {C:Cfg U} (h:RR C.E n N w0 ρ s a w) {look:Nat->Option (aT U)} (hlook:∀id ob,look id=some ob->s.objs id=some ob)
  {argTypes:Array TypeId} {ty:TypeId} {x y:aC U} {u v:Value} (hx:Rel C.E w ρ (aD N ρ w) x u) (hy:Rel C.E w ρ (aD N ρ w) y v)
  {cs:List Prop} {r:aC U} {ob:Option (Nat×aT U)} (ho:mv C look argTypes.toList x y=some (cs,r,ob)):
  ∃v' w' ρ',(Builtin.copy_ argTypes ty #[u,v]).run C.P w=.ok v' w'/\RR C.E n N w0 ρ' (s.putObj ob) a w'/\Rel C.E w' ρ' (aD N ρ' w') r v':=by
 unfold mv at ho;split at ho
 ·rename_i t t' hat;have hargs:argTypes=#[t,t']:=by grind
  subst hargs;split at ho
  ·rename_i τ hτ;split at ho
   ·rename_i id g lo hi xs I hd hys;obtain⟨_,ho⟩:=ll ho;cases ho;obtain⟨hid,hle,u0,ad,c,pL,rfl,had⟩:=aYt h hlook hx hd;obtain⟨hu,i,hi',his⟩:=qY hτ;have Oj:=P3 h hlook hy hys;obtain⟨u1,cs,h1,hp,h2,h3⟩:=h.objs _ _ hid;rw[pL] at h1;cases h1
    -- nothing is copied
    have none_:min I.length (hi-lo)=0->(Builtin.copy_ #[t,t'] ty #[.slice ad (hi-lo) c,v]).run C.P w=.ok (goInt 0) w->
      ∃v' w' ρ',(Builtin.copy_ #[t,t'] ty #[.slice ad (hi-lo) c,v]).run C.P w=.ok v' w'/\RR C.E n N w0 ρ' (s.putObj (some (id,.row τ g (xs.take lo++I.take (min I.length (hi-lo))++xs.drop (lo+min I.length (hi-lo)))))) a w'/\
       Rel C.E w' ρ' (aD N ρ' w') (.int .i64 ((min I.length (hi-lo):Nat):Int)) v':=fun h0 L=>by
     refine⟨_,w,ρ,L,?_,?_⟩
     ·rw[h0];simp only[List.take_zero,JP,JB,List.take_append_drop];show RR C.E n N w0 ρ (s.obj id (.row τ g xs)) a w;grind [aRl]
     ·rw[h0];exact .int _ _
    rcases Oj with ⟨⟨ad2,rfl⟩,rfl⟩|⟨b2,o2,V,f,rfl,hcap2,hcc,hl⟩
    ·refine none_ XQ ?_;rcases had with ⟨rfl,rfl,rfl⟩|⟨b,n',G,o,rfl,hn,rfl,hoo,hcap⟩
     ·cases ad2<;>simp[Builtin.copy_,QV hu,Builtin.lenOf,Builtin.firstCells,sizeOf,typeInfo,hi',loadCells,loadCellsFrom]
     ·cases ad2<;>simp[Builtin.copy_,QV hu,Builtin.lenOf,Builtin.firstCells,sizeOf,typeInfo,hi',storeCells,loadCells,loadCellsFrom]
    ·rcases Nat.eq_zero_or_pos (min I.length (hi-lo)) with h0|hpos
     ·refine none_ h0 ?_;have h0':I.length.min (hi-lo)=0:=h0;rcases had with ⟨rfl,rfl,rfl⟩|⟨b,n',G,o,rfl,hn,rfl,hoo,hcap⟩
      ·simp_all[Builtin.copy_,QV,Builtin.lenOf,Builtin.firstCells,sizeOf,typeInfo,loadCells,loadCellsFrom]
      ·simp[Builtin.copy_,QV hu,Builtin.lenOf,Builtin.firstCells,sizeOf,typeInfo,hi',storeCells,loadCells,loadCellsFrom,h0']
     ·generalize hm:min I.length (hi-lo)=m at hpos;rcases had with ⟨rfl,rfl,rfl⟩|⟨b,n',G,o,rfl,hn,rfl,hoo,hcap⟩
      ·omega
      have hol:=hoo KI;subst hol;rcases h2.2 with ⟨e0,_⟩|⟨gb,cap',cur,heq,hbase,hgb,hnn,hcm,hcs,htake⟩
      ·cases e0
      simp only[JI,QJ,KQ,and_true] at heq;obtain⟨rfl,rfl,rfl⟩:=heq;have hsz:=C.E.pos τ;have hms:m*U.size τ<=I.length*U.size τ:=QC _ KI;have hfit:lo*U.size τ+m*U.size τ<=xs.length*U.size τ:=by
       rw[<- Nat.add_mul];exact QC _ KI
      have hfit2:xs.length*U.size τ<=G*U.size τ:=QC _ hnn;have O:((List.range (m*U.size τ)).map f).length=m*U.size τ:=XQ;have L:=aOf (P:=C.P) (w:=w) t t' ty (U.ety τ) (sz:=U.size τ) b (lo*U.size τ) (hi-lo) c ⟨b2,o2,none⟩ I.length V cur (U.ety τ) ((List.range (m*U.size τ)).map f) hu hi' his hgb
       (by grind) (fun j x hj=>by
        grind [addr_add]) KI (fun x hx=>by
        obtain⟨j,hj,rfl⟩:=JK.1 hx;have hj':j<m*U.size τ:=by grind
        obtain⟨f',hf',hl'⟩:=aHU (E:=C.E) h (.inr ⟨b2,o2,V,f,rfl,hcap2,hcc,hl⟩:k6 C.E w ρ (aD N ρ w) τ I (.slice (some ⟨b2,o2,none⟩) I.length V));rcases hf' with ⟨⟨_,e0⟩,_⟩|⟨b3,o3,cap3,e3,_,Gw⟩
        ·omega
        grind)
      rw[show Nat.min I.length (hi-lo)=m from hm] at L
      let J:List Value:=cur.toList.take (lo*U.size τ)++(List.range (m*U.size τ)).map f++cur.toList.drop (lo*U.size τ+((List.range (m*U.size τ)).map f).length)
      have hcl:cur.toList.length=G*U.size τ:=KI;have hncl:J.length=G*U.size τ:=by
       grind
      have hold:∀g1 u',ρ id=some (g1,u')->(g1=g/\u'=.slice (some ⟨b,0,none⟩) xs.length G)\/((∀a,u'≠ .pointer a)/\g1<g):=fun g1 u' hr=>by
       grind
      have hsame:∀S,S<w.heap.size->(∀g u',ρ id=some (g,u')->blk u'≠some S)->(w.setRow b J.toArray).heap[S]?=w.heap[S]?:=fun S _ hne=>
       setRow_other w b S _ (fun e=>hne _ _ pL (by simp[blk,e]))
      have hnew:∀S,blk (.slice (some ⟨b,0,none⟩) xs.length G)=some S->(∃g u',ρ id=some (g,u')/\blk u'=some S)\/(w.heap.size<=S):=fun S hb'=>.inl ⟨_,_,pL,hb'⟩
      have Z:∀ob,s.objs id=some ob->ob.simple=true:=fun ob ho=>by rw[hid] at ho;cases ho;rfl
      have hb:=Cd hbase w J.toArray;have hup:=fun {x:aC U} {v:Value} (hx:Rel C.E w ρ (aD N ρ w) x v)=>h.tJ id g (.slice (some ⟨b,0,none⟩) xs.length G) Z hold hb hsame hnew hx
      -- the new row's cells
      have hlist:J.take (xs.length*U.size τ)=(cs.take (lo*U.size τ)++(List.range ((I.take m).length*U.size τ)).map f)++(List.range ((xs.drop (lo+m)).length*U.size τ)).map fun k=>cs.getD ((lo+m)*U.size τ+k) undef:=by
       have hym:(I.take m).length=m:=by grind
       have hxd:(xs.drop (lo+m)).length*U.size τ=xs.length*U.size τ-(lo+m)*U.size τ:=by grind
       rw[hym,hxd];have hcsl:=h2.1;refine List.ext_getElem? fun k=>?_
       rw[KE]
       by_cases hk:k<xs.length*U.size τ
       ·rw[JQ hk];simp only[J,O]
        by_cases sO:k<lo*U.size τ
        ·grind [List.getElem?_append_left]
        ·by_cases fJ:k<lo*U.size τ+m*U.size τ
         ·grind
         ·rw[List.getElem?_append_right (by grind),List.getElem?_append_right (by grind)];simp only[QM,KU,O,hcl,hcsl,KO];rw[show min (lo*U.size τ) (G*U.size τ)=lo*U.size τ by omega,show min (lo*U.size τ) (xs.length*U.size τ)=lo*U.size τ by omega];have e1:lo*U.size τ+m*U.size τ+(k-(lo*U.size τ+m*U.size τ))=k:=KI;grind
       ·rw[QF hk];refine(List.getElem?_eq_none ?_).symm;simp only[QM,KU,KJ,List.length_range,hcsl];grind
      have hlen:(xs.take lo++I.take m++xs.drop (lo+m)).length=xs.length:=by
       grind
      refine⟨_,_,dJ ρ id g (.slice (some ⟨b,0,none⟩) xs.length G),L,?_,.int _ _⟩;show RR C.E n N w0 _ (s.obj id (.row τ g (xs.take lo++I.take m++xs.drop (lo+m)))) a (w.setRow b J.toArray);refine h.upd id g _ _ Z hold hb hsame hnew ⟨_,J.take (xs.length*U.size τ),by simp[dJ],hp,?_,?_⟩
      ·rw[hlen];refine⟨by grind,.inr ⟨b,G,J.toArray,rfl,hbase,setRow_heap w b cur _ _ (0,0) hgb,hnn,hcm,KI,rfl⟩⟩
      ·rw[hlist];have htk:∀i (hi:i<(xs.take lo).length) k (hk:k<(C.E.enc τ (xs.take lo)[i]).length),Rel C.E (w.setRow b J.toArray) (dJ ρ id g (.slice (some ⟨b,0,none⟩) xs.length G)) (aD N (dJ ρ id g (.slice (some ⟨b,0,none⟩) xs.length G)) (w.setRow b J.toArray)) (C.E.enc τ (xs.take lo)[i])[k] ((cs.take (lo*U.size τ)).getD (i*U.size τ+k) undef):=fun i hi k hk=>by
        have hil:i<lo:=by grind
        have hix:i<xs.length:=KI;have e:(xs.take lo)[i]=xs[i]:=List.getElem_take;have fJ:k<(C.E.enc τ xs[i]).length:=by grind
        have hks:k<U.size τ:=by rw[C.E.enc_len] at fJ;omega
        have hlt:i*U.size τ+k<lo*U.size τ:=by
         have:(i+1)*U.size τ<=lo*U.size τ:=QC _ hil;grind
        grind
       have hyk:∀i (hi:i<(I.take m).length) k (hk:k<(C.E.enc τ (I.take m)[i]).length),Rel C.E (w.setRow b J.toArray) (dJ ρ id g (.slice (some ⟨b,0,none⟩) xs.length G)) (aD N (dJ ρ id g (.slice (some ⟨b,0,none⟩) xs.length G)) (w.setRow b J.toArray)) (C.E.enc τ (I.take m)[i])[k] (f (i*U.size τ+k)):=fun i hi k hk=>by
        grind
       have hdk:∀i (hi:i<(xs.drop (lo+m)).length) k (hk:k<(C.E.enc τ (xs.drop (lo+m))[i]).length),Rel C.E (w.setRow b J.toArray) (dJ ρ id g (.slice (some ⟨b,0,none⟩) xs.length G)) (aD N (dJ ρ id g (.slice (some ⟨b,0,none⟩) xs.length G)) (w.setRow b J.toArray)) (C.E.enc τ (xs.drop (lo+m))[i])[k] (cs.getD ((lo+m)*U.size τ+(i*U.size τ+k)) undef):=fun i hi k hk=>by
        have hix:lo+m+i<xs.length:=by grind
        have e:(xs.drop (lo+m))[i]=xs[lo+m+i]:=List.getElem_drop;grind
       have hloL:(xs.take lo).length=lo:=by grind
       have hymL:(I.take m).length=m:=by grind
       have r1:=ml (E:=C.E) (cs:=cs.take (lo*U.size τ)) (by grind [List.length_take]) htk hyk;have r2:=ml (E:=C.E) (xs:=xs.take lo++I.take m) (f:=fun k=>cs.getD ((lo+m)*U.size τ+k) undef) (by
        grind [Nat.add_mul]) r1 hdk
       exact r2
   grind
  grind
 grind
def Co (C:Cfg U) (o:Oper) (f:Operand->aC U) (look:Nat->Option (aT U)):Out U:=
 match o.op with
 | .slice t x lo hi none=>match lo,hi with
  |some lo,some hi=>Ad C look t (f x) (some (f lo)) (some (f hi))
  |some lo,none=>Ad C look t (f x) (some (f lo)) none
  |none,some hi=>Ad C look t (f x) none (some (f hi))
  |none,none=>none
 | .indexAddr t x u=>Xw C look t (f x) (f u)
 | .store t p x=>kt C look t (f p) (f x)
 | .buildSlice t len j=>match o.dst with
  |some d=>C5 C look (C.off+d) t len (j.toList.map fun p=>(p.1,f p.2))
  |none=>none
 | .call c=>match c.callee,c.args.toList with
  | .builtin .append,[x,y]=>match o.dst with
   |some d=>match mm C look (C.off+d) c.argTypes.toList (f x) (f y) with
    |some r=>some r
    |none=>kv C look c.argTypes.toList (f x) (f y)
   |none=>none
  | .builtin .copy,[x,y]=>mv C look c.argTypes.toList (f x) (f y)
  |_,_=>none
 |_=>none
def zP (C:Cfg U) (o:Oper) (f:Operand->aC U) (look:Nat->Option (aT U)):Out U:=
 match Co C o f look with
 |some r=>some r
 |none=>match C.hook o (o.op.operands.toList.map f) with
  |some (j,r)=>some (j,r,none)
  |none=>none
def sZ (C:Cfg U) (o:Oper) (f:Operand->aC U) (look:Nat->Option (aT U)):Out U:=
 match aop C o f look with
 |some r=>some r
 |none=>zP C o f look
theorem aIV {C:Cfg U} (hs:fY C w0) (h:RR C.E n N w0 ρ s a w) {look:Nat->Option (aT U)} (f:∀id ob,look id=some ob->s.objs id=some ob) {o:Oper}
  (G:∀d,o.dst=some d->look (C.off+d)=none->s.objs (C.off+d)=none) (Z:∀d,o.dst=some d->d<n) {cs:List Prop} {r:aC U} {ob:Option (Nat×aT U)} (ho:sZ C o s.eval look=some (cs,r,ob)) (hc:dZ cs)
  {K:Act->World->Prop} {Q:Exit->Act->World->Prop} (hK:∀ρ' u w',RR C.E n N w0 ρ' ((s.putObj ob).put o.dst r) (a.put o.dst u) w'->K (a.put o.dst u) w'):o.wp C.P a w K Q:=by
 unfold sZ at ho;split at ho
 ·grind [aIU]
 ·rename_i pM;clear pM;unfold zP at ho;split at ho
  rotate_left
  ·split at ho
   ·rename_i cs1 r1 sO;simp only[QJ,QX] at ho;obtain⟨rfl,rfl,rfl⟩:=ho;obtain⟨u,hu,hwp⟩:=C.hookOK o _ _ _ sO hc a w (fun k v hk=>by
     simp only[KD,Option.map_eq_some_iff] at hk ⊢;obtain⟨x,hx,e⟩:=hk;refine⟨x,hx,?_⟩;have J:=h.eval x;rw[e] at J;generalize a.eval x=u at J;cases J;rfl) (fun k kd n hk=>by
     simp only[KD,Option.map_eq_some_iff] at hk ⊢;obtain⟨x,hx,e⟩:=hk;refine⟨x,hx,?_⟩;have J:=h.eval x;rw[e] at J;generalize a.eval x=u at J;cases J;rfl)
    exact hwp K Q (fun w' hb=>hK ρ u w' ((h.ext hb).put o.dst Z (hu w' ρ (aD N ρ w'))))
   grind
  rename_i r0 pL;cases ho;have ho:=pL;clear pL;obtain⟨dst,op,ty,pos,S,O⟩:=o;unfold Co at ho
  try simp only at ho
  try simp only at hK
  try simp only at Z
  try simp only at G
  have same:∀{u:Value},(execOp a.eval ⟨dst,op,ty,pos,S,O⟩).run C.P w=.ok (.value u) w->Rel C.E w ρ (aD N ρ w) r u->ob=none->Oper.wp C.P ⟨dst,op,ty,pos,S,O⟩ a w K Q:=fun hr hu hob=>by
   subst hob;exact jU hr (hK ρ _ w (h.put dst Z hu))
  cases op<;>(try simp only at ho)<;>(try (cases ho;done))
  case slice t x lo hi mx=>
   cases mx with
   |some _=>cases ho
   |none=>
    have fin:∀{lo' hi':Option Value} {q:Value},(Instr.sliceAt t (a.eval x) lo' hi' none).run C.P w=.ok q w->lo'=lo.map a.eval->hi'=hi.map a.eval->Rel C.E w ρ (aD N ρ w) r q->ob=none->Oper.wp C.P ⟨dst,.slice t x lo hi none,ty,pos,S,O⟩ a w K Q:=fun {lo' hi' q} j e1 e2 V hob=>by
     simp_all[execOp]
    cases lo with
    |some lo=>
     cases hi with
     |some hi=>
      obtain⟨rfl,q,j,V⟩:=N9 h f (h.eval x) (lo':=some (a.eval lo)) (hi':=some (a.eval hi)) (fun y e=>by cases e;exact⟨_,rfl,h.eval lo⟩) (fun e=>by cases e) (fun y e=>by cases e;exact⟨_,rfl,h.eval hi⟩) (fun e=>by cases e) ho hc;grind
     |none=>
      obtain⟨rfl,q,j,V⟩:=N9 h f (h.eval x) (lo':=some (a.eval lo)) (hi':=none) (fun y e=>by cases e;exact⟨_,rfl,h.eval lo⟩) (fun e=>by cases e) (fun y e=>by cases e) (fun _=>rfl) ho hc;grind
    |none=>
     cases hi with
     |some hi=>
      obtain⟨rfl,q,j,V⟩:=N9 h f (h.eval x) (lo':=none) (hi':=some (a.eval hi)) (fun y e=>by cases e) (fun _=>rfl) (fun y e=>by cases e;exact⟨_,rfl,h.eval hi⟩) (fun e=>by cases e) ho hc;grind
     |none=>cases ho
  case indexAddr t x ix=>
   obtain⟨rfl,q,j,V⟩:=aVN h f (h.eval x) (h.eval ix) ho hc;simp_all[execOp]
  case store t p x=>
   obtain⟨w',ρ',j,hR,rfl⟩:=aYb h f (h.eval p) (h.eval x) ho hc;refine L3 (w':=w') ?_ (hK ρ' _ w' (hR.put dst Z (.raw _)));simp[execOp,j]
  case buildSlice t len L=>
   split at ho
   ·rename_i d;obtain⟨q,w',ρ',j,hR,V⟩:=bA1 h f (G d rfl) (parts':=L.map fun (p:Nat×Operand)=>(p.1,a.eval p.2)) XQ (yK h L) ho;refine jU (u:=q) (w':=w') ?_ (hK ρ' _ w' (hR.put (some d) Z V));show ((do pure (Next.value (<- Instr.buildSlice t len (L.map fun (p:Nat×Operand)=>(p.1,a.eval p.2)))):Sem Next)).run C.P w=_;simp_all
   grind
  case call c=>
   obtain⟨callee,args,argTypes⟩:=c;simp only at ho;split at ho
   ·rename_i x y hargs;have I:args=#[x,y]:=by grind
    subst I;split at ho
    ·rename_i d;split at ho
     ·rename_i r1 fD;cases ho;obtain⟨q,w',ρ',j,hR,V⟩:=bBH (ty:=ty) h f (G d rfl) (h.eval x) (h.eval y) fD hc;refine jU (u:=q) (w':=w') ?_ (hK ρ' _ w' (hR.put (some d) Z V));simp_all[execOp,resolve,invoke,builtin]
     ·obtain⟨q,w',ρ',j,hR,V⟩:=aYd (ty:=ty) h f (h.eval x) (h.eval y) ho hc;refine jU (u:=q) (w':=w') ?_ (hK ρ' _ w' (hR.put (some d) Z V));simp_all[execOp,resolve,invoke,builtin]
    grind
   ·rename_i x y hargs;have I:args=#[x,y]:=by grind
    subst I;obtain⟨q,w',ρ',j,hR,V⟩:=bB8 (ty:=ty) h f (h.eval x) (h.eval y) ho;refine jU (u:=q) (w':=w') ?_ (hK ρ' _ w' (hR.put dst Z V));simp_all[execOp,resolve,invoke,builtin]
   grind
end
section
variable {U:eO} {n:Nat} {N:Nat->Prop} {w0:Fr} {w w':World} {ρ ρ':Own} {s s':ASt U} {a:Act}
def kx (C:Cfg U) (s:ASt U) (d I:Nat) (t:TypeId) (len:Nat):List (Nat×aC U)->Option (List Prop×ASt U)
 |[(0,.osl m u)]=>match lG C t,s.objs m,s.objs d with
  |some τ,some (.row j f G),none=>match U.unsl τ j G,zeroCells (U:=U) C.P (U.ety τ) with
   |some y,some z=>cond (Nat.beq len 1&&Nat.beq u f&&Nat.beq (U.size τ) 1&&Nat.beq z.length (U.size τ)) (some ([],((s.obj m (.row j (u+1) [])).obj d (.deep τ 0 0 [y])).set I (.osl d 0))) none
   |_,_=>none
  |_,_,_=>none
 |_=>none
def ky (C:Cfg U) (s:ASt U) (d I:Nat) (S:List TypeId) (x y:aC U):Option (List Prop×ASt U):=
 match S with
 |[t,t']=>cond (Nat.beq t t') (match lG C t,y with
  |some τ,.osl m u=>match C.P.info? (U.ety τ),s.objs m with
   |some i,some (.deep J G j O)=>match i.zero,oD τ J O with
    |some z,some f=>cond (Nat.beq z.cells.size (U.size τ)&&Nat.ble 1 i.bytes&&Nat.beq u G) (match x with
     | .nils=>match s.objs d with
      |none=>some ([f.length*i.bytes<=140737488355328],((s.obj m (.gone (u+1) (j+1) f.length)).obj d (.deep τ 0 0 f)).set I (.osl d 0))
      |some _=>none
     | .osl id g=>match s.objs id with
      |some (.deep L Z V xs)=>match oD τ L xs with
       |some us=>cond (Nat.beq g Z&&!Nat.beq id m) (some ([(us.length+f.length)*i.bytes<=140737488355328],((s.obj m (.gone (u+1) (j+1) f.length)).obj id (.deep τ (g+1) V (us++f))).set I (.osl id (g+1)))) none
       |none=>none
      |_=>none
     |_=>none) none
    |_,_=>none
   |_,_=>none
  |_,_=>none) none
 |_=>none
def Tg (C:Cfg U) (s:ASt U) (o:Oper):Option (List Prop×ASt U):=
 cond (!C.pur) (match o.op,o.dst with
  | .buildSlice t len f,some d=>cond C.deep (match kx C s (C.off+d) d t len (f.toList.map fun p=>(p.1,s.eval p.2)) with
   |some r=>some r
   |none=>ku C s (C.off+d) d t len (f.toList.map fun p=>(p.1,s.eval p.2))) none
  | .call c,some d=>match c.callee,c.args.toList with
   | .builtin .append,[x,y]=>ky C s (C.off+d) d c.argTypes.toList (s.eval x) (s.eval y)
   |_,_=>none
  | .slice t x none (some hi) none,some d=>cond C.deep (S6 C s d t (s.eval x) (s.eval hi)) none
  |_,_=>none) none
theorem T5 (s:ASt U) (m id d:Nat) (f:m≠id) (x y:aT U) (v:aC U):(∀q,q≠m->q≠id->(((s.obj m x).obj id y).set d v).objs q=s.objs q)/\(((s.obj m x).obj id y).set d v).objs m=some x/\(((s.obj m x).obj id y).set d v).objs id=some y:=by
 refine⟨fun q u j=>?_,?_,?_⟩
 ·show cond (Nat.beq q id) _ (cond (Nat.beq q m) _ _)=_;grind [fX]
 ·show cond (Nat.beq m id) _ (cond (Nat.beq m m) _ _)=_;grind [fX,Nat.beq_refl]
 ·show cond (Nat.beq id id) _ _=_;simp_all
theorem aYf {C:Cfg U} (h:RR C.E n N w0 ρ s a w) {d dt:Nat} (hd:dt<n) {argTypes:Array TypeId} {ty:TypeId} {x y:aC U} {u v:Value} (hx:Rel C.E w ρ (aD N ρ w) x u) (hy:Rel C.E w ρ (aD N ρ w) y v)
  {cs:List Prop} (ho:ky C s d dt argTypes.toList x y=some (cs,s')) (hc:dZ cs):
  ∃v' w' ρ',(Builtin.append_ argTypes ty #[u,v]).run C.P w=.ok v' w'/\RR C.E n N w0 ρ' s' (a.put (some dt) v') w':=by
 unfold ky at ho;split at ho
 ·rename_i t t' hat;have hbo:=cC ho;clear ho;obtain⟨hb,ho⟩:=hbo;obtain rfl:=QQ hb;have hargs:argTypes=#[t,t]:=by grind
  subst hargs;split at ho
  ·rename_i τ m gy hτ;split at ho
   ·rename_i i Z gy' J G hi hm;split at ho
    ·rename_i z zs hz hcz;have hbo:=cC ho;clear ho;obtain⟨dR,ho⟩:=hbo;simp only[QW] at dR;obtain⟨⟨hzs,hby⟩,hgy⟩:=dR;have hzs:=QQ hzs;have hby:=QR hby;obtain rfl:=QQ hgy;obtain⟨rfl,rfl⟩:=oV hcz;obtain⟨hu,i',hi',his⟩:=qY hτ;rw[hi] at hi';obtain rfl:=QU hi';obtain⟨uy,csy,y1,y2,y3,y4,y5,y6⟩:=h.objs _ _ hm;have hvy:uy=v:=by
      cases hy with
      |osl _ _ u' hr' hp'=>
       grind
      |oslOld _ _ L u' v hr' hg=>
       grind
     subst hvy
     -- the cells of y
     have hcy:Ri w G.length (U.size Z) (fun j=>csy.getD j undef) uy:=by
      rcases y3.2 with ⟨S,pM⟩|⟨gb,cap,cur,heq,hbase,hgb,hn,hcm,hcs,htake⟩
      ·exact .inl ⟨⟨_,S⟩,pM⟩
      ·refine .inr ⟨gb,0,cap,heq,hn,fun j hj=>?_⟩;have h6:csy[j]?=cur[j]?:=by
        grind
       have hlt:j<csy.length:=by grind
       refine⟨?_,?_⟩
       ·grind [cell_of_row]
       ·rw[y4,Nat.mul_one] at hj;obtain⟨t1,ws,v1,ds,r1,r2,r3,_⟩:=y6 j hj;show (csy.getD j undef).oneCell'=true;rw[r3];exact(h.own r2).1
     -- both sides in one
     have main:∀(id L gm:Nat) (xs:List (U.T Z)) (kN:List Value),m≠id->(∀ob,s.objs id=some ob->ob.simple=false)->w.ownsRow w0.heap.size (U.ety Z) (U.size Z) u xs.length kN->(∀a,u≠ .pointer a)->
       ((∃g,ρ (.ob id)=some (g,u)/\g<L)\/(ρ (.ob id)=none/\u=.slice none 0 0))->(∀j,xs.length<=j->ρ (.mem id j)=none)->
       (∀j (hj:j<xs.length),∃t1 ys v ds,C.E.enc Z xs[j]=[.sl t1 ys]/\ρ (.mem id j)=some (gm,v)/\kN.getD j undef=v/\(∀a,v≠ .pointer a)/\w.ownsRow w0.heap.size (U.ety t1) (U.size t1) v ys.length ds/\
        ∀i (h:i<ys.length) k (hk:k<(C.E.enc t1 ys[i]).length),Rel C.E w ρ (aD N ρ w) (C.E.enc t1 ys[i])[k] (ds.getD (i*U.size t1+k) undef))->
       (xs.length+G.length)*i.bytes<=140737488355328->
       ∃v' w' ρ',(Builtin.append_ #[t,t] ty #[u,uy]).run C.P w=.ok v' w'/\RR C.E n N w0 ρ' (((s.obj m (.gone (gy+1) (J+1) G.length)).obj id (.deep Z L gm (xs++G))).set dt (.osl id L)) (a.put (some dt) v') w':=by
      intro id L gm xs kN hmi hids hown hpu hob hno hmem hbytes;obtain⟨v',w',hrun,hown',V,hpv,hblk⟩:=J3 (P:=C.P) (ty:=ty) (base:=w0.heap.size) hu hi hz his hzs (C.E.pos Z) hby hown hpu hcy hbytes h.below.size;have hxm:∀j g1 O,ρ (.mem id j)=some (g1,O)->j<xs.length:=fun j g1 O I=>by
       grind
      have hym:∀j g1 O,ρ (.mem m j)=some (g1,O)->j<G.length/\g1=J/\∀a,O≠ .pointer a:=fun j g1 O I=>by
       have hj:j<G.length:=by
        grind
       grind
      let fm:Nat->Option (Nat×Value):=fun j=>if j<xs.length then ρ (.mem id j) else (ρ (.mem m (j-xs.length))).map fun p=>(gm,p.2)
      let ρ2:Own:=nX (nX ρ m (some (gy+1,.slice none 0 0)) (fun j=>if j<G.length then some (J+1,.slice none 0 0) else none)) id (some (L,v')) fm
      have eid:ρ2 (.ob id)=some (L,v'):=vK;have emem:∀j,ρ2 (.mem id j)=fm j:=fun j=>vL
      have em:ρ2 (.ob m)=some (gy+1,.slice none 0 0):=by
       grind [qZ,vK]
      have emm:∀j,ρ2 (.mem m j)=if j<G.length then some (J+1,.slice none 0 0) else none:=fun j=>by
       show nX _ id _ _ (.mem m j)=_;rw[qZ (show (Name.mem m j).id≠id from hmi)];exact vL
      have eout:∀nm:Name,nm.id≠m->nm.id≠id->ρ2 nm=ρ nm:=fun nm h1 h2=>by
       grind [qZ]
      let src:Name->Name:=fun nm=>match nm with
       | .ob q=>.ob q
       | .mem q j=>if q=id/\¬j<xs.length then .mem m (j-xs.length) else .mem q j
      have c:Chg N (fun q=>q=m\/q=id) w0.heap.size ρ ρ2 w w':=by
       refine L7 h hmi eout (fun nm g O hd I=>?_) ((Below.refl _ _).grown V h.below.size (fun k hk=>?_)) (fun b hb hne=>V.block b hb (fun e=>?_)) src (fun nm g O b hd I hb=>?_) (fun nm nm' g1 g2 O u2 b1 b2 hd hd' I hr' cJ dR he=>?_)
       ·cases nm with
        |ob q=>
         rcases hd with f|f
         ·obtain rfl:q=m:=f;grind
         ·obtain rfl:q=id:=f;grind
        |mem q j=>
         rcases hd with f|f
         ·obtain rfl:q=m:=f;grind
         ·obtain rfl:q=id:=f;grind
       ·rcases hob with ⟨g0,S,_⟩|⟨_,S⟩
        ·exact((h.own S).2 k (by grind [lQ])).1
        ·rw[S] at hk;cases hk
       ·rcases hob with ⟨g0,S,_⟩|⟨_,S⟩
        ·grind [lQ]
        ·rw[S] at e;cases e
       ·cases nm with
        |ob q=>
         rcases hd with f|f
         ·obtain rfl:q=m:=f;rw[em] at I;cases I;cases hb
         ·obtain rfl:q=id:=f;rw[eid] at I;cases I;refine⟨.inr rfl,?_⟩;rcases hblk b hb with hb'|hb'
          ·rcases hob with ⟨g0,S,_⟩|⟨_,S⟩
           ·grind
           ·rw[S] at hb';cases hb'
          grind
        |mem q j=>
         rcases hd with f|f
         ·obtain rfl:q=m:=f;rw[emm] at I;split at I
          ·cases I;cases hb
          grind
         ·obtain rfl:q=id:=f;rw[emem] at I
          by_cases hj:j<xs.length
          ·have e1:fm j=ρ (.mem q j):=JQ hj;rw[e1] at I;have e2:src (.mem q j)=.mem q j:=QF (fun e=>e.2 hj);rw[e2];exact⟨.inr rfl,.inl ⟨g,O,I,hb⟩⟩
          grind
       ·have noM:∀nm:Name,∀g u b,nm.id=m->ρ2 nm=some (g,u)->blk u=some b->False:=fun nm g u b f I hb=>by
         cases nm with
         |ob q=>
          obtain rfl:q=m:=f;rw[em] at I;cases I;cases hb
         |mem q j=>
          obtain rfl:q=m:=f;rw[emm] at I;split at I
          ·cases I;cases hb
          grind
        have q1:nm.id=id:=by
         grind
        have q2:nm'.id=id:=by
         grind
        cases nm with
        |ob p=>
         grind
        |mem p j=>
         obtain rfl:p=id:=q1;cases nm' with
         |ob p'=>
          grind
         |mem p' j'=>
          obtain rfl:p'=p:=q2;have he':(if p'=p'/\¬j<xs.length then Name.mem m (j-xs.length) else .mem p' j)=(if p'=p'/\¬j'<xs.length then Name.mem m (j'-xs.length) else .mem p' j'):=he
          by_cases a1:j<xs.length
          ·grind
          ·rw[JQ ⟨rfl,a1⟩] at he'
           by_cases a2:j'<xs.length
           ·grind
           ·rw[JQ ⟨rfl,a2⟩] at he';have:=(Name.mem.inj he').2;rw[show j=j' by omega]
      obtain⟨o1,o2,o3⟩:=T5 s m id dt hmi (.gone (gy+1) (J+1) G.length) (.deep Z L gm (xs++G)) (.osl id L);have keepR:∀{nm:Name} {g1:Nat} {O:Value} {e:TypeId} {p k:Nat} {ds:List Value},nm≠ .ob id->ρ nm=some (g1,O)->w.ownsRow w0.heap.size e p O k ds->w'.ownsRow w0.heap.size e p O k ds:=fun hne fD hw=>by
       refine⟨hw.1,?_⟩;rcases hw.2 with hn'|⟨gb,cap,cur,rfl,hb,hg,rest⟩
       ·grind
       ·refine .inr ⟨gb,cap,cur,rfl,hb,?_,rest⟩;rw[V.block gb (QD.1 hg).1 (fun e=>?_)]
        ·exact hg
        ·rcases hob with ⟨g0,S,_⟩|⟨_,S⟩
         ·exact h.sep _ _ _ _ _ _ gb fD S hne rfl (by grind [lQ])
         ·rw[S] at e;cases e
      have hnew:gF C.E w' ρ2 (aD N ρ2 w') w0.heap.size id (.deep Z L gm (xs++G)):=by
       refine⟨v',kN++(List.range (G.length*U.size Z)).map fun j=>csy.getD j undef,eid,hpv,by grind,y4,fun j hj=>?_,fun j hj=>?_⟩
       ·grind
       ·rw[QM] at hj;have hcl:kN.length=xs.length:=by rw[hown.1,y4,Nat.mul_one]
        by_cases hjx:j<xs.length
        ·obtain⟨t1,ws,v1,ds,r1,r2,r3,r4,r5,r6⟩:=hmem j hjx;refine⟨t1,ws,v1,ds,by grind,?_,?_,r4,keepR (fun e=>by cases e) r2 r5,fun i hi k hk=>c.rel (r6 i hi k hk)⟩
         ·grind
         grind
        ·obtain⟨t1,ws,v1,ds,r1,r2,r3,r4,r5,r6⟩:=y6 (j-xs.length) KI;refine⟨t1,ws,v1,ds,by grind,?_,?_,r4,keepR (fun e=>by cases e) r2 r5,fun i hi k hk=>c.rel (r6 i hi k hk)⟩
         ·grind
         grind
      have hR:=h.change (s':=(s.obj m (.gone (gy+1) (J+1) G.length)).obj id (.deep Z L gm (xs++G))) c rfl (fun q f=>o1 q (fun e=>f (.inl e)) (fun e=>f (.inr e))) (fun nm g1 O hd I=>?_) (fun q ob f ho=>?_) (fun q ob f _=>by
       rcases f with e|e
       ·exact⟨_,(congrArg _ e).trans o2⟩
       ·exact⟨_,(congrArg _ e).trans o3⟩)
      ·exact⟨v',w',ρ2,hrun,hR.put (some dt) (fun _ e=>by grind) (.osl id L v' eid hpv)⟩
      ·rcases hd with f|f
       ·exact⟨_,by rw[f];exact o2,fun e=>by cases e⟩
       ·exact⟨_,by rw[f];exact o3,fun e=>by cases e⟩
      ·rcases f with rfl|rfl
       ·have ho':=ho;rw[show ((s.obj q (.gone (gy+1) (J+1) G.length)).obj id (.deep Z L gm (xs++G))).objs q=some (.gone (gy+1) (J+1) G.length) from o2] at ho';cases ho';exact⟨em,fun j hj=>by grind,fun j hj=>by grind⟩
       ·have ho':=ho;rw[show ((s.obj m (.gone (gy+1) (J+1) G.length)).obj q (.deep Z L gm (xs++G))).objs q=some (.deep Z L gm (xs++G)) from o3] at ho';grind
     split at ho
     ·split at ho
      ·rename_i hfree;cases ho;cases hx;have hnone:=h.tK hfree;have hmd:m≠d:=fun e=>by
        grind
       have hbytes:G.length*i.bytes<=140737488355328:=hc;have:=main d 0 0 [] [] hmd (fun ob ho=>by grind) (JV _ _ _ _) (fun a e=>by cases e) (.inr ⟨by
        cases f:ρ (.ob d) with
        |none=>rfl
        |some p=>grind,rfl⟩) (fun j _=>h.vU (fun ob ho=>by grind) j) (fun j hj=>absurd hj XQ) (by grind)
       grind
      grind
     ·rename_i id g;split at ho
      ·rename_i τx L gm Rk hid;split at ho
       ·rename_i us hus;obtain⟨gV,ho⟩:=cC ho;cases ho;simp only[QW,KH] at gV;obtain rfl:=QQ gV.1;have hne:m≠id:=fun e=>by
         grind [Nat.beq_refl]
        obtain⟨rfl,rfl⟩:=oV hus;obtain⟨ux,csx,x1,x2,x3,x4,x5,x6⟩:=h.objs _ _ hid;have hvx:ux=u:=by
         cases hx with
         |osl _ _ u' hr' hp'=>
          grind
         |oslOld _ _ L u' v hr' hg=>
          grind
        subst hvx;exact main id (g+1) gm Rk csx hne (fun ob ho=>by rw[hid] at ho;cases ho;rfl) x3 x2 (.inl ⟨g,x1,KI⟩) x5 x6 hc
       grind
      grind
     grind
    grind
   grind
  grind
 grind
theorem aYe {C:Cfg U} (h:RR C.E n N w0 ρ s a w) {d dt:Nat} (hd:dt<n) {t:TypeId} {len:Nat}
  {G:List (Nat×aC U)} {parts':Array (Nat×Value)} (hpl:G.length=parts'.size)
  (hp:∀k (h:k<G.length) (h':k<parts'.toList.length),G[k].1=parts'.toList[k].1/\Rel C.E w ρ (aD N ρ w) G[k].2 parts'.toList[k].2)
  {cs:List Prop} (ho:kx C s d dt t len G=some (cs,s')):
  ∃v' w' ρ',(Instr.buildSlice t len parts').run C.P w=.ok v' w'/\RR C.E n N w0 ρ' s' (a.put (some dt) v') w':=by
 unfold kx at ho;split at ho
 ·rename_i m Z;split at ho
  ·rename_i τ t1 gm' ys hτ hm hfree;split at ho
   ·rename_i y z hy hz;obtain⟨hb,ho⟩:=cC ho;cases ho;simp only[QW] at hb;obtain⟨⟨⟨cJ,dR⟩,gV⟩,wM⟩:=hb;obtain rfl:=QQ cJ;obtain rfl:=QQ dR;have S:=QQ gV;have hzl:=QQ wM;obtain⟨hu,i,hi,his⟩:=qY hτ;obtain⟨zv,hzr,hzsz,hzrel⟩:=xB (E:=C.E) (w:=w) (ρ:=ρ) hz;have hps:parts'.toList.length=1:=by grind
    obtain⟨q1,q2⟩:=hp 0 XQ KI;simp only[JZ] at q1 q2;obtain⟨⟨i0,v⟩,hpe⟩:∃x,parts'.toList=[x]:=List.length_eq_one_iff.1 hps;simp only[hpe,JZ] at q1 q2;subst q1;have hpe':parts'=#[(0,v)]:=by grind
    subst hpe';obtain⟨I,csm,m1,mp,m2,m4⟩:=h.objs _ _ hm;have hum:I=v:=by
     cases q2 with
     |osl _ _ u' hr' hp'=>
      grind
     |oslOld _ _ g' u' v hr' hg=>
      grind
    subst hum;have hone:I.oneCell'=true:=(h.own m1).1;have hcu:I.cells=#[I]:=cells_one hone;have hrow:((Array.range (1*1)).map (fun k=>zv.cells[k % zv.cells.size]!)).size=1:=XQ;have hfill:Instr.fill (fun i=>some (i*1,1)) ((Array.range (1*1)).map (fun k=>zv.cells[k % zv.cells.size]!)) [(0,I)]=some #[I]:=by
     generalize (Array.range (1*1)).map (fun k=>zv.cells[k % zv.cells.size]!)=base at hrow;obtain⟨b0,rfl⟩:∃b0,base=#[b0]:=by
      obtain⟨l⟩:=base;grind [List.length_eq_one_iff]
     simp[Instr.fill,hcu]
    have hmd:m≠d:=fun e=>by
     grind
    have hnone:=h.tK hfree;have hmemd:=h.vU (id:=d) (fun ob ho=>by grind);have hmemm:=h.vU (id:=m) (fun ob ho=>by rw[hm] at ho;cases ho;rfl)
    let w2:=w.alloc (.cells #[I] (U.ety τ))
    let vn:Value:=.slice (some ⟨w.heap.size,0,none⟩) 1 1
    have hvn:∀a,vn≠ .pointer a:=fun a e=>by
     grind
    let V:Own:=nX (nX ρ m (some (Z+1,.slice none 0 0)) (fun _=>none)) d (some (0,vn)) (fun j=>if j=0 then some (0,I) else none)
    have ed:V (.ob d)=some (0,vn):=vK;have edm:∀j,V (.mem d j)=if j=0 then some (0,I) else none:=fun j=>vL
    have em:V (.ob m)=some (Z+1,.slice none 0 0):=by
     grind [qZ,vK]
    have emm:∀j,V (.mem m j)=none:=fun j=>by
     show nX _ d _ _ (.mem m j)=_;rw[qZ (show (Name.mem m j).id≠d from hmd)];exact vL
    have eout:∀nm:Name,nm.id≠m->nm.id≠d->V nm=ρ nm:=fun nm h1 h2=>by
     grind [qZ]
    have hdn:∀(nm:Name) g u,nm.id=d->ρ nm=some (g,u)->False:=fun nm g u f O=>by
     cases nm with
     |ob q=>
      obtain rfl:q=d:=f;grind
     |mem q j=>
      obtain rfl:q=d:=f;grind
    have J:Below w.heap.size w w2:=(Below.refl _ _).alloc (QP _) _
    -- what a name has now
    have L:∀(nm:Name) g u b,(nm.id=m\/nm.id=d)->V nm=some (g,u)->blk u=some b->(nm=.ob d/\b=w.heap.size)\/(nm=.mem d 0/\u=I):=fun nm g u b f O hb=>by
     cases nm with
     |ob q=>
      rcases f with f|f
      ·obtain rfl:q=m:=f;rw[em] at O;cases O;cases hb
      ·obtain rfl:q=d:=f;grind [blk]
     |mem q j=>
      rcases f with f|f
      ·obtain rfl:q=m:=f;grind
      ·obtain rfl:q=d:=f;grind
    have c:Chg N (fun q=>q=m\/q=d) w0.heap.size ρ V w w2:=by
     refine L7 h hmd eout (fun nm g u f O=>?_) (J.mono h.below.size) (fun b hb _=>J.block b hb) (fun nm=>match nm with | .ob q=>.ob q | .mem _ _=>.ob m) (fun nm g u b f O hb=>?_) (fun nm nm' g g1 u u1 b b1 f hq' O hr' hb cJ he=>?_)
     ·rcases f with f|f
      ·cases nm with
       |ob q=>
        obtain rfl:q=m:=f;grind
       |mem q j=>
        obtain rfl:q=m:=f;grind
      grind
     ·rcases L nm g u b f O hb with ⟨rfl,rfl⟩|⟨rfl,rfl⟩
      ·grind
      grind
     ·rcases L nm g u b f O hb with ⟨rfl,rfl⟩|⟨rfl,rfl⟩
      ·grind
      grind
    obtain⟨o1,o2,o3⟩:=T5 s m d dt hmd (.row t1 (Z+1) []) (.deep τ 0 0 [y]) (.osl d 0);have hR:=h.change (s':=(s.obj m (.row t1 (Z+1) [])).obj d (.deep τ 0 0 [y])) c rfl (fun q f=>o1 q (fun e=>f (.inl e)) (fun e=>f (.inr e))) (fun nm g u f O=>?_) (fun q ob f ho=>?_) (fun q ob f _=>by
       rcases f with e|e
       ·exact⟨_,(congrArg _ e).trans o2⟩
       grind)
    ·refine⟨vn,w2,V,?_,hR.put (some dt) (fun _ e=>by grind) (.osl d 0 vn ed hvn)⟩;have lV:¬1*i.size > 2^24:=KI;have h0:¬1*i.size=0:=KI;rw[his,S] at lV h0;simp only[Instr.buildSlice,QE,QV hu,QL,sizeOf,typeInfo,run_program,hi,JO,his,S,QF lV,QF h0,hzr,hfill,newRow,run_newObj];rfl
    ·rcases f with f|f
     ·refine⟨_,by rw[f];exact o2,fun _=>?_⟩;cases nm with
      |ob q=>grind
      |mem q j=>
       obtain rfl:q=m:=f;grind
     ·exact⟨_,by rw[f];exact o3,fun e=>by cases e⟩
    ·rcases f with rfl|rfl
     ·rw[show ((s.obj q (.row t1 (Z+1) [])).obj d (.deep τ 0 0 [y])).objs q=some (.row t1 (Z+1) []) from o2] at ho;cases ho;exact⟨.slice none 0 0,[],em,(fun a e=>by cases e),JV _ _ _ _,fun i hi=>absurd hi XQ⟩
     ·rw[show ((s.obj m (.row t1 (Z+1) [])).obj q (.deep τ 0 0 [y])).objs q=some (.deep τ 0 0 [y]) from o3] at ho;cases ho;refine⟨vn,[I],ed,hvn,⟨by grind,.inr ⟨w.heap.size,1,#[I],rfl,h.below.size,heap_alloc_new w _,XQ,by unfold maxLen;omega,by grind,by simp[S]⟩⟩,S,fun j hj=>?_,fun j hj=>?_⟩
      ·grind
      ·have pO:j=0:=by grind
       subst pO;refine⟨t1,ys,I,csm,C.E.unsl_ok _ _ _ _ hy,by grind,rfl,mp,⟨m2.1,?_⟩,fun i hi k hk=>c.rel (m4 i hi k hk)⟩;rcases m2.2 with hn'|⟨gb,cap,cur,rfl,hb,hg,rest⟩
       ·grind
       ·exact .inr ⟨gb,cap,cur,rfl,hb,by rw[J.block gb (QD.1 hg).1];exact hg,rest⟩
   grind
  grind
 grind
end
end Go.Vm
