/- Lemmas, walks and laws of this proof, part 2. Conditions: those that each names. -/
import Derived.Test.YtjjbojomlfgjlaaGreatDoorMK1
import Derived.ChangeKeysEq
namespace Go.Vm
open Go.RowKit
set_option linter.unusedVariables false
section
variable {U:eW} {n:Nat} {N:Nat->Prop} {w0:Fr} {w w':World} {ρ ρ':Own} {s:ASt U} {a:Act}
theorem lP {P:Program} {o:Oper} {K:Act->World->Prop} {Q:Exit->Act->World->Prop} {u:Value} (f:(execOp a.eval o).run P w=.ok (.value u) w') (r:K (a.put o.dst u) w'):o.wp P a w K Q:=by
 unfold Oper.wp;rw[f];exact r
theorem aPz {P:Program} {o:Oper} {K:Act->World->Prop} {Q:Exit->Act->World->Prop} (f:(execOp a.eval o).run P w=.ok .skip w') (r:K (a.put o.dst undef) w'):o.wp P a w K Q:=by
 unfold Oper.wp;rw[f];exact r
theorem aGJ {P:Program} {o:Oper} {K:Act->World->Prop} {Q:Exit->Act->World->Prop} {f:FuncId} {args:Array Value} (r:(execOp a.eval o).run P w=.ok (.enter f args) w)
  (u:Calls P f args w fun e w'=>∃v,e=.returned v/\K (a.put o.dst v) w'):o.wp P a w K Q:=by
 unfold Oper.wp;rw[r];exact u.mono fun e w' ⟨v,he,hv⟩=>by subst he;exact hv
theorem bWP {P:Program} {op:BinOp} {t:TypeId} {x y:aC U} {u v:Value} {X Y:Operand} {E:Enc U} {st:Nat->Prop} (hx:Rel E w ρ st x u) (hy:Rel E w ρ st y v)
  {cs:List Prop} {r:aC U} (ho:aPn op x y=some (cs,r)) (G:eQ cs):
  ∃q,(do eqGuard op t X Y u v;binOp op t u v:Sem Value).run P w=.ok q w/\Rel E w ρ st r q:=by
 unfold aPn at ho;split at ho
 ·rename_i k a I b;cases hx;cases hy;have L:(eqGuard op t X Y (.int k a) (.int I b)).run P w=.ok () w:=by
   unfold eqGuard;split<;>rfl
  have hb:∀q,(binOp op t (.int k a) (.int I b)).run P w=.ok q w->(do eqGuard op t X Y (.int k a) (.int I b);binOp op t (.int k a) (.int I b):Sem Value).run P w=.ok q w:=fun q J=>by
   simp only[QM,L,QP,J]
  cases op
  case shl=>
   simp only[QQ,QK] at ho;obtain⟨rfl,rfl⟩:=ho;have f:¬b<0:=by
    have:0<=b:=G;omega
   exact⟨_,hb _ (by simp[binOp,Op.shift,f]),.int _ _⟩
  case shr=>
   simp only[QQ,QK] at ho;obtain⟨rfl,rfl⟩:=ho;have f:¬b<0:=by
    have:0<=b:=G;omega
   exact⟨_,hb _ (by simp[binOp,Op.shift,f]),.int _ _⟩
  all_goals
   simp only at ho;split at ho
   rotate_left
   ·cases ho
   rename_i O;subst O;simp only[QQ,QK,reduceCtorEq] at ho
  all_goals obtain⟨rfl,rfl⟩:=ho
  case add.isTrue=>exact⟨_,hb _ (by simp[binOp,Op.intArith]),.int _ _⟩
  case sub.isTrue=>exact⟨_,hb _ (by simp[binOp,Op.intArith]),.int _ _⟩
  case mul.isTrue=>exact⟨_,hb _ (by simp[binOp,Op.intArith]),.int _ _⟩
  case quo.isTrue=>
   have f:b≠0:=G;exact⟨_,hb _ (by simp[binOp,Op.intDiv,f]),.int _ _⟩
  case rem.isTrue=>
   have f:b≠0:=G;exact⟨_,hb _ (by simp[binOp,Op.intDiv,f]),.int _ _⟩
  case and.isTrue=>exact⟨_,hb _ (by simp[binOp,Op.intBits,bCK]),.int _ _⟩
  case eql.isTrue=>exact⟨_,hb _ (by simp[binOp,Op.intCmp]),.bool _⟩
  case neq.isTrue=>exact⟨_,hb _ (by simp[binOp,Op.intCmp]),.bool _⟩
  case lss.isTrue=>exact⟨_,hb _ (by simp[binOp,Op.intCmp]),.bool _⟩
  case leq.isTrue=>exact⟨_,hb _ (by simp[binOp,Op.intCmp]),.bool _⟩
  case gtr.isTrue=>exact⟨_,hb _ (by simp[binOp,Op.intCmp]),.bool _⟩
  case geq.isTrue=>exact⟨_,hb _ (by simp[binOp,Op.intCmp]),.bool _⟩
 ·rename_i a b;cases hx;cases hy;have L:(eqGuard op t X Y (.string a) (.string b)).run P w=.ok () w:=by
   unfold eqGuard;split<;>rfl
  have hb:∀q,(binOp op t (.string a) (.string b)).run P w=.ok q w->(do eqGuard op t X Y (.string a) (.string b);binOp op t (.string a) (.string b):Sem Value).run P w=.ok q w:=fun q J=>by
   simp only[QM,L,QP,J]
  cases op<;>simp only[QQ,QK,reduceCtorEq] at ho<;>obtain⟨rfl,rfl⟩:=ho
  case add=>
   have f:(a.size:Int)+b.size<=9223372036854775807:=G;exact⟨_,hb _ (by simp[binOp,Op.stringOp,f]),.str _⟩
  case eql=>exact⟨_,hb _ (by simp[binOp,Op.stringOp,beq_toListBytes]),.bool _⟩
  case neq=>exact⟨_,hb _ (by simp[binOp,Op.stringOp,bne,beq_toListBytes]),.bool _⟩
 ·cases ho
theorem bWK {C:Cfg U} {E:Enc U} {st:Nat->Prop} {d:Nat} {Z:TypeId->aC U->aC U->Option Bool}
  (V:∀t x y u v b,Z t x y=some b->Rel E w ρ st x u->Rel E w ρ st y v->(Op.equalIn d t u v).run C.P w=.ok b w) {xs ys:List (aC U)} {us G:Array Value}
  (hu:us.size=xs.length) (L:∀k (h:k<xs.length),Rel E w ρ st xs[k] (us.getD k undef)) (hv:G.size=ys.length) (J:∀k (h:k<ys.length),Rel E w ρ st ys[k] (G.getD k undef)):
  ∀(r:List Field) (b:Bool),r.all (fun f=>f.name != "_")=true->aGA C.P Z xs ys r=some b->(Op.eqFields d us G r).run C.P w=.ok b w:=by
 intro r
 induction r with
 |nil=>
  intro b _ h;simp only[aGA,QQ] at h;subst h;rfl
 |cons f r ih=>
  intro b I h;simp only[List.all_cons,QU,bne_iff_ne,ne_eq] at I;simp only[aGA] at h;split at h
  ·rename_i a c ha hc;split at h
   ·rename_i p q hp hq;obtain rfl:=QW h;obtain⟨u,S,O⟩:=aCV (P:=C.P) ha hu L;obtain⟨v,mP,lM⟩:=aCV (P:=C.P) hc hv J;have he:=V _ _ _ _ _ _ hp O lM;have hr:=ih q I.2 hq;simp only[Op.eqFields,ne_eq,I.1,not_false_eq_true,if_true,QM,S,mP,he,QP];cases p
    ·simp
    ·simpa using hr
   ·cases h
  ·cases h
theorem bWJ {C:Cfg U} {E:Enc U} {st:Nat->Prop} {d:Nat} {S:TypeId->aC U->aC U->Option Bool}
  (O:∀t x y u v b,S t x y=some b->Rel E w ρ st x u->Rel E w ρ st y v->(Op.equalIn d t u v).run C.P w=.ok b w) {xs ys:List (aC U)} {us r:Array Value}
  (hu:us.size=xs.length) (I:∀k (h:k<xs.length),Rel E w ρ st xs[k] (us.getD k undef)) (hv:r.size=ys.length) (G:∀k (h:k<ys.length),Rel E w ρ st ys[k] (r.getD k undef)) {e n:Nat}:
  ∀(f:List Nat) (b:Bool),aFz C.P S e n xs ys f=some b->(Op.eqItems d e n us r f).run C.P w=.ok b w:=by
 intro f
 induction f with
 |nil=>
  intro b h;simp only[aFz,QQ] at h;subst h;rfl
 |cons i f ih=>
  intro b h;simp only[aFz] at h;split at h
  ·rename_i a c ha hc;split at h
   ·rename_i p q hp hq;obtain rfl:=QW h;obtain⟨u,L,J⟩:=aCV (P:=C.P) ha hu I;obtain⟨v,V,Z⟩:=aCV (P:=C.P) hc hv G;have he:=O _ _ _ _ _ _ hp J Z;have hr:=ih q hq;simp only[Op.eqItems,QM,L,V,he,QP];cases p
    ·simp
    ·simpa using hr
   ·cases h
  ·cases h
theorem bC2 {C:Cfg U} {E:Enc U} {st:Nat->Prop} (d:Nat):∀(m:Nat) (t:TypeId) (x y:aC U) (u v:Value) (b:Bool),aeq C m t x y=some b->Rel E w ρ st x u->Rel E w ρ st y v->(Op.equalIn (m+d) t u v).run C.P w=.ok b w:=by
 intro m
 induction m with
 |zero=>intro t x y u v b h;cases h
 |succ m V=>
  intro t x y u v b h hx hy;rw[Nat.succ_add];simp only[aeq] at h;split at h
  ·cases hx;cases hy;split at h
   ·rename_i f;obtain rfl:=QW h;exact run_equalIn_bool w _ t _ _ f
   ·cases h
  ·cases hx;cases hy;split at h
   ·rename_i f;split at h
    ·rename_i hk;subst hk;obtain rfl:=QW h;exact run_equalIn_int w _ t _ _ _ _ f
    ·cases h
   ·cases h
  ·cases hx;cases hy;split at h
   ·rename_i f;obtain rfl:=QW h;rw[run_equalIn_string w _ t _ _ f,beq_toListBytes]
   ·cases h
  ·cases hx with
   |agg _ us O J=>
    cases hy with
    |agg _ S L I=>
     split at h
     ·rename_i r f;have Z:C.P.fieldsOf t=r:=by simp[Program.fieldsOf,f]
      cases G:C.plain t with
      |false=>rw[G] at h;cases h
      |true=>
       rw[G] at h;obtain⟨h1,h2,h3⟩:=C.plainOK t G;rw[run_equalIn_struct w _ t us S (by rw[Z];exact f) h1];rw[Z] at h3 ⊢;exact bWK (fun t x y u v b=>V t x y u v b) O J L I _ _ h3 h
     ·rename_i len e f;split at h
      ·rename_i n hn;obtain⟨i,hi,rfl⟩:=pR hn;rw[run_equalIn_array w _ us S f hi];have hc:C.P.cellsOf e=i.size:=by simp[Program.cellsOf,hi]
       rw[hc];exact bWJ (fun t x y u v b=>V t x y u v b) O J L I _ _ h
      ·cases h
     ·cases h
  ·cases h
theorem bWQ {C:Cfg U} {op:BinOp} {t:TypeId} {x y:aC U} {u v:Value} {X Y:Operand} {E:Enc U} {st:Nat->Prop} (hx:Rel E w ρ st x u) (hy:Rel E w ρ st y v)
  {cs:List Prop} {r:aC U} (ho:aPm C op t x y=some (cs,r)) (L:eQ cs):
  ∃q,(do eqGuard op t X Y u v;binOp op t u v:Sem Value).run C.P w=.ok q w/\Rel E w ρ st r q:=by
 unfold aPm at ho;split at ho
 ·rename_i xs ys;cases G:C.plain t with
  |false=>rw[G] at ho;cases ho
  |true=>
   rw[G] at ho;obtain⟨h1,O,h3⟩:=C.plainOK t G;have f:∀b,aeq C 40 t (.agg xs) (.agg ys)=some b->(Op.equalIn 10000 t u v).run C.P w=.ok b w:=fun b hb=>bC2 9960 40 _ _ _ _ _ _ hb hx hy
   cases hx;cases hy;rename_i us hus V J Z S;have I:(eqGuard op t X Y (.agg us) (.agg J)).run C.P w=.ok () w:=run_eqGuard_agg w op t X Y us J O;simp only[QX] at ho;split at ho
   ·rename_i b hb;simp only[QQ,QK] at ho;obtain⟨rfl,rfl⟩:=ho;refine⟨.bool b,?_,.bool _⟩;simp only[QM,I,QP,run_eql_struct,f _ hb]
   ·rename_i b hb;simp only[QQ,QK] at ho;obtain⟨rfl,rfl⟩:=ho;refine⟨.bool !b,?_,.bool _⟩;simp only[QM,I,QP,run_neq_struct,f _ hb]
   ·cases ho
 ·rename_i a b;have f:∀q,aeq C 1 t (.bool a) (.bool b)=some q->(Op.equalIn 10000 t u v).run C.P w=.ok q w:=fun q hb=>bC2 9999 1 _ _ _ _ _ _ hb hx hy
  cases hx;cases hy;have I:(eqGuard op t X Y (.bool a) (.bool b)).run C.P w=.ok () w:=by
   unfold eqGuard;split<;>rfl
  split at ho
  ·rename_i q hb;simp only[QQ,QK] at ho;obtain⟨rfl,rfl⟩:=ho;refine⟨.bool q,?_,.bool _⟩;simp only[QM,I,QP,binOp,Op.equal,Op.maxDepth,f _ hb];rfl
  ·rename_i q hb;simp only[QQ,QK] at ho;obtain⟨rfl,rfl⟩:=ho;refine⟨.bool !q,?_,.bool _⟩;simp only[QM,I,QP,binOp,Op.equal,Op.maxDepth,f _ hb];rfl
  ·cases ho
 ·exact bWP hx hy ho L
theorem bWH {P:Program} {op:BinOp} {t:TypeId} {x r:aC U} {y:Operand} {a:Act} {u:Value} {X:Operand} {E:Enc U} {st:Nat->Prop} (hx:Rel E w ρ st x u) (ho:aPi P op t x y=some r):
  ∃q,(do eqGuard op t X y u (a.eval y);binOp op t u (a.eval y):Sem Value).run P w=.ok q w/\Rel E w ρ st r q:=by
 unfold aPi at ho;split at ho
 ·rename_i b hb;have f:(u=.nilIface/\b=true)\/∃p q,u=.iface p q/\b=false:=by
   unfold aXz at hb;split at hb
   ·cases hb;cases hx with
    |ifc0=>exact .inl ⟨rfl,rfl⟩
    |ifc1 p q=>exact .inr ⟨p,q,rfl,rfl⟩
   ·cases hb;cases hx;exact .inl ⟨rfl,rfl⟩
   ·cases hb;cases hx;exact .inr ⟨_,_,rfl,rfl⟩
   ·cases hb
  split at ho
  ·rename_i S G;have e1:∀d:Nat,∀v:Value,(v=.nilIface->b=true)->(v≠ .nilIface->b=false/\∃p q,v=.iface p q)->(Op.equalIn (d+1) t v .nilIface).run P w=.ok b w:=fun d v O L=>by
    by_cases hv:v=.nilIface
    ·subst hv;simp[Op.equalIn,QR G,O rfl]
    ·obtain⟨hb,p,q,rfl⟩:=L hv;simp[Op.equalIn,QR G,hb]
   have J:(Op.equalIn 10000 t u .nilIface).run P w=.ok b w:=by
    rcases f with ⟨rfl,rfl⟩|⟨p,q,rfl,rfl⟩
    ·exact e1 9999 _ (fun _=>rfl) (fun h=>absurd rfl h)
    ·exact e1 9999 _ (fun h=>by cases h) (fun _=>⟨rfl,_,_,rfl⟩)
   have I:(eqGuard op t X (.const .nilIface) u .nilIface).run P w=.ok () w:=by
    rcases f with ⟨rfl,rfl⟩|⟨p,q,rfl,rfl⟩
    ·unfold eqGuard;cases op<;>first|rfl| (simp only[];cases X<;>rfl)
    ·unfold eqGuard;cases op<;>rfl
   split at ho
   ·obtain rfl:=QW ho;refine⟨.bool b,?_,.bool _⟩;show (do eqGuard .eql t X (.const .nilIface) u .nilIface;binOp .eql t u .nilIface:Sem Value).run P w=_;rw[QM,I,QP];rcases f with ⟨rfl,rfl⟩|⟨p,q,rfl,rfl⟩<;>simp[binOp,Op.equal,Op.maxDepth,J]
   ·obtain rfl:=QW ho;refine⟨.bool !b,?_,.bool _⟩;show (do eqGuard .neq t X (.const .nilIface) u .nilIface;binOp .neq t u .nilIface:Sem Value).run P w=_;rw[QM,I,QP];rcases f with ⟨rfl,rfl⟩|⟨p,q,rfl,rfl⟩<;>simp[binOp,Op.equal,Op.maxDepth,J]
   ·cases ho
  ·cases ho
 ·cases ho
theorem bWG {P:Program} {op:BinOp} {t:TypeId} {x r:aC U} {y:Operand} {a:Act} {u:Value} {X:Operand} {E:Enc U} {st:Nat->Prop} (hx:Rel E w ρ st x u) (ho:aPj P op t x y=some r):
  ∃q,(do eqGuard op t X y u (a.eval y);binOp op t u (a.eval y):Sem Value).run P w=.ok q w/\Rel E w ρ st r q:=by
 unfold aPj at ho;split at ho
 ·exact bWH hx ho
 ·cases ho
theorem bVk {P:Program} {op:UnOp} {x r:aC U} {u:Value} {E:Enc U} {st:Nat->Prop} (hx:Rel E w ρ st x u) (ho:aun op x=some r):
  ∃q,(Op.unary op u).run P w=.ok q w/\Rel E w ρ st r q:=by
 unfold aun at ho;split at ho
 ·cases hx;split at ho
  ·obtain rfl:=QW ho;exact⟨_,by simp[Op.unary,Op.intArith],.int _ _⟩
  ·cases ho
 ·cases hx;split at ho
  ·obtain rfl:=QW ho;exact⟨_,by simp[Op.unary],.bool _⟩
  ·cases ho
 ·cases ho
theorem bQs {P:Program} {t:TypeId} {f G:Nat} (h:aFQ P t f=some G):∃r u i,P.underlying t=some (.struct r)/\r[f]?=some u/\P.info? u.type=some i/\i.size≠0/\u.offset=G:=by
 unfold aFQ at h;split at h
 ·rename_i r I;split at h
  ·rename_i u J;split at h
   ·rename_i m hm;obtain⟨i,hi,L⟩:=pR hm;exact⟨r,u,i,I,J,hi,XY,QW h⟩
   ·cases h
  ·cases h
 ·cases h
theorem addr_add (b o k:Nat):(⟨b,o,none⟩:Addr).add k=⟨b,o+k,none⟩:=Addr.rX b o k
theorem aJ9 {P:Program} {t:TypeId} {f u b o:Nat} (h:aFQ P t f=some u):(Instr.fieldAt t (.pointer (some ⟨b,o,none⟩)) f).run P w=.ok (.pointer (some ⟨b,o+u,none⟩)) w:=by
 obtain⟨r,L,i,G,J,hi,I,rfl⟩:=bQs h;simp only[Instr.fieldAt,QM,QR G,QP,J,Instr.sureAddr,JU,fieldPlace,sizeOf,typeInfo,run_program,hi,JK I,addr_add]
theorem bQt {P:Program} {E:Enc U} {st:Nat->Prop} {look:Nat->Option (bK U)} {t:TypeId} {f fo:Nat} (h:aFQ P t f=some fo) {x r:aC U} {v:Value} (hx:Rel E w ρ st x v)
  {cs:List Prop} {ob:Option (Nat×bK U)}
  (I:aIl look fo x=some (cs,r,ob)) (V:∀id g i off J,storable look (.eptr id g i off J)=true->∃u,ρ id=some (g,u))
  (O:∀id i g j off J,storable look (.meptr id i g j off J)=true->∀Z u,ρ (.mem id i)=some (Z,u)->Z=g):
  ∃q,(Instr.fieldAt t v f).run P w=.ok q w/\Rel E w ρ st r q/\ob=none:=by
 unfold aIl at I;cases hx with
 |ptr id off b hb=>
  simp only[val,QQ,QK] at I;obtain⟨_,rfl,rfl⟩:=I;exact⟨_,aJ9 h,.ptr id _ b hb,rfl⟩
 |eptr id g i off J b n' L hb hi=>
  have G:=(cM I).2;simp only[val,QQ,QK] at G;obtain⟨_,rfl,rfl⟩:=G;refine⟨_,aJ9 h,?_,rfl⟩;rw[JP];exact .eptr id g i _ J b n' L hb hi
 |eptrOld id g i off J Z u v hb hg=>
  obtain⟨u',S⟩:=V _ _ _ _ _ (cM I).1;rw[hb] at S;simp only[QQ,QK] at S;omega
 |ref l off b o f' hst hc hl=>
  simp only[val,QQ,QK] at I;obtain⟨_,rfl,rfl⟩:=I;refine⟨_,aJ9 h,?_,rfl⟩;rw[JP];exact .ref l _ b o f' hst hc hl
 |meptr id i g j off J b n' L hb hi=>
  have G:=(cM I).2;simp only[val,QQ,QK] at G;obtain⟨_,rfl,rfl⟩:=G;refine⟨_,aJ9 h,?_,rfl⟩;rw[JP];exact .meptr id i g j _ J b n' L hb hi
 |meptrOld id i g j off J Z u v hb hg=>
  have:=O _ _ _ _ _ _ (cM I).1 _ _ hb;omega
 |_=>simp at I
end
end Go.Vm
namespace Go.Vm
open Go.RowKit
set_option linter.unusedVariables false
section
variable {U:eW} {n:Nat} {N:Nat->Prop} {w0:Fr} {w w':World} {ρ ρ':Own} {s:ASt U} {a:Act}
theorem xZ {P:Program} {e m:Nat} (h:(match jZ P e with|some n=>Nat.beq n m|none=>false)=true):∃i,P.info? e=some i/\i.size=m:=by
 split at h
 ·rename_i n r;obtain⟨i,hi,f⟩:=pR r;exact⟨i,hi,by rw[f];exact QZ h⟩
 ·cases h
theorem toNat_lt {i:Int} {n:Nat} (h:0<=i/\i<n):i.toNat<n:=XY
theorem bOn {C:Cfg U} (h:RR C.E n N w0 ρ s a w) {look:Nat->Option (bK U)} (S:∀id ob,look id=some ob->s.objs id=some ob) {t:TypeId}
  {x:aC U} {v:Value} (hx:Rel C.E w ρ (bF N ρ w) x v) {k:IntKind} {i:Int} {cs:List Prop} {r:aC U} {ob:Option (Nat×bK U)}
  (ho:aJS C look t x i=some (cs,r,ob)) (hc:eQ cs):ob=none/\∃q,(Instr.indexAt t v (.int k i)).run C.P w=.ok q w/\Rel C.E w ρ (bF N ρ w) r q:=by
 unfold aJS at ho;split at ho
 ·rename_i e hu;split at ho
  ·rename_i τ xs;have O:=cM ho;clear ho;obtain⟨hb,ho⟩:=O;simp only[QQ,QK] at ho;obtain⟨rfl,rfl,rfl⟩:=ho;obtain⟨ti,I,L⟩:=xZ hb;have hi:0<=i/\i<xs.length:=hc;have J:=toNat_lt hi;refine⟨rfl,?_⟩;cases hx with
   |lJ _=>simp at J
   |sle _ _=>simp at J
   |sl _ _ b o V f hst hcap hcc hl=>
    refine⟨.pointer (some ⟨b,o+i.toNat*U.size τ,none⟩),?_,?_⟩
    ·simp[Instr.indexAt,asIntOf,QR hu,hi,sizeOf,typeInfo,I,L,addr_add]
    ·have hxi:xs.getD i.toNat (C.E.dflt τ)=xs[i.toNat]:=by simp[J]
     rw[hxi];have:=Rel.ref (E:=C.E) (w:=w) (ρ:=ρ) (st:=bF N ρ w) (C.E.enc τ xs[i.toNat]) 0 b (o+i.toNat*U.size τ) (fun k=>f (i.toNat*U.size τ+k)) hst (fun k hk=>by
      have hk':k<U.size τ:=by rw[C.E.enc_len] at hk;exact hk
      have h4:(i.toNat+1)*U.size τ<=xs.length*U.size τ:=JY _ J;rw[Nat.add_mul,Nat.one_mul] at h4;rw[JP];exact hcc _ XY) (fun k hk=>hl _ J k hk)
     simpa using this
  ·rename_i id g;split at ho
   ·rename_i τ g' xs hl;have O:=cM ho;clear ho;obtain⟨hb,ho⟩:=O;simp only[QQ,QK] at ho;obtain⟨rfl,rfl,rfl⟩:=ho;simp only[QU] at hb;obtain rfl:=QZ hb.1;obtain⟨ti,I,L⟩:=xZ hb.2;have hi:0<=i/\i<xs.length:=hc;have J:=toNat_lt hi;refine⟨rfl,?_⟩;obtain⟨u,cs',h1,hp,h2,h3⟩:=h.objs _ _ (S _ _ hl);cases hx with
    |osl _ _ u' G hp'=>
     rw[h1] at G;simp only[QQ,QK,true_and] at G;subst G;rcases h2.2 with ⟨h0,lE⟩|⟨gb,V,cur,rfl,hbase,hgb,hn,hcm,hcs,Z⟩
     ·omega
     ·refine⟨.pointer (some ⟨gb,i.toNat*U.size τ,none⟩),?_,?_⟩
      ·simp[Instr.indexAt,asIntOf,QR hu,hi,sizeOf,typeInfo,I,L,addr_add]
      ·exact .eptr id g i.toNat 0 (U.size τ) gb xs.length V h1 J
    |oslOld _ _ g' u' v G hg=>
     rw[h1] at G;simp only[QQ,QK] at G;omega
   ·rename_i τ g' gm xs hl;have O:=cM ho;clear ho;obtain⟨hb,ho⟩:=O;simp only[QQ,QK] at ho;obtain⟨rfl,rfl,rfl⟩:=ho;simp only[QU] at hb;obtain rfl:=QZ hb.1;obtain⟨ti,I,L⟩:=xZ hb.2;have hi:0<=i/\i<xs.length:=hc;have J:=toNat_lt hi;refine⟨rfl,?_⟩;obtain⟨u,cs',h1,hp,h2,h3⟩:=h.objs _ _ (S _ _ hl);cases hx with
    |osl _ _ u' G hp'=>
     rw[h1] at G;simp only[QQ,QK,true_and] at G;subst G;rcases h2.2 with ⟨h0,lE⟩|⟨gb,V,cur,rfl,hbase,hgb,hn,hcm,hcs,Z⟩
     ·omega
     ·refine⟨.pointer (some ⟨gb,i.toNat*U.size τ,none⟩),?_,?_⟩
      ·simp[Instr.indexAt,asIntOf,QR hu,hi,sizeOf,typeInfo,I,L,addr_add]
      ·exact .eptr id g i.toNat 0 (U.size τ) gb xs.length V h1 J
    |oslOld _ _ g' u' v G hg=>
     rw[h1] at G;simp only[QQ,QK] at G;omega
   ·cases ho
  ·rename_i id q g;split at ho
   ·rename_i τ ys hm;have O:=cM ho;clear ho;obtain⟨hb,ho⟩:=O;simp only[QQ,QK] at ho;obtain⟨rfl,rfl,rfl⟩:=ho;obtain⟨ti,I,L⟩:=xZ hb;have hi:0<=i/\i<ys.length:=hc;have J:=toNat_lt hi;refine⟨rfl,?_⟩;have hms:=aCY h S hm;cases hx with
    |mslOld _ _ _ g' u v hr hg=>
     have:=(hms _ _ hr).1;omega
    |msl _ _ _ u hr=>
     obtain⟨_,ds,hp,h2,h3⟩:=hms _ _ hr;rcases h2.2 with ⟨h0,lE⟩|⟨gb,V,cur,rfl,hbase,hgb,hn,hcm,hcs,Z⟩
     ·omega
     ·refine⟨.pointer (some ⟨gb,i.toNat*U.size τ,none⟩),?_,?_⟩
      ·simp[Instr.indexAt,asIntOf,QR hu,hi,sizeOf,typeInfo,I,L,addr_add]
      ·exact .meptr id q g i.toNat 0 (U.size τ) gb ys.length V hr J
   ·cases ho
  ·simp only[QQ,QK] at ho;obtain⟨rfl,rfl,rfl⟩:=ho;exact(show False from hc).elim
  ·rename_i id g lo hi sz;split at ho
   ·rename_i τ g' xs hl;have O:=cM ho;clear ho;obtain⟨hb,ho⟩:=O;simp only[QQ,QK] at ho;obtain⟨rfl,rfl,rfl⟩:=ho;simp only[QU] at hb;obtain rfl:=QZ hb.1.1;obtain rfl:=QZ hb.1.2;obtain⟨ti,I,L⟩:=xZ hb.2;have hic:0<=i/\i<((hi-lo:Nat):Int):=hc;refine⟨rfl,?_⟩;obtain⟨u,cs',h1,hp,h2,h3⟩:=h.objs _ _ (S _ _ hl);cases hx with
    |ovwOld _ _ _ _ _ g' u' v G hg=>
     rw[h1] at G;simp only[QQ,QK] at G;omega
    |ovw _ _ _ _ _ u' ad c G hp' hle had=>
     rcases had with ⟨rfl,rfl,rfl⟩|⟨b,n',V,o,rfl,hn,rfl,hoo,hcap⟩
     ·omega
     ·obtain rfl:=hoo XY;refine⟨.pointer (some ⟨b,(lo+i.toNat)*U.size τ,none⟩),?_,.eptr id g (lo+i.toNat) 0 (U.size τ) b n' V G XY⟩;simp[Instr.indexAt,asIntOf,QR hu,hic,sizeOf,typeInfo,I,L,addr_add,Nat.add_mul]
      try omega
   ·cases ho
  ·cases ho
 ·rename_i len e hu;split at ho
  ·rename_i m hm;obtain⟨ti,I,rfl⟩:=pR hm;split at ho
   ·simp only[QQ,QK] at ho;obtain⟨rfl,rfl,rfl⟩:=ho;have hi:0<=i/\i<len:=hc;refine⟨rfl,?_⟩;cases hx with
    |ptr _ _ b hb=>
     refine⟨_,?_,.ptr _ _ b hb⟩;simp[Instr.indexAt,asIntOf,QR hu,hi,sizeOf,typeInfo,I,Instr.sureAddr,addr_add]
   ·simp only[QQ,QK] at ho;obtain⟨rfl,rfl,rfl⟩:=ho;have hi:0<=i/\i<len:=hc;refine⟨rfl,?_⟩;cases hx with
    |ref _ _ b o f hst hcc hl=>
     refine⟨_,?_,.ref _ _ b o f hst hcc hl⟩;simp[Instr.indexAt,asIntOf,QR hu,hi,sizeOf,typeInfo,I,Instr.sureAddr,addr_add,JP]
   ·cases ho
  ·cases ho
 ·cases ho
theorem bOl {C:Cfg U} {t:TypeId} {st:Nat->Prop}
  {x:aC U} {v:Value} (hx:Rel C.E w ρ st x v) {k:IntKind} {i:Int} {cs:List Prop} {r:aC U} {ob:Option (Nat×bK U)}
  (ho:indexOf C t x i=some (cs,r,ob)) (I:eQ cs):ob=none/\∃q,(Instr.index t v (.int k i)).run C.P w=.ok q w/\Rel C.E w ρ st r q:=by
 unfold indexOf at ho;split at ho
 ·rename_i b u;simp only[QQ,QK] at ho;obtain⟨rfl,rfl,rfl⟩:=ho;have hi:0<=i/\i<b.size:=I;have f:=toNat_lt hi;refine⟨rfl,?_⟩;cases hx;refine⟨_,?_,.int _ _⟩;have e:b[i.toNat]?=some (b.data.toList.getD i.toNat 0):=by
   have h3:b.data.toList.getD i.toNat 0=b[i.toNat]:=by
    have Z:i.toNat<b.data.size:=f;have V:b.data[i.toNat]?=some b.data[i.toNat]:=Array.getElem?_eq_getElem Z;simp[V];rfl
   rw[h3];exact getElem?_pos b i.toNat f
  simp only[Instr.index,asIntOf,QM,JU,QP,QR u,JV hi.1,e]
 ·rename_i len e l u;split at ho
  ·rename_i m hm;obtain⟨ti,G,rfl⟩:=pR hm;split at ho
   ·rename_i y hy;simp only[QQ,QK] at ho;obtain⟨rfl,rfl,rfl⟩:=ho;have hi:0<=i/\i<len:=I;refine⟨rfl,?_⟩;cases hx with
    |agg _ vs O S=>
     obtain⟨q,L,J⟩:=aCV (w:=w) hy O S;refine⟨q,?_,J⟩;simp only[Instr.index,asIntOf,QM,JU,QP,QR u,JV hi,sizeOf,typeInfo,run_program,G,L]
   ·cases ho
  ·cases ho
 ·cases ho
theorem aRH {E:Enc U} {st:Nat->Prop} {τ:U.τ} {xs:List (U.T τ)} {b o cap l m c:Nat} {f:Nat->Value} (G:st b) (I:m<=c) (J:l+m<=xs.length)
  (O:∀k,k<xs.length*U.size τ->w.cell? ⟨b,o+k,none⟩=some (f k)) (L:∀i (h:i<xs.length) k (u:k<(E.enc τ xs[i]).length),Rel E w ρ st (E.enc τ xs[i])[k] (f (i*U.size τ+k))) (a':Addr)
  (S:a'=⟨b,o+l*U.size τ,none⟩\/(m=0/\a'=⟨b,o,none⟩)):
  Rel E w ρ st (.sl τ ((xs.drop l).take m)) (.slice (some a') m c):=by
 have r:((xs.drop l).take m).length=m:=by simp;omega
 rcases S with rfl|⟨rfl,rfl⟩
 ·have:=Rel.sl (E:=E) (w:=w) (ρ:=ρ) (st:=st) τ ((xs.drop l).take m) b (o+l*U.size τ) c (fun k=>f (l*U.size τ+k)) G (by rw[r];exact I) (fun k u=>by
   rw[r] at u;have V:(l+m)*U.size τ<=xs.length*U.size τ:=JY _ J;rw[Nat.add_mul] at V;rw[JP];exact O _ XY) (fun i hi k u=>by
   rw[r] at hi;have e:((xs.drop l).take m)[i]'(by rw[r];exact hi)=xs[l+i]'XY:=XU;have fC:k<(E.enc τ (xs[l+i]'XY)).length:=by rw[e] at u;exact u
   have:=L (l+i) XY k fC;have e2:(l+i)*U.size τ+k=l*U.size τ+(i*U.size τ+k):=by rw[Nat.add_mul];omega
   rw[e2] at this;simp only[e];exact this)
  rw[r] at this;exact this
 ·have Z:(xs.drop l).take 0=[]:=rfl;rw[Z];exact Rel.sl (E:=E) (w:=w) (ρ:=ρ) (st:=st) τ [] b o c f G XU (fun k u=>absurd u XU) (fun i hi=>absurd hi XU)
theorem aMP {P:Program} {t:TypeId} {d:TypeDesc} (r:P.underlying t=some d) (u:∀n e,d≠ .array n e) (v:Value) (f hi:Option Value):(Instr.sliceAt t v f hi none).run P w=(Instr.slice t v f hi none).run P w:=by
 simp only[Instr.sliceAt,QM,QR r,QP]
theorem qW {P:Program} {k:IntKind} {i:Int} {y:Nat} {code:BoundsCode} (h:0<=i/\i<=y):(Instr.sliceBound (.int k i) y code).run P w=.ok i.toNat w:=by
 simp[Instr.sliceBound,asIntOf,h]
theorem bFl {C:Cfg U} {st:Nat->Prop} {t:TypeId} {x:aC U} {v:Value} (hx:Rel C.E w ρ st x v) {lo hi:Option (aC U)} {lo' hi':Option Value}
  (hlo:∀y,lo=some y->∃v,lo'=some v/\Rel C.E w ρ st y v) (J:lo=none->lo'=none)
  (hhi:∀y,hi=some y->∃v,hi'=some v/\Rel C.E w ρ st y v) (L:hi=none->hi'=none)
  {cs:List Prop} {r:aC U} {ob:Option (Nat×bK U)} (ho:uD C t x lo hi=some (cs,r,ob)) (hc:eQ cs):
  ob=none/\∃q,(Instr.sliceAt t v lo' hi' none).run C.P w=.ok q w/\Rel C.E w ρ st r q:=by
 unfold uD at ho;split at ho
 ·rename_i b S;rw[aMP S (fun _ _ e=>by cases e)];cases hx;split at ho
  ·rename_i kl l kh h;simp only[QQ,QK] at ho;obtain⟨rfl,rfl,rfl⟩:=ho;obtain⟨_,rfl,mP⟩:=hlo _ rfl;obtain⟨_,rfl,lM⟩:=hhi _ rfl;cases mP;cases lM;have h0:0<=l/\l<=h/\h<=b.size:=hc;refine⟨rfl,_,?_,.str _⟩;have cQ:=qW (P:=C.P) (w:=w) (k:=kh) (code:=.sliceAlen) (show 0<=h/\h<=b.size by omega);have dE:=qW (P:=C.P) (w:=w) (k:=kl) (code:=.sliceB) (show 0<=l/\l<=h.toNat by omega);simp[Instr.slice,Instr.sliceBounds,QR S,cQ,dE]
  ·rename_i kl l;simp only[QQ,QK] at ho;obtain⟨rfl,rfl,rfl⟩:=ho;obtain⟨_,rfl,mP⟩:=hlo _ rfl;obtain rfl:=L rfl;cases mP;have h0:0<=l/\l<=b.size:=hc;refine⟨rfl,_,?_,.str _⟩;have dE:=qW (P:=C.P) (w:=w) (k:=kl) (code:=.sliceB) (show 0<=l/\l<=b.size by omega);simp[Instr.slice,Instr.sliceBounds,QR S,dE]
  ·rename_i kh h;simp only[QQ,QK] at ho;obtain⟨rfl,rfl,rfl⟩:=ho;obtain⟨_,rfl,lM⟩:=hhi _ rfl;obtain rfl:=J rfl;cases lM;have h0:0<=h/\h<=b.size:=hc;refine⟨rfl,_,?_,.str _⟩;have cQ:=qW (P:=C.P) (w:=w) (k:=kh) (code:=.sliceAlen) (show 0<=h/\h<=b.size by omega);simp[Instr.slice,Instr.sliceBounds,QR S,cQ]
  ·simp only[QQ,QK] at ho;obtain⟨rfl,rfl,rfl⟩:=ho;obtain rfl:=J rfl;obtain rfl:=L rfl;refine⟨rfl,_,?_,.str _⟩;simp[Instr.slice,Instr.sliceBounds,QR S]
  ·cases ho
 ·rename_i e τ xs S;have hbb:=cM ho;clear ho;obtain⟨hb,ho⟩:=hbb;obtain⟨ti,hti,hts⟩:=xZ hb;rw[aMP S (fun _ _ e=>by cases e)]
  -- the slice's value
  have hv:∃(u:Option Addr) (cap:Nat),v=.slice u xs.length cap/\xs.length<=cap/\∀(l m c:Nat),m<=c->c<=cap->l+m<=xs.length->(m=0\/c≠0)->
    ∀I,(I=u.map (·.add (l*U.size τ))\/(m=0/\I=u))->(u=none->c=0)->Rel C.E w ρ st (.sl τ ((xs.drop l).take m)) (.slice I m c):=by
   cases hx with
   |lJ _=>
    refine⟨none,0,rfl,XU,fun l m c hmc _ V _ I had nE=>?_⟩;have hm:m=0:=by simp at V;omega
    subst hm;obtain rfl:=nE rfl;have:I=none:=by
     rcases had with h|⟨_,h⟩<;>simpa using h
    subst this;exact .lJ τ
   |sle _ ad0=>
    refine⟨some ad0,0,rfl,XU,fun l m c hmc nE V _ I had _=>?_⟩;have hm:m=0:=XY;have kH:c=0:=XY;subst hm;subst kH;show Rel C.E w ρ st (.sl τ []) _;exact .slE τ I
   |sl _ _ b o cap f hst Z hcc hl=>
    refine⟨some ⟨b,o,none⟩,cap,rfl,Z,fun l m c hmc _ V _ I had _=>?_⟩;rcases had with rfl|⟨rfl,rfl⟩
    ·simp only[Option.map_some,addr_add];exact aRH (cap:=cap) hst hmc V hcc hl _ (.inl rfl)
    ·exact aRH (cap:=cap) hst hmc V hcc hl _ (.inr ⟨rfl,rfl⟩)
  obtain⟨u,cap,rfl,Z,G⟩:=hv;have O:u=none->cap=0:=fun e=>by
   subst e;cases hx;rfl
  split at ho
  ·rename_i kl l kh h;simp only[QQ,QK] at ho;obtain⟨rfl,rfl,rfl⟩:=ho;obtain⟨_,rfl,mP⟩:=hlo _ rfl;obtain⟨_,rfl,lM⟩:=hhi _ rfl;cases mP;cases lM;have h0:0<=l/\l<=h/\h<=xs.length:=hc;have cQ:=qW (P:=C.P) (w:=w) (k:=kh) (code:=.sliceAcap) (show 0<=h/\h<=cap by omega);have dE:=qW (P:=C.P) (w:=w) (k:=kl) (code:=.sliceB) (show 0<=l/\l<=h.toNat by omega);refine⟨rfl,.slice (if cap=l.toNat then u else u.map (·.add (l.toNat*U.size τ))) (h.toNat-l.toNat) (cap-l.toNat),?_,?_⟩
   ·simp[Instr.slice,Instr.sliceBounds,QR S,cQ,dE,sizeOf,typeInfo,hti,hts]
   ·refine G l.toNat (h.toNat-l.toNat) (cap-l.toNat) XY XY XY XY _ ?_ (fun e=>by have:=O e;omega)
    by_cases hcl:cap=l.toNat
    ·rw[JV hcl];exact .inr ⟨XY,rfl⟩
    ·rw[JK hcl];exact .inl rfl
  ·rename_i kl l;simp only[QQ,QK] at ho;obtain⟨rfl,rfl,rfl⟩:=ho;obtain⟨_,rfl,mP⟩:=hlo _ rfl;obtain rfl:=L rfl;cases mP;have h0:0<=l/\l<=xs.length:=hc;have dE:=qW (P:=C.P) (w:=w) (k:=kl) (code:=.sliceB) (show 0<=l/\l<=xs.length by omega);refine⟨rfl,.slice (if cap=l.toNat then u else u.map (·.add (l.toNat*U.size τ))) (xs.length-l.toNat) (cap-l.toNat),?_,?_⟩
   ·simp[Instr.slice,Instr.sliceBounds,QR S,dE,sizeOf,typeInfo,hti,hts]
   ·have:=G l.toNat (xs.length-l.toNat) (cap-l.toNat) XY XY XY XY (if cap=l.toNat then u else u.map (·.add (l.toNat*U.size τ))) (by
     by_cases hcl:cap=l.toNat
     ·rw[JV hcl];exact .inr ⟨XY,rfl⟩
     ·rw[JK hcl];exact .inl rfl) (fun e=>by have:=O e;omega)
    have e:(xs.drop l.toNat).take (xs.length-l.toNat)=xs.drop l.toNat:=List.take_of_length_le XU;rw[e] at this;exact this
  ·rename_i kh h;simp only[QQ,QK] at ho;obtain⟨rfl,rfl,rfl⟩:=ho;obtain⟨_,rfl,lM⟩:=hhi _ rfl;obtain rfl:=J rfl;cases lM;have h0:0<=h/\h<=xs.length:=hc;have cQ:=qW (P:=C.P) (w:=w) (k:=kh) (code:=.sliceAcap) (show 0<=h/\h<=cap by omega);refine⟨rfl,.slice (if cap=0 then u else u.map (·.add (0*U.size τ))) h.toNat cap,?_,?_⟩
   ·simp[Instr.slice,Instr.sliceBounds,QR S,cQ,sizeOf,typeInfo,hti]
   ·have:=G 0 h.toNat cap XY (JX _) XY XY (if cap=0 then u else u.map (·.add (0*U.size τ))) (by
     by_cases hcl:cap=0
     ·rw[JV hcl];exact .inr ⟨XY,rfl⟩
     ·rw[JK hcl];exact .inl rfl) O
    simpa using this
  ·simp only[QQ,QK] at ho;obtain⟨rfl,rfl,rfl⟩:=ho;obtain rfl:=J rfl;obtain rfl:=L rfl;refine⟨rfl,.slice (if cap=0 then u else u.map (·.add (0*U.size τ))) xs.length cap,?_,?_⟩
   ·simp[Instr.slice,Instr.sliceBounds,QR S,sizeOf,typeInfo,hti]
   ·have:=G 0 xs.length cap Z (JX _) XY XY (if cap=0 then u else u.map (·.add (0*U.size τ))) (by
     by_cases hcl:cap=0
     ·rw[JV hcl];exact .inr ⟨XY,rfl⟩
     ·rw[JK hcl];exact .inl rfl) O
    simpa using this
  ·cases ho
 ·cases ho
end
end Go.Vm
namespace Go.Vm
open Go.RowKit
set_option linter.unusedVariables false
section
variable {U:eW} {n:Nat} {N:Nat->Prop} {w0:Fr} {w w':World} {ρ ρ':Own} {s:ASt U} {a:Act}
theorem bN8 {P:Program}:∀(l:List Field) (w:World) (r:List (Nat×Nat)),aFP P l=some r->
  (l.mapM fun f=>do pure (f.offset,<- sizeOf f.type):Sem (List (Nat×Nat))).run P w=.ok r w:=by
 intro l
 induction l with
 |nil=>
  intro w r u;simp only[aFP,QQ] at u;subst u;rfl
 |cons f l J=>
  intro w r u;simp only[aFP] at u;split at u
  ·rename_i m I hm G;obtain rfl:=QW u;obtain⟨i,hi,rfl⟩:=pR hm;have e:=J w I G;simp only[List.mapM_cons,QM,sizeOf,typeInfo,run_program,QP,JU];simp only[hi,JU,QP];simp only[sizeOf,typeInfo] at e;simp only[e,QP]
  ·cases u
theorem bVP {P:Program} {E:Enc U} {st:Nat->Prop} {look:Nat->Option (bK U)} (hst:∀(x:aC U) v,Rel E w ρ st x v->storable look x=true->v.oneCell'=true) {t:TypeId} {pl:Nat->Option (Nat×Nat)} (G:placesOf P t=some pl)
  {z:List (aC U)} (hz:zeroCells P t=some z) {u:List (Nat×aC U)} {parts':Array (Nat×Value)} (Z:u.length=parts'.size)
  (hp:∀k (h:k<u.length) (h':k<parts'.toList.length),u[k].1=parts'.toList[k].1/\Rel E w ρ st u[k].2 parts'.toList[k].2) {l:List (aC U)} (hl:nY look pl z u=some l):
  ∃q,(Instr.build t parts').run P w=.ok q w/\Rel E w ρ st (.agg l) q:=by
 obtain⟨zv,hzr,V,O⟩:=aB5 (E:=E) (w:=w) (ρ:=ρ) hz;unfold placesOf at G;split at G
 ·rename_i S hu;split at G
  ·rename_i r hr;obtain rfl:=QW G;have hma:(S.mapM fun f=>do pure (f.offset,<- sizeOf f.type):Sem (Array (Nat×Nat))).run P w=.ok r.toArray w:=by
    rw[Array.mapM_eq_mapM_toList];simp only[Sem.run_map,bN8 _ w r hr,QP]
   obtain⟨c',I,J,L⟩:=aJ8 (E:=E) (w:=w) (ρ:=ρ) hst (place':=fun i=>(r.toArray)[i]?) (fun i q hq=>by simpa using hq) u parts'.toList z l zv.cells (by simpa using Z) hp hl V (fun k hk=>O _ k hk);refine⟨.agg c',?_,.agg l c' J L⟩;simp only[Instr.build,QM,hzr,QP,QR hu,hma,I,JU]
  ·cases G
 ·rename_i len e hu;split at G
  ·rename_i m hm;obtain rfl:=QW G;obtain⟨ti,hti,rfl⟩:=pR hm;obtain⟨c',I,J,L⟩:=aJ8 (E:=E) (w:=w) (ρ:=ρ) hst (place':=fun i=>some (i*ti.size,ti.size)) (fun i q hq=>hq) u parts'.toList z l zv.cells (by simpa using Z) hp hl V (fun k hk=>O _ k hk);refine⟨.agg c',?_,.agg l c' J L⟩;simp only[Instr.build,QM,hzr,QP,QR hu,sizeOf,typeInfo,run_program,hti,JU,I]
  ·cases G
 ·cases G
theorem bQl {look:Nat->Option (bK U)} {p x:aC U} {r:Nat×bK U} (h:aFN look p x=some r):x.cellsOf.length=1:=by
 unfold aFN at h;split at h
 ·rfl
 ·cases h
theorem bQk {P:Program} {E:Enc U} (h:RR E n N w0 ρ s a w) {look:Nat->Option (bK U)} (J:∀id ob,look id=some ob->s.objs id=some ob)
  {p x:aC U} {v u:Value} (hp:Rel E w ρ (bF N ρ w) p v) (hx:Rel E w ρ (bF N ρ w) x u) {id:Nat} {ob:bK U} (hs:aFN look p x=some (id,ob))
  {t:TypeId} (hm:jZ P t=some 1):
  ∃w' ρ',(Instr.storeAt t v u).run P w=.ok () w'/\RR E n N w0 ρ' (s.obj id ob) a w':=by
 obtain⟨ti,hti,htis⟩:=pR hm;unfold aFN at hs;split at hs
 ·rename_i f g i off sz m gm;split at hs
  ·rename_i _ _ t' g' xs _ gm' _ hl hlm;obtain⟨hb,hs⟩:=cM hs;simp only[QQ,QK] at hs;obtain⟨rfl,rfl⟩:=hs;simp only[QU] at hb;obtain⟨⟨⟨⟨cQ,dE⟩,nW⟩,uY⟩,hb5⟩:=hb;obtain rfl:=QZ cQ;obtain rfl:=QZ dE;obtain rfl:=QZ nW;obtain rfl:=QZ uY;have r:=QZ hb5;have hone:u.oneCell'=true:=j8 h J hx (by simp only[storable,hlm];exact JS _);have hcu:u.cells=#[u]:=cells_one hone;obtain⟨u1,cs,h1,hpp,h2,h3⟩:=h.objs _ _ (J _ _ hl);cases hp with
   |eptrOld _ _ _ _ _ g' O v S hg=>
    rw[h1] at S;simp only[QQ,QK] at S;omega
   |eptr _ _ _ _ _ b n' L S hi=>
    rw[h1] at S;simp only[QQ,QK,true_and] at S;subst S;rcases h2.2 with ⟨h0,_⟩|⟨gb,cap',cur,heq,hbase,hgb,hn,hcm,hcs,htake⟩
    ·cases h0
    simp only[KW,QQ,KR,and_true] at heq;obtain⟨rfl,rfl,rfl⟩:=heq;rw[r,Nat.mul_one] at hcs htake;have hrun:=run_storeCells_at P b i (U.ety t') [u] 0 cur w hgb (by simp;omega) (fun q hq=>by simp only[JB] at hq;subst hq;exact hone);simp only[JL] at hrun;refine⟨w.setRow b (cur.toList.take i++[u]++cur.toList.drop (i+[u].length)).toArray,dU ρ f g (.slice (some ⟨b,0,none⟩) xs.length L),?_,?_⟩
    ·simp only[Instr.storeAt,Instr.sureAddr,storeVar,sizeOf,typeInfo,QM,JU,QP,run_program,hti];have:¬((#[u]:Array Value).size≠ti.size):=by simp only[ne_eq,Decidable.not_not,htis];rfl
     simp only[hcu,JK this,Nat.mul_one,JL];exact hrun
    ·have hold:∀g1 O,ρ f=some (g1,O)->(g1=g/\O=.slice (some ⟨b,0,none⟩) xs.length L)\/((∀a,O≠ .pointer a)/\g1<g):=fun g1 O S=>by
      rw[h1] at S;simp only[QQ,QK] at S;exact .inl ⟨S.1.symm,S.2.symm⟩
     have I:∀V,V<w.heap.size->(∀g O,ρ f=some (g,O)->blk O≠some V)->(w.setRow b (cur.toList.take i++[u]++cur.toList.drop (i+[u].length)).toArray).heap[V]?=w.heap[V]?:=fun V _ hne=>
      setRow_other w b V _ (fun e=>hne _ _ h1 (by simp[blk,e]))
     have Z:∀V,blk (.slice (some ⟨b,0,none⟩) xs.length L)=some V->(∃g O,ρ f=some (g,O)/\blk O=some V)\/(w.heap.size<=V):=fun V hb'=>.inl ⟨_,_,h1,hb'⟩
     have hb:=aF9 hbase w (cur.toList.take i++[u]++cur.toList.drop (i+[u].length)).toArray;have hcl:cur.toList.length=L:=by simpa using hcs
     have hget:∀q,q<xs.length->((cur.toList.take i++[u]++cur.toList.drop (i+[u].length)).take xs.length).getD q undef=if q=i then u else cs.getD q undef:=fun q hq=>by
      have e1:cs[q]?=cur.toList[q]?:=by
       rw[<- htake,JH,JV hq]
      simp only[QG,JH,JV hq,e1];simp only[KP,List.getElem?_append,KQ,hcl,QD]
      by_cases hqi:q=i
      ·subst hqi;rw[JV rfl,JK XY,JV XY];have:q-min q L=0:=XY;simp[this]
      ·rw[JK hqi];congr 1
       by_cases hlt:q<i
       ·rw[JV XY,JH,JV hlt]
       ·rw[JK XY,JK XY,KT];congr 1;omega
     have G:∀ob,s.objs f=some ob->ob.simple=true:=fun ob ho=>by rw[J _ _ hl] at ho;cases ho;rfl
     refine h.upd f g _ _ G hold hb I Z ?_;refine⟨_,(cur.toList.take i++[u]++cur.toList.drop (i+[u].length)).take xs.length,by simp[dU],hpp,⟨?_,.inr ⟨b,L,_,rfl,hbase,setRow_heap w b cur _ _ (0,0) hgb,hn,hcm,?_,?_⟩⟩,r,hi,?_,?_⟩
     ·rw[r,Nat.mul_one];simp only[KQ,QH,KZ,QD,hcl];omega
     ·rw[r,Nat.mul_one];simp only[KB,QH,KQ,KZ,QD,hcl];omega
     ·rw[r,Nat.mul_one]
     ·rw[hget i hi,JV rfl];exact h.xJ f g _ G hold hb I Z hx
     ·intro j hj hji k hk;have mS:k=0:=by rw[E.enc_len,r] at hk;omega
      subst mS;rw[r,Nat.mul_one,JL,hget j hj,JK hji];have:=h3 j hj 0 hk;rw[r,Nat.mul_one,JL] at this;exact h.xJ f g _ G hold hb I Z this
  ·cases hs
 ·cases hs
theorem bNj {P:Program} {E:Enc U} (h:RR E n N w0 ρ s a w) {look:Nat->Option (bK U)} (S:∀id ob,look id=some ob->s.objs id=some ob)
  {t:TypeId} {p:aC U} {v:Value} (hp:Rel E w ρ (bF N ρ w) p v) {cs:List Prop} {r:aC U} {ob:Option (Nat×bK U)} (ho:aIs P look t p=some (cs,r,ob)) (hc:eQ cs):
  ob=none/\∃ad u,v=.pointer (some ad)/\(loadVar t ad).run P w=.ok u w/\Rel E w ρ (bF N ρ w) r u:=by
 unfold aIs at ho;split at ho
 ·rename_i id g i off sz;split at ho
  ·rename_i t' g' xs i' m gm hl;split at ho
   ·rename_i d hu hag;obtain⟨hb,ho⟩:=cM ho;cases ho;simp only[QU] at hb;obtain⟨⟨cQ,dE⟩,nW⟩:=hb;obtain rfl:=QZ cQ;obtain rfl:=QZ dE;obtain rfl:=QZ nW;obtain rfl:i=i':=hc;refine⟨rfl,?_⟩;obtain⟨u1,I,h1,hpp,h2,J,hil,hm,_⟩:=h.objs _ _ (S _ _ hl);cases hp with
    |eptrOld _ _ _ _ _ g' u' v G hg=>
     rw[h1] at G;simp only[QQ,QK] at G;omega
    |eptr _ _ _ _ _ b n' cap G hi=>
     rw[h1] at G;simp only[QQ,QK,true_and] at G;subst G;rcases h2.2 with ⟨h0,_⟩|⟨gb,cap',cur,L,hbase,Z,hn,hcm,hcs,f⟩
     ·cases h0
     simp only[KW,QQ,KR,and_true] at L;obtain⟨rfl,rfl,rfl⟩:=L;have O:=aJM (w:=w) hu;refine⟨_,I.getD i undef,rfl,?_,hm⟩;simp only[loadVar,QM,O,hag,QP,Bool.false_eq_true,if_false];have hci:I[i]?=cur[i]?:=by
      rw[<- f,J,Nat.mul_one,JH,JV hil];simp
     have V:i<I.length:=by rw[h2.1,J];omega
     rw[run_load,Nat.mul_one,JL,cell_of_row w b i cur _ (0,0) Z,<- hci];simp[V]
   ·cases ho
  ·rename_i t' g' gm xs hl;split at ho
   ·rename_i d hu hag;obtain⟨hb,ho⟩:=cM ho;cases ho;simp only[QU] at hb;obtain⟨⟨cQ,dE⟩,nW⟩:=hb;obtain rfl:=QZ cQ;obtain rfl:=QZ dE;obtain rfl:=QZ nW;refine⟨rfl,?_⟩;obtain⟨u1,I,h1,hpp,h2,J,hno,h3⟩:=h.objs _ _ (S _ _ hl);cases hp with
    |eptrOld _ _ _ _ _ g' u' v G hg=>
     rw[h1] at G;simp only[QQ,QK] at G;omega
    |eptr _ _ _ _ _ b n' cap G hi=>
     rw[h1] at G;simp only[QQ,QK,true_and] at G;subst G;rcases h2.2 with ⟨h0,_⟩|⟨gb,cap',cur,L,hbase,Z,hn,hcm,hcs,f⟩
     ·cases h0
     simp only[KW,QQ,KR,and_true] at L;obtain⟨rfl,rfl,rfl⟩:=L;have O:=aJM (w:=w) hu;obtain⟨t1,ys,v1,ds,q1,q2,q3,q4,q5,q6⟩:=h3 i hi;refine⟨_,v1,rfl,?_,.msl id i gm v1 q2⟩;simp only[loadVar,QM,O,hag,QP,Bool.false_eq_true,if_false];have hci:I[i]?=cur[i]?:=by
      rw[<- f,J,Nat.mul_one,JH,JV hi];simp
     have V:i<I.length:=by rw[h2.1,J];omega
     rw[run_load,Nat.mul_one,JL,cell_of_row w b i cur _ (0,0) Z,<- hci,<- q3];simp[V]
   ·cases ho
  ·cases ho
 ·cases ho
theorem bOm {C:Cfg U} (h:RR C.E n N w0 ρ s a w) {look:Nat->Option (bK U)} (G:∀id ob,look id=some ob->s.objs id=some ob) {t:TypeId}
  {x:aC U} {v:Value} (hx:Rel C.E w ρ (bF N ρ w) x v) {k:IntKind} {i:Int} {cs:List Prop} {r:aC U} {ob:Option (Nat×bK U)}
  (ho:aJR C look t x i=some (cs,r,ob)) (hc:eQ cs):ob=none/\∃q,(Instr.indexAt t v (.int k i)).run C.P w=.ok q w/\Rel C.E w ρ (bF N ρ w) r q:=by
 unfold aJR at ho;split at ho
 ·rename_i e id g hu;split at ho
  ·rename_i τ g' xs _ _ _ hl;have S:=cM ho;clear ho;obtain⟨hb,ho⟩:=S;simp only[QQ,QK] at ho;obtain⟨rfl,rfl,rfl⟩:=ho;simp only[QU] at hb;obtain rfl:=QZ hb.1;obtain⟨ti,L,J⟩:=xZ hb.2;have hi:0<=i/\i<xs.length:=hc;have O:=toNat_lt hi;refine⟨rfl,?_⟩;obtain⟨u,cs',I,hp,h2,h3⟩:=h.objs _ _ (G _ _ hl);cases hx with
   |osl _ _ u' f hp'=>
    rw[I] at f;simp only[QQ,QK,true_and] at f;subst f;rcases h2.2 with ⟨h0,lE⟩|⟨gb,V,cur,rfl,hbase,hgb,hn,hcm,hcs,Z⟩
    ·omega
    ·refine⟨.pointer (some ⟨gb,i.toNat*U.size τ,none⟩),?_,?_⟩
     ·simp[Instr.indexAt,asIntOf,QR hu,hi,sizeOf,typeInfo,L,J,addr_add]
     ·exact .eptr id g i.toNat 0 (U.size τ) gb xs.length V I O
   |oslOld _ _ g' u' v f hg=>
    rw[I] at f;simp only[QQ,QK] at f;omega
  ·cases ho
 ·cases ho
theorem RR.bBb {E:Enc U} (h:RR E n N w0 ρ s a w) {m gm:Nat} {t1:U.τ} {ys:List (U.T t1)} (hm:s.objs m=some (.row t1 gm ys)):
  RR E n N w0 (dU ρ m (gm+1) (.slice none 0 0)) (s.obj m (.row t1 (gm+1) [])) a w/\
  (∀{v:Value},Rel E w ρ (bF N ρ w) (.osl m gm) v->Rel E w (dU ρ m (gm+1) (.slice none 0 0)) (bF N (dU ρ m (gm+1) (.slice none 0 0)) w) (.sl t1 ys) v):=by
 obtain⟨um,csm,S,mp,m2,m3,m4⟩:=h.aDf hm;have hold:∀g u,ρ m=some (g,u)->(g=gm+1/\u=.slice none 0 0)\/((∀a,u≠ .pointer a)/\g<gm+1):=fun g u O=>by
  rw[S] at O;cases O;exact .inr ⟨mp,XY⟩
 have hw:Below w0.heap.size w w:=Below.refl _ _;have I:∀b,b<w.heap.size->(∀g u,ρ m=some (g,u)->blk u≠some b)->w.heap[b]?=w.heap[b]?:=fun _ _ _=>rfl
 have J:∀b,blk (.slice none 0 0)=some b->(∃g u,ρ m=some (g,u)/\blk u=some b)\/(w.heap.size<=b):=fun b hb=>by cases hb
 have G:∀ob,s.objs m=some ob->ob.simple=true:=fun ob ho=>by rw[hm] at ho;cases ho;rfl
 refine⟨h.upd m (gm+1) (.slice none 0 0) _ G hold hw I J ⟨.slice none 0 0,[],by simp[dU],(fun a e=>by cases e),JE _ _ _ _,fun i hi=>absurd hi XU⟩,fun {v} hv=>?_⟩;have Z:um=v:=by
  cases hv with
  |osl _ _ u' r hp'=>
   rw[S] at r;simpa using r
  |oslOld _ _ g' u' v r hg=>
   rw[S] at r;simp only[QQ,QK] at r;omega
 subst Z;rcases m3 with ⟨⟨ad,rfl⟩,rfl⟩|⟨b,o,cap,f,rfl,V,hc,hl'⟩
 ·exact .slE t1 ad
 ·refine .sl t1 ys b o cap f ?_ V hc (fun i hi k hk=>h.xJ m (gm+1) (.slice none 0 0) G hold hw I J (hl' i hi k hk));obtain⟨q1,q2⟩:=(h.own S).2 b rfl;refine⟨q2,h.aEG S rfl,fun id g u O L=>?_⟩
  ·unfold dU at O;split at O
   ·cases O;cases L
   ·rename_i hne;exact h.sep _ _ _ _ _ _ b S O (fun e=>hne e.symm) rfl L
end
end Go.Vm
namespace Go.Vm
open Go.RowKit
set_option linter.unusedVariables false
section
variable {U:eW} {n:Nat} {N:Nat->Prop} {w0:Fr} {w w':World} {ρ ρ':Own} {s:ASt U} {a:Act}
theorem aRc {E:Enc U} {st st':Nat->Prop} {r:aC U} {v:Value} (f:yA r=true) (h:Rel E w ρ st r v):Rel E w' ρ' st' r v:=by
 cases r with
 |agg l=>
  cases h with
  |agg _ G I J=>exact .agg l G I (fun k u=>(J k u).pure (JG.1 f _ (QN u)))
 |_=>exact h.pure f
theorem aMb {E:Enc U} {st st':Nat->Prop} {r:aC U} {v:Value} (f:r.nS=true) (h:Rel E w ρ st r v):Rel E w' ρ' st' r v:=by
 cases r with
 |tup l=>
  cases h with
  |tup _ G I J=>exact .tup l G I (fun k u=>aRc (JG.1 f _ (QN u)) (J k u))
 |_=>exact aRc f h
theorem gE.closed {E:Enc U} {st st':Nat->Prop} {base id f:Nat} {ob:bK U} (O:ob.closed=true) (V:ρ' (.ob f)=ρ (.ob id)) (S:∀j,ρ' (.mem f j)=ρ (.mem id j))
  (hst:∀b,st b->st' b) (h:gE E w ρ st base id ob):gE E w ρ' st' base f ob:=by
 have fl:∀{x:aC U} {v:Value},x.flat=true->Rel E w ρ st x v->Rel E w ρ' st' x v:=fun hx hv=>
  (hv.flat (ρ':=cW) hx).mono (fun b hb=>⟨hst b hb,rfl⟩) (fun _ _ _ hr=>by cases hr)
 cases ob with
 |cells l=>
  obtain⟨b,c,ty,L,J,I,q4,q5⟩:=h;exact⟨b,c,ty,by rw[V];exact L,J,I,q4,fun k r=>fl (JG.1 O _ (QN r)) (q5 k r)⟩
 |row t g xs=>
  obtain⟨u,cs,L,hp,J,I⟩:=h;exact⟨u,cs,by rw[V];exact L,hp,J,fun i h k r=>fl (E.enc_flat t _ _ (QN r)).1 (I i h k r)⟩
 |rowF t g xs i m Z=>cases O
 |deep t g Z xs=>
  obtain⟨u,cs,L,hp,J,hs,hm,I⟩:=h;refine⟨u,cs,by rw[V];exact L,hp,J,hs,fun j G=>by rw[S];exact hm j G,fun j G=>?_⟩;obtain⟨t1,ys,v,ds,r1,r2,r3,r4,r5,r6⟩:=I j G;exact⟨t1,ys,v,ds,r1,by rw[S];exact r2,r3,r4,r5,fun i hi k r=>fl (E.enc_flat t1 _ _ (QN r)).1 (r6 i hi k r)⟩
 |deepS t g Z xs i=>cases O
 |deepF t g Z xs m gq=>cases O
 |one t g m Z=>cases O
 |gone g Z n=>
  exact⟨by rw[V];exact h.1,fun j G=>by rw[S];exact h.2.1 j G,fun j G=>by rw[S];exact h.2.2 j G⟩
 |opq k d=>
  show E.rep k d w base (ρ' (.ob f)) (fun j=>ρ' (.mem f j));rw[V,show (fun j=>ρ' (.mem f j))=fun j=>ρ (.mem id j) from funext S];exact h
def only(ρ:Own) (id f:Nat):Own:=fun nm=>if nm.id=f then ρ (nm.at id) else none
def aCr (ρ ρ':Own) (id f:Nat):Own:=fun nm=>if nm.id=id then ρ' (nm.at f) else ρ nm
theorem aEF (ρ:Own) (id f:Nat):only ρ id f (.ob f)=ρ (.ob id):=JV rfl
theorem aRp (ρ:Own) (id f j:Nat):only ρ id f (.mem f j)=ρ (.mem id j):=JV rfl
theorem uL {ρ:Own} {id f:Nat} {nm:Name} {g:Nat} {u:Value} (h:only ρ id f nm=some (g,u)):nm.id=f/\ρ (nm.at id)=some (g,u):=by
 unfold only at h;split at h
 ·exact⟨‹_›,h⟩
 ·cases h
theorem bSW {E:Enc U} {st:Nat->Prop} {id G:Nat} {x y:aC U} {v:Value} (h:aJc id G x=some y) (hx:Rel E w ρ st x v):Rel E w (only ρ id G) st y v:=by
 have L:∀{x:aC U} {v:Value},x.flat=true->Rel E w ρ st x v->Rel E w (only ρ id G) st x v:=fun hx hv=>hv.flat hx
 unfold aJc at h;split at h
 ·rename_i i off;obtain⟨hb,h⟩:=cM h;cases h;obtain rfl:=QZ hb;cases hx with
  |ptr _ _ b hp=>exact .ptr _ _ b (by rw[aEF];exact hp)
 ·rename_i i g;obtain⟨hb,h⟩:=cM h;cases h;obtain rfl:=QZ hb;cases hx with
  |osl _ _ _ hp O=>exact .osl _ _ _ (by rw[aEF];exact hp) O
  |oslOld _ _ V u _ hp S=>exact .oslOld _ _ V u _ (by rw[aEF];exact hp) S
 ·rename_i l;obtain⟨hb,h⟩:=cM h;cases h;cases hx with
  |agg _ r I J=>exact .agg l r I (fun k f=>L (JG.1 hb _ (QN f)) (J k f))
 ·obtain⟨hb,h⟩:=cM h;cases h;unfold aC.aCb at hb;split at hb
  ·cases hx with
   |fn _ _ r I J=>exact .fn _ [] r I (fun k f=>absurd f XU)
  ·exact L hb hx
theorem bSU {E:Enc U} {st:Nat->Prop} {id u:Nat}:∀(xs ys:List (aC U)) (args:List Value),aCg id u xs=some ys->args.length=xs.length->(∀k (h:k<xs.length),Rel E w ρ st xs[k] (args.getD k undef))->
  ys.length=xs.length/\∀k (h:k<ys.length),Rel E w (only ρ id u) st ys[k] (args.getD k undef):=by
 intro xs
 induction xs with
 |nil=>
  intro ys args h _ _;cases h;exact⟨rfl,fun k f=>absurd f XU⟩
 |cons x l I=>
  intro ys args h r hx;simp only[aCg] at h;split at h
  ·rename_i y m hy hm;cases h
   match args,r with
   |v::G,r=>
    obtain⟨L,J⟩:=I m G hm (by simpa using r) (fun k f=>hx (k+1) (by simpa using f));refine⟨by simp[L],fun k f=>?_⟩;cases k with
    |zero=>exact bSW hy (hx 0 XU)
    |succ k=>exact J k (by simpa using f)
  ·cases h
theorem bSV {id G:Nat}:∀(xs ys:List (aC U)) (j:Nat),ownArg j xs=some (G,id)->aCg id G xs=some ys->ownArg j ys=some (G,G):=by
 intro xs
 induction xs with
 |nil=>intro ys j h;cases h
 |cons x l I=>
  intro ys j h hy;simp only[aCg] at hy;split at hy
  ·rename_i y m f hm;cases hy;unfold aJc at f;split at f
   ·obtain⟨hb,q⟩:=cM f;cases q;cases h;rfl
   ·obtain⟨hb,q⟩:=cM f;cases q;cases h;rfl
   ·obtain⟨hb,q⟩:=cM f;cases q;exact I m (j+1) h hm
   ·rename_i u r _;obtain⟨hb,q⟩:=cM f;cases q;have e1:ownArg j (x::l)=ownArg (j+1) l:=by
     cases x<;>first|rfl|exact absurd rfl (u _ _)|exact absurd rfl (r _ _)
    have J:ownArg j (x::m)=ownArg (j+1) m:=by
     cases x<;>first|rfl|exact absurd rfl (u _ _)|exact absurd rfl (r _ _)
    rw[e1] at h;rw[J];exact I m (j+1) h hm
  ·cases hy
theorem bST {id f:Nat} {r:aC U} (h:r.nS=true):aPV id f r=r:=by
 cases r<;>first|rfl| (cases h;done)
theorem bSS {C:Cfg U} (hs:jC C w0) (h:RR C.E n N w0 ρ s a w) {look:Nat->Option (bK U)} (hlook:∀id ob,look id=some ob->s.objs id=some ob) {f:FuncId}
  {m:List (aC U)->bK U->Option (List Prop×aC U×bK U)} (hm:C.eff f=some m) {xs:List (aC U)} {args:Array Value} (hn:args.size=xs.length) (hx:∀k (h:k<xs.length),Rel C.E w ρ (bF N ρ w) xs[k] (args.getD k undef))
  {cs:List Prop} {r:aC U} {ob:Option (Nat×bK U)} (ho:aPU look m xs=some (cs,r,ob)) (hc:eQ cs):
  (callFunc f args).run C.P w=.ok (.enter f args) w/\Calls C.P f args w fun e w'=>∃v,e=.returned v/\∃ρ',RR C.E n N w0 ρ' (s.kA ob) a w'/\Rel C.E w' ρ' (bF N ρ' w') r v:=by
 unfold aPU at ho;split at ho
 ·rename_i L id hown;split at ho
  ·rename_i ob0 hl;split at ho
   ·rename_i ys hys;split at ho
    ·rename_i nH r1 pU hmr;obtain⟨hb,ho⟩:=cM ho;cases ho;simp only[QU] at hb;obtain⟨⟨nE,kH⟩,V⟩:=hb;obtain⟨hcall,hsum⟩:=hs.2 f m hm;refine⟨hcall args w,?_⟩;have hob:=h.objs _ _ (hlook _ _ hl);obtain⟨sX,hy2⟩:=bSU (E:=C.E) (st:=bF N ρ w) xs ys args.toList hys (by simpa using hn) (fun k hk=>by
      have:=hx k hk;simpa using this)
     have hdom:∀nm:Name,nm.id=id->∀g u,ρ nm=some (g,u)->ob0.simple=true->nm=.ob id:=fun nm G g u J hsi=>by
      obtain⟨o,Z,q2⟩:=h.dom _ _ _ J;rw[G,hlook _ _ hl] at Z;obtain rfl:=QW Z;obtain⟨i,rfl⟩:=q2 hsi;rw[show i=id from G]
     refine(hsum (bF N ρ w) (only ρ id L) w args L ys ob0 pU cs r1 h.below (fun b hb=>⟨hb.1,fun nm g u J=>hb.2.2 _ _ _ (uL J).2⟩) (fun nm g u J=>?_) (fun nm S g g' u u' b J I hne hb=>?_)
      (hob.closed nE (aEF ρ id L) (aRp ρ id L) (fun _ h=>h)) (by rw[hn,sX]) (fun k hk=>by simpa using hy2 k hk) nE hmr hc kH V (bSV _ _ _ hown hys)).mono ?_
     ·obtain⟨Z,q2⟩:=uL J;refine⟨Z,fun hsi=>?_⟩;have:=hdom _ (Name.qF id nm) _ _ q2 hsi;cases nm with
      |ob i=>rw[show i=L from Z]
      |mem i j=>cases this
     ·obtain⟨Z,q2⟩:=uL J;obtain⟨q3,q4⟩:=uL I;exact h.sep _ _ _ _ _ _ b q2 q4 (fun e=>hne (Name.aL5 (Z.trans q3.symm) e)) hb
     ·rintro e w' ⟨v,ρ1,rfl,hv,hob1,hd1,hch⟩
      have o1:∀nm:Name,nm.id=id->only ρ id L (nm.at L)=ρ nm:=fun nm G=>by
       unfold only;rw[JV (Name.qF L nm)];cases nm with
       |ob i=>rw[show i=id from G];rfl
       |mem i j=>rw[show i=id from G];rfl
      have b1:∀nm:Name,nm.id=id->aCr ρ ρ1 id L nm=ρ1 (nm.at L):=fun nm G=>JV G
      have c:Chg N (fun i=>i=id) w0.heap.size ρ (aCr ρ ρ1 id L) w w':=by
       refine⟨fun nm G=>JK G,fun nm g u G J=>?_,hch.below,fun b hb hne=>?_,fun nm g u b G J O=>?_,fun nm S g g' u u' b G hnm' J I hne O=>?_⟩
       ·rw[b1 nm G];exact hch.mono (nm.at L) g u (Name.qF L nm) (by rw[o1 nm G];exact J)
       ·exact hch.same b hb (fun nm g u G J=>hne (nm.at id) g u (Name.qF id nm) (uL J).2)
       ·rw[b1 nm G] at J;rcases hch.new _ g u b (Name.qF L nm) J O with ⟨S,g',u',hnm',I,hbl'⟩|hge
        ·exact .inl ⟨S.at id,g',u',Name.qF id S,(uL I).2,hbl'⟩
        ·exact .inr hge
       ·rw[b1 nm G] at J;rw[b1 S hnm'] at I;exact hch.sep _ _ _ _ _ _ b (Name.qF L nm) (Name.qF L S) J I (fun e=>hne (Name.aL5 (show nm.id=S.id from G.trans hnm'.symm) e)) O
      have hst:∀b,((bF N ρ w b\/w.heap.size<=b\/∃nm g u,only ρ id L nm=some (g,u)/\blk u=some b)/\b<w'.heap.size/\∀nm g u,ρ1 nm=some (g,u)->blk u≠some b)->bF N (aCr ρ ρ1 id L) w' b:=by
       rintro b ⟨Z,q2,q3⟩
       refine⟨q2,?_,fun nm g u J O=>?_⟩
       ·rcases Z with Z|Z|⟨nm,g,u,J,O⟩
        ·exact Z.2.1
        ·exact h.aRw Z
        ·exact h.aEG (uL J).2 O
       ·by_cases G:nm.id=id
        ·rw[b1 nm G] at J;exact q3 _ _ _ J O
        ·have nD:ρ nm=some (g,u):=by rw[<- J];exact(JK G).symm
         rcases Z with Z|Z|⟨S,g',u',I,hbl'⟩
         ·exact Z.2.2 _ _ _ nD O
         ·have:=((h.own nD).2 b O).2;omega
         ·exact h.sep _ _ _ _ _ _ b nD (uL I).2 (fun e=>by subst e;exact G (Name.qF id S)) O hbl'
      have hob2:gE C.E w' (aCr ρ ρ1 id L) (bF N (aCr ρ ρ1 id L) w') w0.heap.size id pU:=
       hob1.closed kH (b1 (.ob id) rfl) (fun j=>b1 (.mem id j) rfl) hst
      refine⟨v,rfl,aCr ρ ρ1 id L,h.change c rfl (fun i hi=>?_) (fun nm g u G J=>?_) (fun i o hi hio=>?_) (fun i o hi _=>⟨pU,by
       rw[hi];show cond (Nat.beq id id) _ _=_;rw[JS];rfl⟩),?_⟩
      ·show cond (Nat.beq i id) _ _=_;rw[iX hi];rfl
      ·have e:(s.kA (some (id,pU))).objs nm.id=some pU:=by
        show cond (Nat.beq nm.id id) _ _=_;rw[G,JS];rfl
       refine⟨pU,e,fun hsi=>?_⟩;rw[b1 nm G] at J;have:=(hd1 _ _ _ J).2 hsi;cases nm with
       |ob i=>exact⟨i,rfl⟩
       |mem i j=>cases this
      ·subst hi;have e:(s.kA (some (i,pU))).objs i=some pU:=by
        show cond (Nat.beq i i) _ _=_;rw[JS];rfl
       rw[e] at hio;obtain rfl:=QW hio;exact hob2
      ·cases hpp:r1.nS with
       |true=>
        rw[bST hpp];exact aMb hpp (hv.1 hpp)
       |false=>
        rw[hpp,XX] at V;have lM:=hv.2 V;unfold uJ at V;split at V
        ·rename_i k g1 t g2 lG;simp only[QU] at V;obtain rfl:=QZ V.1;obtain rfl:=QZ V.2;have e0:aPV id k (.osl k g1:aC U)=.osl id g1:=by
          show cond (Nat.beq k k) _ _=_;rw[JS];rfl
         rw[e0];obtain⟨u2,cs2,p1,p2,_⟩:=hob1;cases lM with
         |osl _ _ u' I hp'=>exact .osl id g1 v (by rw[b1 (.ob id) rfl];exact I) hp'
         |oslOld _ _ g' u' v I hg=>
          rw[p1] at I;simp only[QQ,QK] at I;omega
        ·cases V
    ·cases ho
   ·cases ho
  ·cases ho
 ·cases ho
end
end Go.Vm
namespace Go.Vm
open Go.RowKit
set_option linter.unusedVariables false
section
variable {U:eW} {n:Nat} {N:Nat->Prop} {w0:Fr} {w w':World} {ρ ρ':Own} {s:ASt U} {a:Act}
theorem aED {E:Enc U} (h:RR E n N w0 ρ s a w) (f:Array (Nat×Operand)):∀k (r:k<(f.toList.map fun p=>(p.1,s.eval p.2)).length) (u:k<(f.map fun (p:Nat×Operand)=>(p.1,a.eval p.2)).toList.length),
  (f.toList.map fun p=>(p.1,s.eval p.2))[k].1=(f.map fun (p:Nat×Operand)=>(p.1,a.eval p.2)).toList[k].1/\
   Rel E w ρ (bF N ρ w) (f.toList.map fun p=>(p.1,s.eval p.2))[k].2 (f.map fun (p:Nat×Operand)=>(p.1,a.eval p.2)).toList[k].2:=by
 intro k r u;simp only[List.getElem_map,Array.getElem_toList,Array.getElem_map];exact⟨trivial,h.eval _⟩
theorem bI7 {E:Enc U} {st:Nat->Prop}:∀(l:List (aC U)) (u:List Value),aHb l=some u->∀(f:List Value),f.length=l.length->(∀k (h:k<l.length),Rel E w ρ st l[k] (f.getD k undef))->f=u:=by
 intro l
 induction l with
 |nil=>
  intro u h f r _;cases h;exact List.length_eq_zero_iff.1 r
 |cons x l L=>
  intro u h f r I
  match f,r with
  |v::f,r=>
   have J:=I 0 XU;simp only[KV,List.getD_cons_zero] at J;cases x<;>simp only[aHb] at h<;>(try (cases h;done))
   split at h
   ·rename_i k n S G;cases h;cases J;rw[L _ G f (by simpa using r) (fun k O=>I (k+1) (by simpa using O))]
   ·cases h
theorem bBL {E:Enc U} {ρ':Own} {st:Nat->Prop} {x:aC U} {v:Value} (hx:x.aCb=true) (h:Rel E w ρ st x v):Rel E w ρ' st x v:=by
 unfold aC.aCb at hx;split at hx
 ·cases h with
  |fn I _ f r G=>exact .fn _ [] f r (fun k u=>absurd u XU)
 ·exact h.flat hx
theorem bBK {E:Enc U} {ρ':Own} {st:Nat->Prop} {x:aC U} {v:Value} (hx:x.yP=true) (h:Rel E w ρ st x v):Rel E w ρ' st x v:=by
 unfold aC.yP at hx;split at hx
 ·rename_i l;cases h with
  |agg _ r u G=>exact .agg l r u (fun k f=>bBL (JG.1 hx _ (QN f)) (G k f))
 ·exact bBL hx h
theorem bCV {C:Cfg U} (hs:jC C w0) (h:RR C.E n N w0 ρ s a w) {look:Nat->Option (bK U)} (I:∀id ob,look id=some ob->s.objs id=some ob) {o:Oper}
  (hfresh:∀d,o.dst=some d->look (C.off+d)=none->s.objs (C.off+d)=none) (hd:∀d,o.dst=some d->d<n) {cs:List Prop} {r:aC U} {ob:Option (Nat×bK U)} (ho:aop C o s.eval look=some (cs,r,ob)) (hc:eQ cs)
  {K:Act->World->Prop} {Q:Exit->Act->World->Prop} (hK:∀ρ' u w',RR C.E n N w0 ρ' ((s.kA ob).put o.dst r) (a.put o.dst u) w'->K (a.put o.dst u) w'):o.wp C.P a w K Q:=by
 have hstor:∀(x:aC U) v,Rel C.E w ρ (bF N ρ w) x v->storable look x=true->v.oneCell'=true:=fun x v hx hsx=>j8 h I hx hsx
 -- a value, the world as it was
 have same:∀{u:Value},(execOp a.eval o).run C.P w=.ok (.value u) w->Rel C.E w ρ (bF N ρ w) r u->ob=none->o.wp C.P a w K Q:=fun hr hu hob=>by
  subst hob;exact lP hr (hK ρ _ w (h.put o.dst hd hu))
 obtain⟨dst,op,ty,pos,after,guard⟩:=o;unfold aop at ho
 try simp only at ho
 try simp only at hK
 try simp only at hd
 try simp only at hfresh
 cases op<;>(try simp only at ho)<;>(try (cases ho;done))
 case move x=>
  simp only[val,QQ,QK] at ho;obtain⟨rfl,rfl,rfl⟩:=ho;exact same rfl (h.eval x) rfl
 case assign x=>
  simp only[val,QQ,QK] at ho;obtain⟨rfl,rfl,rfl⟩:=ho;exact same rfl (h.eval x) rfl
 case pick c x y=>
  have hcr:=h.eval c;have L:=h.eval x;have hyr:=h.eval y;have G:∀b,a.eval c=.bool b->(execOp a.eval {dst:=dst,op:=.pick c x y,type:=ty,pos:=pos,after:=after,guard:=guard}).run C.P w=.ok (.value (if b then a.eval x else a.eval y)) w:=fun b hb=>by
   simp[execOp,hb,asBool]
  split at ho
  ·rename_i b bx byv kH qB sX;simp only[val,QQ,QK] at ho;obtain⟨rfl,rfl,rfl⟩:=ho;rw[kH] at hcr;rw[qB] at L;rw[sX] at hyr;generalize hce:a.eval c=vc at hcr;cases hcr;refine same (G _ hce) ?_ rfl;generalize a.eval x=vx at L;generalize a.eval y=vy at hyr;cases L;cases hyr;cases b<;>exact .bool _
  ·rename_i b kH _;rw[kH] at hcr;generalize hce:a.eval c=vc at hcr;cases hcr;cases b
   ·simp only[val,QQ,QK] at ho;obtain⟨rfl,rfl,rfl⟩:=ho;exact same (G _ hce) hyr rfl
   ·simp only[val,QQ,QK] at ho;obtain⟨rfl,rfl,rfl⟩:=ho;exact same (G _ hce) L rfl
  ·cases ho
 case alloc t=>
  split at ho
  ·rename_i d;split at ho
   ·rename_i J;split at ho
    ·rename_i x hx;simp only[QQ,QK] at ho;obtain⟨rfl,rfl,rfl⟩:=ho;obtain⟨w',ρ',G,hR,hp⟩:=bWC h (hfresh d rfl J) hx;refine lP (u:=.pointer (some ⟨w.heap.size,0,none⟩)) (w':=w') ?_ (hK ρ' _ w' (hR.put (some d) hd (.ptr (C.off+d) 0 _ hp)));simp[execOp,G]
    ·split at ho
     ·rename_i l hz;simp only[QQ,QK] at ho;obtain⟨rfl,rfl,rfl⟩:=ho;obtain⟨w',ρ',G,hR,hp⟩:=bWB h (hfresh d rfl J) hz;refine lP (u:=.pointer (some ⟨w.heap.size,0,none⟩)) (w':=w') ?_ (hK ρ' _ w' (hR.put (some d) hd (.ptr (C.off+d) 0 _ hp)));simp[execOp,G]
     ·cases ho
   ·cases ho
  ·cases ho
 case box t x=>
  split at ho
  ·rename_i d;split at ho
   ·rename_i J;have hbb:=cM ho;clear ho;obtain⟨hb,ho⟩:=hbb;simp only[QQ,QK] at ho;obtain⟨rfl,rfl,rfl⟩:=ho;obtain⟨w',ρ',G,hR,hp⟩:=bVW (P:=C.P) h I (hfresh d rfl J) t (h.eval x) hb;refine lP (u:=.pointer (some ⟨w.heap.size,0,none⟩)) (w':=w') ?_ (hK ρ' _ w' (hR.put (some d) hd (.ptr (C.off+d) 0 _ hp)));show ((do pure (Next.value (<- Instr.box t (a.eval x)))):Sem Next).run C.P w=_;simp only[QM,G,QP,JU]
   ·cases ho
  ·cases ho
 case build t V=>
  split at ho
  ·rename_i pl z hpl hz;split at ho
   ·rename_i l J;simp only[val,QQ,QK] at ho;obtain⟨rfl,rfl,rfl⟩:=ho;obtain⟨q,G,O⟩:=bVP (E:=C.E) (w:=w) (ρ:=ρ) hstor hpl hz (parts':=V.map fun (p:Nat×Operand)=>(p.1,a.eval p.2)) XU (aED h V) J;refine same ?_ O rfl;show ((do pure (Next.value (<- Instr.build t (V.map fun (p:Nat×Operand)=>(p.1,a.eval p.2)))):Sem Next)).run C.P w=_;simp only[QM,G,QP,JU]
   ·cases ho
  ·cases ho
 case buildSlice t len V=>
  split at ho
  ·rename_i d τ hτ;split at ho
   ·rename_i z J hz;have hbb:=cM ho;clear ho;obtain⟨hb,ho⟩:=hbb;simp only[QU] at hb;split at ho
    ·rename_i l hfl;split at ho
     ·rename_i xs hxs;cases hpu:C.pur with
      |true=>
       rw[hpu,QX] at ho;simp only[QQ,QK] at ho;obtain⟨rfl,rfl,rfl⟩:=ho;obtain⟨q,w',G,hR,O⟩:=bVQ h I hτ hz (QZ hb.1) (QO hb.2) (parts':=V.map fun (p:Nat×Operand)=>(p.1,a.eval p.2)) XU (aED h V) hfl hxs;refine lP (u:=q) (w':=w') ?_ (hK ρ _ w' (hR.put (some d) hd O));show ((do pure (Next.value (<- Instr.buildSlice t len (V.map fun (p:Nat×Operand)=>(p.1,a.eval p.2)))):Sem Next)).run C.P w=_;simp only[QM,G,QP,JU]
      |false=>
      rw[hpu,QJ] at ho;split at ho
      ·simp only[QQ,QK] at ho;obtain⟨rfl,rfl,rfl⟩:=ho;obtain⟨q,w',ρ',G,hR,O⟩:=bCG h I (hfresh d rfl J) hτ hz (QZ hb.1) (QO hb.2) (parts':=V.map fun (p:Nat×Operand)=>(p.1,a.eval p.2)) XU (aED h V) hfl hxs;refine lP (u:=q) (w':=w') ?_ (hK ρ' _ w' (hR.put (some d) hd O));show ((do pure (Next.value (<- Instr.buildSlice t len (V.map fun (p:Nat×Operand)=>(p.1,a.eval p.2)))):Sem Next)).run C.P w=_;simp only[QM,G,QP,JU]
      ·obtain⟨_,ho⟩:=bT1 ho;simp only[QQ,QK] at ho;obtain⟨rfl,rfl,rfl⟩:=ho;obtain⟨q,w',ρ',G,hR,O⟩:=bCG h I (hfresh d rfl J) hτ hz (QZ hb.1) (QO hb.2) (parts':=V.map fun (p:Nat×Operand)=>(p.1,a.eval p.2)) XU (aED h V) hfl hxs;obtain⟨hR2,lM⟩:=hR.bBb (m:=C.off+d) (gm:=0) (t1:=τ) (ys:=xs) (by simp[ASt.obj]);have e:(s.obj (C.off+d) (.row τ 0 xs)).obj (C.off+d) (.row τ (0+1) [])=s.obj (C.off+d) (.row τ 1 []):=by
        simp only[ASt.obj,ASt.mk.injEq,true_and];funext q;cases Nat.beq q (C.off+d)<;>rfl
       rw[e] at hR2;refine lP (u:=q) (w':=w') ?_ (hK _ _ w' (hR2.put (some d) hd (lM O)));show ((do pure (Next.value (<- Instr.buildSlice t len (V.map fun (p:Nat×Operand)=>(p.1,a.eval p.2)))):Sem Next)).run C.P w=_;simp only[QM,G,QP,JU]
     ·cases ho
    ·cases ho
   ·cases ho
  ·cases ho
 case makeSlice t x y=>
  split at ho
  ·rename_i d τ hτ;split at ho
   ·rename_i z i J hz hi;split at ho
    ·rename_i e k c k' m he hx hy;obtain⟨hb,ho⟩:=cM ho;simp only[QU] at hb;split at ho
     ·cases ho
     simp only[QQ,QK] at ho;obtain⟨rfl,rfl,rfl⟩:=ho;obtain⟨nE,rfl,rT⟩:=hc;have L:=h.eval x;have hyr:=h.eval y;rw[hx] at L;rw[hy] at hyr;obtain⟨q,w',ρ',G,hR,O⟩:=bN9 h (hfresh d rfl J) hτ hz (QZ hb.1) he hi (QO hb.2) (k:=k) (k':=k') nE rT;refine lP (u:=q) (w':=w') ?_ (hK ρ' _ w' (hR.put (some d) hd O));generalize Z:a.eval x=vx at L;generalize hye:a.eval y=vy at hyr;cases L;cases hyr;show ((do pure (Next.value (<- Instr.makeSlice t (a.eval x) (a.eval y))):Sem Next)).run C.P w=_;rw[Z,hye];simp only[QM,G,QP,JU]
    ·cases ho
   ·cases ho
  ·cases ho
 case load t p=>
  split at ho
  ·rename_i l off hb;obtain⟨b,o',f,hv,hat⟩:=bCJ h I (h.eval p) hb;unfold val? at ho;split at ho
   ·rename_i x hx;simp only[QQ,QK] at ho;obtain⟨rfl,rfl,rfl⟩:=ho;obtain⟨u,G,hu⟩:=aVy hx hat;refine same ?_ hu rfl;simp only[execOp,hv,Instr.loadAt,Instr.sureAddr,QM,JU,QP,G]
   ·cases ho
  ·obtain⟨hob,ad,u,hv,G,hu⟩:=bNj (P:=C.P) h I (h.eval p) ho hc;refine same ?_ hu hob;simp only[execOp,hv,Instr.loadAt,Instr.sureAddr,QM,JU,QP,G]
 case store t p x=>
  split at ho
  ·rename_i m hm;have hbb:=cM ho;clear ho;obtain⟨hb,ho⟩:=hbb;split at ho
   ·rename_i ob' hob;simp only[QQ,QK] at ho;obtain⟨rfl,rfl,rfl⟩:=ho;obtain⟨id,obj⟩:=ob';obtain⟨w',ρ',G,hR⟩:=bFY (P:=C.P) h I (h.eval p) (h.eval x) hob hm (QZ hb);refine aPz (w':=w') ?_ (hK ρ' _ w' (hR.put dst hd (.raw _)));simp[execOp,G]
   ·split at ho
    ·rename_i ob' hob;simp only[QQ,QK] at ho;obtain⟨rfl,rfl,rfl⟩:=ho;obtain⟨id,obj⟩:=ob';have h1:(s.eval x).cellsOf.length=1:=bQl hob;obtain⟨w',ρ',G,hR⟩:=bQk (P:=C.P) h I (h.eval p) (h.eval x) hob (t:=t) (by rw[hm,<- QZ hb,h1]);refine aPz (w':=w') ?_ (hK ρ' _ w' (hR.put dst hd (.raw _)));simp[execOp,G]
    ·cases ho
  ·cases ho
 case binOp op xt x y yt=>
  split at ho
  ·rename_i r' hab;simp only[val,QQ,QK] at ho;obtain⟨rfl,rfl,rfl⟩:=ho;obtain⟨q,G,O⟩:=bWG (P:=C.P) (a:=a) (X:=x) (h.eval x) hab;refine same ?_ O rfl;simp only[execOp,QM] at G ⊢;rw[G];rfl
  ·split at ho
   ·rename_i cs' r' hab;simp only[QQ,QK] at ho;obtain⟨rfl,rfl,rfl⟩:=ho;obtain⟨q,G,O⟩:=bWQ (C:=C) (t:=xt) (X:=x) (Y:=y) (h.eval x) (h.eval y) hab hc;refine same ?_ O rfl;simp only[execOp,QM] at G ⊢;rw[G];rfl
   ·cases ho
 case convert src dt x=>
  split at ho
  ·rename_i d1 k k1 n1 hsr hdt Z;simp only[val,QQ,QK] at ho;obtain⟨rfl,rfl,rfl⟩:=ho;have L:=h.eval x;rw[Z] at L;generalize hve:a.eval x=vx at L;cases L;refine same (u:=.int k (k.wrap n1)) ?_ (.int _ _) rfl;simp[execOp,convert,QR hsr,QR hdt,Conv.intToInt,hve]
  ·cases ho
 case unOp op xt x=>
  unfold val? at ho;split at ho
  ·rename_i r' hab;simp only[QQ,QK] at ho;obtain⟨rfl,rfl,rfl⟩:=ho;obtain⟨q,G,O⟩:=bVk (P:=C.P) (h.eval x) hab;refine same ?_ O rfl;simp[execOp,G]
  ·cases ho
 case fieldAddr t x f=>
  split at ho
  ·rename_i fo hfo;obtain⟨q,G,O,hob⟩:=bQt (P:=C.P) (look:=look) hfo (h.eval x) ho (fun id g i off sz hst=>by
    unfold storable at hst;simp only at hst;split at hst
    ·rename_i t' g' xs J;obtain rfl:=QZ hst;obtain⟨u,_,h1,_⟩:=h.objs _ _ (I _ _ J);exact⟨u,h1⟩
    ·cases hst) (fun id i g j off sz hst=>aSO h I hst)
   refine same ?_ O hob;simp[execOp,G]
  ·cases ho
 case nilCheck x=>
  have G:∀ad,a.eval x=.pointer (some ad)->(execOp a.eval {dst:=dst,op:=.nilCheck x,type:=ty,pos:=pos,after:=after,guard:=guard}).run C.P w=.ok (.value (a.eval x)) w:=fun ad hp=>by
   simp[execOp,hp]
  have L:=h.eval x;split at ho
  ·rename_i id off Z;simp only[val,QQ,QK] at ho;obtain⟨rfl,rfl,rfl⟩:=ho;rw[Z] at L;refine same ?_ L rfl;generalize hfv:a.eval x=fv at L G ⊢;cases L with
   |ptr _ _ b hb=>exact G _ rfl
  ·rename_i id g i off sz Z;obtain⟨hst,ho⟩:=cM ho;simp only[val,QQ,QK] at ho;obtain⟨rfl,rfl,rfl⟩:=ho;rw[Z] at L;refine same ?_ L rfl;generalize hfv:a.eval x=fv at L G ⊢;cases L with
   |eptr _ _ _ _ _ b n' cap hr hi=>exact G _ rfl
   |eptrOld _ _ _ _ _ g' u v hr hg=>
    unfold storable at hst;simp only at hst;split at hst
    ·rename_i t' g'' xs J;obtain rfl:=QZ hst;obtain⟨u',_,h1,_⟩:=h.objs _ _ (I _ _ J);rw[h1] at hr;simp only[QQ,QK] at hr;omega
    ·cases hst
  ·rename_i id i g j off sz Z;obtain⟨hst,ho⟩:=cM ho;simp only[val,QQ,QK] at ho;obtain⟨rfl,rfl,rfl⟩:=ho;rw[Z] at L;refine same ?_ L rfl;generalize hfv:a.eval x=fv at L G ⊢;cases L with
   |meptr _ _ _ _ _ _ b n' cap hr hi=>exact G _ rfl
   |meptrOld _ _ _ _ _ _ g' u v hr hg=>
    have:=aSO h I hst _ _ hr;omega
  ·rename_i l off Z;simp only[val,QQ,QK] at ho;obtain⟨rfl,rfl,rfl⟩:=ho;rw[Z] at L;refine same ?_ L rfl;generalize hfv:a.eval x=fv at L G ⊢;cases L with
   |ref _ _ b o f hb hc J=>exact G _ rfl
  ·cases ho
 case makeFunc fn first captured=>
  split at ho
  ·rename_i f;obtain⟨h0,ho⟩:=cM ho;simp only[val,QQ,QK] at ho;obtain⟨rfl,rfl,rfl⟩:=ho;have rR:first.size=0:=QZ h0;have hfe:first=#[]:=Array.eq_empty_of_size_eq_zero rR
   subst hfe;refine same (u:=.func (.func f) #[] (captured.map a.eval)) ?_ (.fn f _ _ XU (fun k hk=>?_)) rfl
   ·simp[execOp,Instr.makeFunc]
   ·have hk':k<captured.size:=by simpa using hk
    have:=h.eval captured[k];simpa[hk'] using this
  ·cases ho
 case field t x f=>
  split at ho
  ·rename_i fields hu;split at ho
   ·rename_i fl l hfl J;unfold val? at ho;split at ho
    ·rename_i y hy;simp only[QQ,QK] at ho;obtain⟨rfl,rfl,rfl⟩:=ho;have hx:=h.eval x;rw[J] at hx;generalize hve:a.eval x=vx at hx;cases hx with
     |agg _ vs hn hr=>
      obtain⟨q,G,O⟩:=aCV (w:=w) hy hn hr;refine same ?_ O rfl;simp[execOp,hve,Instr.field,QR hu,hfl,asAgg,G]
    ·cases ho
   ·cases ho
  ·cases ho
 case indexAddr t x ix=>
  split at ho
  ·rename_i k i hix;have hi:=h.eval ix;rw[hix] at hi;generalize hve:a.eval ix=vi at hi;cases hi;split at ho
   ·rename_i q0 iY;obtain rfl:=QW ho;obtain⟨hob,q,G,O⟩:=bOn (k:=k) h I (h.eval x) iY hc;refine same ?_ O hob;simp[execOp,hve,G]
   ·obtain⟨hob,q,G,O⟩:=bOm (k:=k) h I (h.eval x) ho hc;refine same ?_ O hob;simp[execOp,hve,G]
  ·cases ho
 case index t x ix=>
  split at ho
  ·rename_i k i hix;have hi:=h.eval ix;rw[hix] at hi;generalize hve:a.eval ix=vi at hi;cases hi;obtain⟨hob,q,G,O⟩:=bOl (k:=k) (h.eval x) ho hc;refine same ?_ O hob;simp[execOp,hve,G]
  ·cases ho
 case slice t x lo hi mx=>
  cases mx with
  |some m=>cases ho
  |none=>
   have ho':uD C t (s.eval x) (lo.map s.eval) (hi.map s.eval)=some (cs,r,ob):=by
    cases lo<;>cases hi<;>exact ho
   obtain⟨hob,q,G,O⟩:=bFl (lo':=lo.map a.eval) (hi':=hi.map a.eval) (h.eval x)
    (fun y hy=>by
     obtain⟨z,hz,rfl⟩:=Option.map_eq_some_iff.1 hy;exact⟨a.eval z,by rw[hz];rfl,h.eval z⟩) (fun e=>by
     cases lo with
     |none=>rfl
     |some q=>cases e)
    (fun y hy=>by
     obtain⟨z,hz,rfl⟩:=Option.map_eq_some_iff.1 hy;exact⟨a.eval z,by rw[hz];rfl,h.eval z⟩) (fun e=>by
     cases hi with
     |none=>rfl
     |some q=>cases e) ho' hc
   refine same ?_ O hob;simp[execOp,G]
 case makeInterface t x=>
  split at ho
  ·rename_i fields l hu hx;split at ho
   ·rename_i vs hvs;simp only[val,QQ,QK] at ho;obtain⟨rfl,rfl,rfl⟩:=ho;have L:=h.eval x;rw[hx] at L;generalize hve:a.eval x=vx at L;cases L with
    |agg _ ws hn J=>
     have e:ws=vs.toArray:=by
      have:=bI7 l vs hvs ws.toList (by simpa using hn) (fun k hk=>by simpa using J k hk);rw[<- this]
     subst e;refine same (u:=.iface t (.agg vs.toArray)) ?_ (.raw _) rfl;simp[execOp,Instr.makeInterface,QR hu,hve]
   ·cases ho
  ·cases ho
 case lookup t m x ok=>
  split at ho
  ·rename_i k nn hm hx;split at ho
   ·rename_i f hf;simp only[val,QQ,QK] at ho;obtain⟨rfl,rfl,rfl⟩:=ho;have hmr:=h.eval m;have L:=h.eval x;rw[hm] at hmr;rw[hx] at L;generalize hve:a.eval m=vm at hmr;generalize hvx:a.eval x=vx at L;cases hmr with
    |frz _ _ hr=>
     cases L;obtain⟨u,b,G,r1,r2,f1,f2⟩:=C.frzOK k t f hf w _ _ nn hr;refine same (u:=.tuple #[u,b]) ?_ (.tup _ _ rfl (fun j hj=>match j,hj with
      |0,_=>bBK f1 r1
      |1,_=>r2.flat f2)) rfl
     simp[execOp,hve,hvx,G]
   ·cases ho
  ·cases ho
 case extract t i=>
  split at ho
  ·rename_i l J;unfold val? at ho;split at ho
   ·rename_i y hy;simp only[QQ,QK] at ho;obtain⟨rfl,rfl,rfl⟩:=ho;have hx:=h.eval t;rw[J] at hx;generalize hve:a.eval t=vx at hx;cases hx with
    |tup _ vs hn hr=>
     have hlt:i<l.length:=(QA.1 hy).1;have hyy:=(QA.1 hy).2;have:=hr i hlt;rw[hyy] at this;refine same (u:=vs.getD i undef) ?_ this rfl;have h2:i<vs.size:=XY;simp[execOp,hve,Instr.extract,h2]
   ·cases ho
  ·cases ho
 case call c=>
  obtain⟨callee,args,argTypes⟩:=c;simp only at ho;split at ho
  ·-- len
   split at ho
   ·rename_i x t hargs hts;split at ho
    ·rename_i m hm;simp only[val,QQ,QK] at ho;obtain⟨rfl,rfl,rfl⟩:=ho;have S:args=#[x]:=by rw[<- JA (xs:=args),hargs]
     have hts':argTypes=#[t]:=by rw[<- JA (xs:=argTypes),hts]
     subst S;subst hts';have hx:=h.eval x;have G:(Builtin.len_ #[t] ty #[a.eval x]).run C.P w=.ok (.int .i64 m) w:=by
      unfold bCZ at hm;split at hm
      ·rename_i b hu Z;rw[Z] at hx;generalize a.eval x=vx at hx;cases hx;obtain rfl:=QW hm;simp[Builtin.len_,QR hu,goInt]
      ·rename_i e τ xs hu Z;rw[Z] at hx;generalize a.eval x=vx at hx;obtain rfl:=QW hm;cases hx
       ·simp[Builtin.len_,QR hu,goInt]
       ·simp[Builtin.len_,QR hu,goInt]
       ·simp[Builtin.len_,QR hu,goInt]
      ·rename_i e hu Z;rw[Z] at hx;generalize a.eval x=vx at hx;obtain rfl:=QW hm;cases hx;simp[Builtin.len_,QR hu,goInt]
      ·rename_i e id g hu Z;split at hm
       ·rename_i τ g' xs J;have hbb:=cM hm;clear hm;obtain⟨hb,hm⟩:=hbb;obtain rfl:=QW hm;obtain rfl:=QZ hb;rw[Z] at hx;obtain⟨u,cs',h1,hp,h2,h3⟩:=h.objs _ _ (I _ _ J);generalize a.eval x=vx at hx;cases hx with
        |osl _ _ u' hr' hp'=>
         rw[h1] at hr';simp only[QQ,QK,true_and] at hr';subst hr';rcases h2.2 with ⟨rfl,h0⟩|⟨gb,cap,cur,rfl,_⟩
         ·simp[Builtin.len_,QR hu,goInt,h0]
         ·simp[Builtin.len_,QR hu,goInt]
        |oslOld _ _ g' u' v hr' hg=>
         rw[h1] at hr';simp only[QQ,QK] at hr';omega
       ·rename_i τ g' gm xs J;have hbb:=cM hm;clear hm;obtain⟨hb,hm⟩:=hbb;obtain rfl:=QW hm;obtain rfl:=QZ hb;rw[Z] at hx;obtain⟨u,cs',h1,hp,h2,h3⟩:=h.objs _ _ (I _ _ J);generalize a.eval x=vx at hx;cases hx with
        |osl _ _ u' hr' hp'=>
         rw[h1] at hr';simp only[QQ,QK,true_and] at hr';subst hr';rcases h2.2 with ⟨rfl,h0⟩|⟨gb,cap,cur,rfl,_⟩
         ·simp[Builtin.len_,QR hu,goInt,h0]
         ·simp[Builtin.len_,QR hu,goInt]
        |oslOld _ _ g' u' v hr' hg=>
         rw[h1] at hr';simp only[QQ,QK] at hr';omega
       ·cases hm
      ·rename_i e id i g hu Z;split at hm
       ·rename_i t1 ys hmr;obtain rfl:=QW hm;rw[Z] at hx;have hms:=aCY h I hmr;generalize a.eval x=vx at hx;cases hx with
        |msl _ _ _ u hr'=>
         obtain⟨_,ds,hp,h2,h3⟩:=hms _ _ hr';rcases h2.2 with ⟨rfl,h0⟩|⟨gb,cap,cur,rfl,_⟩
         ·simp[Builtin.len_,QR hu,goInt,h0]
         ·simp[Builtin.len_,QR hu,goInt]
        |mslOld _ _ _ g' u' v hr' hg=>
         have:=(hms _ _ hr').1;omega
       ·cases hm
      ·rename_i e id g lo hi sz hu Z;split at hm
       ·rename_i τ g' xs J;have hbb:=cM hm;clear hm;obtain⟨hb,hm⟩:=hbb;obtain rfl:=QW hm;obtain rfl:=QZ hb;rw[Z] at hx;obtain⟨u,cs',h1,hp,h2,h3⟩:=h.objs _ _ (I _ _ J);generalize a.eval x=vx at hx;cases hx with
        |ovw _ _ _ _ _ u' ad c hr' hp' hl' had=>simp[Builtin.len_,QR hu,goInt]
        |ovwOld _ _ _ _ _ g' u' v hr' hg=>
         rw[h1] at hr';simp only[QQ,QK] at hr';omega
       ·cases hm
      ·rename_i k e hu;obtain rfl:=QW hm;simp[Builtin.len_,QR hu,goInt]
      ·cases hm
     refine same ?_ (.int _ _) rfl;simp[execOp,resolve,invoke,builtin,G]
    ·cases ho
   ·cases ho
  ·-- min
   unfold val? at ho;split at ho
   ·rename_i y hy;simp only[QQ,QK] at ho;obtain⟨rfl,rfl,rfl⟩:=ho;unfold aSL at hy;split at hy
    ·rename_i k x k' y' J;split at hy
     ·rename_i hk;subst hk;obtain rfl:=QW hy;obtain⟨p,q,hpq⟩:∃p q,args.toList=[p,q]:=by
       match O:args.toList with
       |[p,q]=>exact⟨p,q,rfl⟩
       |[]=>rw[O] at J;simp at J
       |[_]=>rw[O] at J;simp at J
       |_::_::_::_=>rw[O] at J;simp at J
      have S:args=#[p,q]:=by rw[<- JA (xs:=args),hpq]
      subst S;simp only[List.map_cons,List.map_nil,List.cons.injEq,and_true] at J;have hp:=h.eval p;have O:=h.eval q;rw[J.1] at hp;rw[J.2] at O;generalize hpe:a.eval p=vp at hp;generalize hqe:a.eval q=vq at O;cases hp;cases O;refine same (u:=.int k (if y'<x then y' else x)) ?_ (.int _ _) rfl;simp[execOp,resolve,invoke,builtin,Builtin.min_,Builtin.min2,hpe,hqe]
     ·cases hy
    ·rename_i k x k' y' k'' z J;split at hy
     ·rename_i hk;obtain⟨rP,fC⟩:=hk;subst rP;subst fC;obtain rfl:=QW hy;obtain⟨p,q,r,hpq⟩:∃p q r,args.toList=[p,q,r]:=by
       match O:args.toList with
       |[p,q,r]=>exact⟨p,q,r,rfl⟩
       |[]=>rw[O] at J;simp at J
       |[_]=>rw[O] at J;simp at J
       |[_,_]=>rw[O] at J;simp at J
       |_::_::_::_::_=>rw[O] at J;simp at J
      have S:args=#[p,q,r]:=by rw[<- JA (xs:=args),hpq]
      subst S;simp only[List.map_cons,List.map_nil,List.cons.injEq,and_true] at J;have hp:=h.eval p;have O:=h.eval q;have hr:=h.eval r;rw[J.1] at hp;rw[J.2.1] at O;rw[J.2.2] at hr;generalize hpe:a.eval p=vp at hp;generalize hqe:a.eval q=vq at O;generalize hre:a.eval r=vr at hr;cases hp;cases O;cases hr;refine same (u:=.int k (if z<(if y'<x then y' else x) then z else (if y'<x then y' else x))) ?_ (.int _ _) rfl;simp[execOp,resolve,invoke,builtin,Builtin.min_,Builtin.min2,hpe,hqe,hre]
     ·cases hy
    ·cases hy
   ·cases ho
  ·-- max
   unfold val? at ho;split at ho
   ·rename_i y hy;simp only[QQ,QK] at ho;obtain⟨rfl,rfl,rfl⟩:=ho;unfold aSP at hy;split at hy
    ·rename_i k x k' y' J;split at hy
     ·rename_i hk;subst hk;obtain rfl:=QW hy;obtain⟨p,q,hpq⟩:∃p q,args.toList=[p,q]:=by
       match O:args.toList with
       |[p,q]=>exact⟨p,q,rfl⟩
       |[]=>rw[O] at J;simp at J
       |[_]=>rw[O] at J;simp at J
       |_::_::_::_=>rw[O] at J;simp at J
      have S:args=#[p,q]:=by rw[<- JA (xs:=args),hpq]
      subst S;simp only[List.map_cons,List.map_nil,List.cons.injEq,and_true] at J;have hp:=h.eval p;have O:=h.eval q;rw[J.1] at hp;rw[J.2] at O;generalize hpe:a.eval p=vp at hp;generalize hqe:a.eval q=vq at O;cases hp;cases O;refine same (u:=.int k (if x<y' then y' else x)) ?_ (.int _ _) rfl;simp[execOp,resolve,invoke,builtin,Builtin.max_,Builtin.max2,hpe,hqe]
     ·cases hy
    ·rename_i k x k' y' k'' z J;split at hy
     ·rename_i hk;obtain⟨rP,fC⟩:=hk;subst rP;subst fC;obtain rfl:=QW hy;obtain⟨p,q,r,hpq⟩:∃p q r,args.toList=[p,q,r]:=by
       match O:args.toList with
       |[p,q,r]=>exact⟨p,q,r,rfl⟩
       |[]=>rw[O] at J;simp at J
       |[_]=>rw[O] at J;simp at J
       |[_,_]=>rw[O] at J;simp at J
       |_::_::_::_::_=>rw[O] at J;simp at J
      have S:args=#[p,q,r]:=by rw[<- JA (xs:=args),hpq]
      subst S;simp only[List.map_cons,List.map_nil,List.cons.injEq,and_true] at J;have hp:=h.eval p;have O:=h.eval q;have hr:=h.eval r;rw[J.1] at hp;rw[J.2.1] at O;rw[J.2.2] at hr;generalize hpe:a.eval p=vp at hp;generalize hqe:a.eval q=vq at O;generalize hre:a.eval r=vr at hr;cases hp;cases O;cases hr;refine same (u:=.int k (if (if x<y' then y' else x)<z then z else (if x<y' then y' else x))) ?_ (.int _ _) rfl;simp[execOp,resolve,invoke,builtin,Builtin.max_,Builtin.max2,hpe,hqe,hre]
     ·cases hy
    ·rename_i x1 x2 x3 x4 x5 J;obtain rfl:=QW hy;obtain⟨p1,p2,p3,p4,p5,hpq⟩:∃p1 p2 p3 p4 p5,args.toList=[p1,p2,p3,p4,p5]:=by
      match O:args.toList with
      |[p1,p2,p3,p4,p5]=>exact⟨p1,p2,p3,p4,p5,rfl⟩
      |[]=>rw[O] at J;simp at J
      |[_]=>rw[O] at J;simp at J
      |[_,_]=>rw[O] at J;simp at J
      |[_,_,_]=>rw[O] at J;simp at J
      |[_,_,_,_]=>rw[O] at J;simp at J
      |_::_::_::_::_::_::_=>rw[O] at J;simp at J
     have S:args=#[p1,p2,p3,p4,p5]:=by rw[<- JA (xs:=args),hpq]
     subst S;simp only[List.map_cons,List.map_nil,List.cons.injEq,and_true] at J;obtain⟨l1,l2,l3,l4,l5⟩:=J;have ev:∀{p:Operand} {x:Int},s.eval p=.int .i64 x->a.eval p=.int .i64 x:=fun {p x} e=>by
      have:=h.eval p;rw[e] at this;generalize a.eval p=u at this;cases this;rfl
     have m2:∀a b:Int,Builtin.max2 (.int .i64 a) (.int .i64 b)=pure (.int .i64 (sU a b)):=fun a b=>by
      simp only[Builtin.max2,sU,gt_iff_lt]
     refine same (u:=.int .i64 (sU (sU (sU (sU x1 x2) x3) x4) x5)) ?_ (.int _ _) rfl;simp[execOp,resolve,invoke,builtin,Builtin.max_,m2,ev l1,ev l2,ev l3,ev l4,ev l5]
    ·cases hy
   ·cases ho
  ·-- append
   split at ho
   ·rename_i d x y hargs;have S:args=#[x,y]:=by rw[<- JA (xs:=args),hargs]
    subst S;obtain⟨q,w',ρ',G,hR,O⟩:=bWR (ty:=ty) h I (hfresh d rfl) (h.eval x) (h.eval y) ho hc;refine lP (u:=q) (w':=w') ?_ (hK ρ' _ w' (hR.put (some d) hd O));simp[execOp,resolve,invoke,builtin,G]
   ·cases ho
  ·-- a function
   rename_i x;split at ho
   ·rename_i f caps Z;have L:=h.eval x;rw[Z] at L;generalize hfv:a.eval x=fv at L;cases L with
    |fn _ _ vs hvn hvl=>
    have hargsz:(args.map a.eval++vs).size=(args.toList.map s.eval++caps).length:=by simp[hvn]
    have hrel:∀k (hk:k<(args.toList.map s.eval++caps).length),Rel C.E w ρ (bF N ρ w) (args.toList.map s.eval++caps)[k] ((args.map a.eval++vs).getD k undef):=fun k hk=>by
     by_cases hk':k<args.size
     ·have e:(args.map a.eval++vs).getD k undef=a.eval args[k]:=by simp[Array.getElem?_append,hk']
      rw[e];rw[JO (by simpa using hk')];simp only[List.getElem_map,Array.getElem_toList];exact h.eval _
     ·have fC:k-args.size<caps.length:=by simp at hk;omega
      have e:(args.map a.eval++vs).getD k undef=vs.getD (k-args.size) undef:=by
       have:k-args.size<vs.size:=XY;simp[Array.getElem?_append,hk']
      rw[e,List.getElem_append_right (by simp;omega)];have:=hvl (k-args.size) fC;simpa using this
    have fin:((callFunc f (args.map a.eval++vs)).run C.P w=.ok (.enter f (args.map a.eval++vs)) w/\Calls C.P f (args.map a.eval++vs) w fun e w'=>∃v,e=.returned v/\∃ρ',RR C.E n N w0 ρ' (s.kA ob) a w'/\Rel C.E w' ρ' (bF N ρ' w') r v)->
      Oper.wp C.P {dst:=dst,op:=.call {callee:=.value x,args:=args,argTypes:=argTypes},type:=ty,pos:=pos,after:=after,guard:=guard} a w K Q:=by
     rintro ⟨hcall,hcalls⟩
     refine aGJ (f:=f) (args:=args.map a.eval++vs) ?_ (hcalls.mono ?_)
     ·have e:#[]++args.map a.eval=args.map a.eval:=XU;simp[execOp,resolve,hfv,Deferred.ofValue,invoke,hcall]
     ·rintro e w' ⟨v,rfl,ρ',hR,hv⟩
      exact⟨v,rfl,hK ρ' v w' (hR.put dst hd hv)⟩
    split at ho
    ·exact fin (bTt hs h I (dst:=dst.map (C.off+·)) (fun d0 hd0 rO=>by
      obtain⟨d1,e1,rfl⟩:=Option.map_eq_some_iff.1 hd0;exact hfresh d1 e1 rO) (args:=args.map a.eval++vs) hargsz hrel ho hc)
    ·rename_i m hm;exact fin (bSS hs h I hm (args:=args.map a.eval++vs) hargsz hrel ho hc)
   ·cases ho
  ·cases ho
end
end Go.Vm
namespace Go.Vm
open Go.RowKit
set_option linter.unusedVariables false
section
variable {U:eW} {n:Nat} {N:Nat->Prop} {w0:Fr} {w w':World} {ρ ρ':Own} {s s':ASt U} {a:Act}
def sO (ρ:Own) (id:Nat) (p:Option (Nat×Value)) (f:Nat->Option (Nat×Value)):Own:=fun nm=>if nm.id=id then (match nm with | .ob _=>p | .mem _ i=>f i) else ρ nm
theorem aDg {id:Nat} {p:Option (Nat×Value)} {f:Nat->Option (Nat×Value)} {nm:Name} (h:nm.id≠id):sO ρ id p f nm=ρ nm:=by unfold sO;rw[JK h]
theorem aMU {id:Nat} {p:Option (Nat×Value)} {f:Nat->Option (Nat×Value)}:sO ρ id p f (.ob id)=p:=JV rfl
theorem aMV {id i:Nat} {p:Option (Nat×Value)} {f:Nat->Option (Nat×Value)}:sO ρ id p f (.mem id i)=f i:=JV rfl
theorem bFA {E:Enc U} (h:RR E n N w0 ρ s a w) {m id:Nat} (hmi:m≠id) {ρ':Own} (hout:∀nm:Name,nm.id≠m->nm.id≠id->ρ' nm=ρ nm)
  (L:∀(nm:Name) g u,(nm.id=m\/nm.id=id)->ρ nm=some (g,u)->ρ' nm=some (g,u)\/((∀a,u≠ .pointer a)/\∃S O,ρ' nm=some (S,O)/\g<S))
  (hw:Below w0.heap.size w w') (J:∀b,b<w.heap.size->(∀(nm:Name) g u,(nm.id=m\/nm.id=id)->ρ nm=some (g,u)->blk u≠some b)->w'.heap[b]?=w.heap[b]?)
  (src:Name->Name) (r:∀(nm:Name) g u b,(nm.id=m\/nm.id=id)->ρ' nm=some (g,u)->blk u=some b->((src nm).id=m\/(src nm).id=id)/\((∃g0 V,ρ (src nm)=some (g0,V)/\blk V=some b)\/(nm=.ob id/\w.heap.size<=b)))
  (hinj:∀(nm f:Name) g S u O b b',(nm.id=m\/nm.id=id)->(f.id=m\/f.id=id)->ρ' nm=some (g,u)->ρ' f=some (S,O)->blk u=some b->blk O=some b'->src nm=src f->nm=f):
  Chg N (fun q=>q=m\/q=id) w0.heap.size ρ ρ' w w':=by
 refine⟨fun nm hn=>hout nm (fun e=>hn (.inl e)) (fun e=>hn (.inr e)),L,hw,J,fun nm g u b hd hr hb=>?_,fun nm f g S u O b hd hd' hr Z hne hb hb'=>?_⟩
 ·obtain⟨h1,h2⟩:=r nm g u b hd hr hb;rcases h2 with ⟨g0,V,q1,q2⟩|⟨_,q⟩
  ·exact .inl ⟨src nm,g0,V,h1,q1,q2⟩
  ·exact .inr q
 ·obtain⟨_,h2⟩:=r nm g u b hd hr hb;obtain⟨_,h2'⟩:=r f S O b hd' Z hb';rcases h2 with ⟨g0,V,q1,q2⟩|⟨e,q⟩
  ·rcases h2' with ⟨g1,u1,I,G⟩|⟨e',q'⟩
   ·exact h.sep _ _ _ _ _ _ b q1 I (fun e=>hne (hinj _ _ _ _ _ _ _ _ hd hd' hr Z hb hb' e)) q2 G
   ·have:=((h.own q1).2 b q2).2;omega
  ·rcases h2' with ⟨g1,u1,I,G⟩|⟨e',q'⟩
   ·have:=((h.own I).2 b G).2;omega
   ·exact hne (e.trans e'.symm)
theorem bK6 {E:Enc U} (h:RR E n N w0 ρ s a w) {id:Nat} {ρ':Own} (hout:∀nm:Name,nm.id≠id->ρ' nm=ρ nm)
  (J:∀(nm:Name) g u,nm.id=id->ρ nm=some (g,u)->ρ' nm=some (g,u)\/((∀a,u≠ .pointer a)/\∃O u',ρ' nm=some (O,u')/\g<O))
  (hw:Below w0.heap.size w w') (I:∀b,b<w.heap.size->(∀(nm:Name) g u,nm.id=id->ρ nm=some (g,u)->blk u≠some b)->w'.heap[b]?=w.heap[b]?)
  (x0:Name) (f:∀(nm:Name) g u b,nm.id=id->ρ' nm=some (g,u)->blk u=some b->(∃g0 L,ρ nm=some (g0,L)/\blk L=some b)\/(nm=x0/\w.heap.size<=b)):
  Chg N (fun q=>q=id) w0.heap.size ρ ρ' w w':=by
 refine⟨fun nm hn=>hout nm hn,J,hw,I,fun nm g u b hd hr hb=>?_,fun nm S g O u u' b hd hd' hr V Z hb hb'=>?_⟩
 ·rcases f nm g u b hd hr hb with ⟨g0,L,q1,q2⟩|⟨_,q⟩
  ·exact .inl ⟨nm,g0,L,hd,q1,q2⟩
  ·exact .inr q
 ·rcases f nm g u b hd hr hb with ⟨g0,L,q1,q2⟩|⟨e,q⟩
  ·rcases f S O u' b hd' V hb' with ⟨g1,u1,G,r⟩|⟨e',q'⟩
   ·exact h.sep _ _ _ _ _ _ b q1 G Z q2 r
   ·have:=((h.own q1).2 b q2).2;omega
  ·rcases f S O u' b hd' V hb' with ⟨g1,u1,G,r⟩|⟨e',q'⟩
   ·have:=((h.own G).2 b r).2;omega
   ·exact Z (e.trans e'.symm)
theorem bLb (s:ASt U) (id d:Nat) (y:bK U) (v:aC U):(∀q,q≠id->((s.obj id y).set d v).objs q=s.objs q)/\((s.obj id y).set d v).objs id=some y:=by
 refine⟨fun q f=>?_,?_⟩
 ·show cond (Nat.beq q id) _ _=_;rw[iX f];rfl
 ·show cond (Nat.beq id id) _ _=_;rw[JS];rfl
def o6 (C:Cfg U) (look:Nat->Option (bK U)) (t:TypeId) (x:aC U) (f hi:Option (aC U)):Out U:=
 match C.deep,C.P.underlying t,x with
 |false,some (.slice e),.osl id g=>match look id with
  |some (.row τ r xs)=>cond (Nat.beq g r&&(match jZ C.P e with|some q=>Nat.beq q (U.size τ)|none=>false)) (match f,hi with
   |some (.int _ l),some (.int _ h)=>some ([0<=l/\l<=h/\h<=xs.length],.ovw id g l.toNat h.toNat (U.size τ),none)
   |some (.int _ l),none=>some ([0<=l/\l<=xs.length],.ovw id g l.toNat xs.length (U.size τ),none)
   |none,some (.int _ h)=>some ([0<=h/\h<=xs.length],.ovw id g 0 h.toNat (U.size τ),none)
   |_,_=>none) none
  |_=>none
 |_,_,_=>none
theorem aMO {C:Cfg U} (h:RR C.E n N w0 ρ s a w) {look:Nat->Option (bK U)} (L:∀id ob,look id=some ob->s.objs id=some ob) {t:TypeId} {x:aC U} {v:Value} (hx:Rel C.E w ρ (bF N ρ w) x v) {lo hi:Option (aC U)} {lo' hi':Option Value}
  (V:∀y,lo=some y->∃v,lo'=some v/\Rel C.E w ρ (bF N ρ w) y v) (hlo0:lo=none->lo'=none)
  (Z:∀y,hi=some y->∃v,hi'=some v/\Rel C.E w ρ (bF N ρ w) y v) (hhi0:hi=none->hi'=none)
  {cs:List Prop} {r:aC U} {ob:Option (Nat×bK U)} (ho:o6 C look t x lo hi=some (cs,r,ob)) (hc:eQ cs):
  ob=none/\∃q,(Instr.sliceAt t v lo' hi' none).run C.P w=.ok q w/\Rel C.E w ρ (bF N ρ w) r q:=by
 unfold o6 at ho;split at ho
 ·rename_i e id g hdp hu;split at ho
  ·rename_i τ g' xs hid;have hbb:=cM ho;clear ho;obtain⟨hb,ho⟩:=hbb;simp only[QU] at hb;obtain rfl:=QZ hb.1;obtain⟨ti,J,O⟩:=xZ hb.2;rw[aMP hu (fun _ _ e=>by cases e)];obtain⟨u1,csx,h1,S,h2,_⟩:=h.objs _ _ (L _ _ hid);have hu1:u1=v:=by
    cases hx with
    |osl _ _ u' G hp'=>
     rw[h1] at G;simp only[QQ,QK,true_and] at G;exact G
    |oslOld _ _ g' u' v G hg=>
     rw[h1] at G;simp only[QQ,QK] at G;omega
   subst hu1
   -- the slice's value
   obtain⟨ad,f,rfl,hcap,u⟩:∃(ad:Option Addr) (f:Nat),u1=.slice ad xs.length f/\xs.length<=f/\∀(l m:Nat),l<=m->m<=xs.length->Rel C.E w ρ (bF N ρ w) (.ovw id g l m (U.size τ)) (.slice (if f=l then ad else ad.map (·.add (l*U.size τ))) (m-l) (f-l)):=by
    rcases h2.2 with ⟨rfl,lE⟩|⟨gb,f,cur,rfl,hbase,hgb,hn,hcm,hcs,htake⟩
    ·refine⟨none,0,by rw[lE],XY,fun l m hl hm=>?_⟩;have rO:l=0:=XY;have hm0:m=0:=XY;subst rO;subst hm0;exact .ovw id g 0 0 (U.size τ) _ none 0 h1 S (JX _) (.inl ⟨rfl,rfl,rfl⟩)
    ·refine⟨some ⟨gb,0,none⟩,f,rfl,hn,fun l m hl hm=>?_⟩;refine .ovw id g l m (U.size τ) _ _ (f-l) h1 S hl (.inr ⟨gb,xs.length,f,if f=l then 0 else l*U.size τ,rfl,hm,?_,fun hlt=>by rw[JK XY],XY⟩)
     by_cases hcl:f=l
     ·rw[JV hcl,JV hcl]
     ·rw[JK hcl,JK hcl,Option.map_some,addr_add,JW]
   split at ho
   ·rename_i kl l kh I;simp only[QQ,QK] at ho;obtain⟨rfl,rfl,rfl⟩:=ho;obtain⟨_,rfl,mP⟩:=V _ rfl;obtain⟨_,rfl,lM⟩:=Z _ rfl;cases mP;cases lM;have h0:0<=l/\l<=I/\I<=xs.length:=hc;have cQ:=qW (P:=C.P) (w:=w) (k:=kh) (code:=.sliceAcap) (show 0<=I/\I<=f by omega);have dE:=qW (P:=C.P) (w:=w) (k:=kl) (code:=.sliceB) (show 0<=l/\l<=I.toNat by omega);refine⟨rfl,_,?_,u l.toNat I.toNat XY XY⟩;simp[Instr.slice,Instr.sliceBounds,QR hu,cQ,dE,sizeOf,typeInfo,J,O]
   ·rename_i kl l;simp only[QQ,QK] at ho;obtain⟨rfl,rfl,rfl⟩:=ho;obtain⟨_,rfl,mP⟩:=V _ rfl;obtain rfl:=hhi0 rfl;cases mP;have h0:0<=l/\l<=xs.length:=hc;have dE:=qW (P:=C.P) (w:=w) (k:=kl) (code:=.sliceB) (show 0<=l/\l<=xs.length by omega);refine⟨rfl,_,?_,u l.toNat xs.length XY (JX _)⟩;simp[Instr.slice,Instr.sliceBounds,QR hu,dE,sizeOf,typeInfo,J,O]
   ·rename_i kh I;simp only[QQ,QK] at ho;obtain⟨rfl,rfl,rfl⟩:=ho;obtain⟨_,rfl,lM⟩:=Z _ rfl;obtain rfl:=hlo0 rfl;cases lM;have h0:0<=I/\I<=xs.length:=hc;have cQ:=qW (P:=C.P) (w:=w) (k:=kh) (code:=.sliceAcap) (show 0<=I/\I<=f by omega);have:=u 0 I.toNat XY XY;refine⟨rfl,_,?_,this⟩;simp[Instr.slice,Instr.sliceBounds,QR hu,cQ,sizeOf,typeInfo,J]
   ·cases ho
  ·cases ho
 ·cases ho
def aKI (C:Cfg U) (look:Nat->Option (bK U)) (d:Nat) (t:TypeId) (len:Nat):List (Nat×aC U)->Out U
 |[(0,.osl m f)]=>match oK C t,look d,zeroCells (U:=U) C.P (match oK C t with|some τ=>U.ety τ|none=>0) with
  |some τ,none,some z=>cond (C.deep&&!C.pur&&storable look (.osl m f)&&Nat.beq len 1&&Nat.beq (U.size τ) 1&&Nat.beq z.length (U.size τ)) (some ([],.osl d 0,some (d,.one τ 0 m f))) none
  |_,_,_=>none
 |_=>none
theorem bVR {C:Cfg U} (h:RR C.E n N w0 ρ s a w) {look:Nat->Option (bK U)} (hlook:∀id ob,look id=some ob->s.objs id=some ob) {d:Nat} (hf:look d=none->s.objs d=none) {t:TypeId} {len:Nat}
  {f:List (Nat×aC U)} {parts':Array (Nat×Value)} (hpl:f.length=parts'.size)
  (hp:∀k (h:k<f.length) (h':k<parts'.toList.length),f[k].1=parts'.toList[k].1/\Rel C.E w ρ (bF N ρ w) f[k].2 parts'.toList[k].2)
  {cs:List Prop} {r:aC U} {ob:Option (Nat×bK U)} (ho:aKI C look d t len f=some (cs,r,ob)):
  ∃v' w' ρ',(Instr.buildSlice t len parts').run C.P w=.ok v' w'/\RR C.E n N w0 ρ' (s.kA ob) a w'/\Rel C.E w' ρ' (bF N ρ' w') r v':=by
 unfold aKI at ho;split at ho
 ·rename_i m gm;split at ho
  ·rename_i τ z hτ hfree hz;obtain⟨hb,ho⟩:=cM ho;cases ho;simp only[QU] at hb;obtain⟨⟨⟨⟨_,hst⟩,cQ⟩,nW⟩,uY⟩:=hb;obtain rfl:=QZ cQ;have G:=QZ nW;have hzl:=QZ uY;rw[hτ] at hz;simp only at hz;obtain⟨hu,i,hi,Z⟩:=aCA hτ;obtain⟨zv,hzr,hzsz,hzrel⟩:=aB5 (E:=C.E) (w:=w) (ρ:=ρ) hz;have hps:parts'.toList.length=1:=by simpa using hpl.symm
   obtain⟨q1,q2⟩:=hp 0 XU XY;simp only[KV] at q1 q2;obtain⟨⟨i0,V⟩,hpe⟩:∃x,parts'.toList=[x]:=List.length_eq_one_iff.1 hps;simp only[hpe,KV] at q1 q2;subst q1;have hpe':parts'=#[(0,V)]:=by rw[<- JA (xs:=parts'),hpe]
   subst hpe';have hone:V.oneCell'=true:=j8 h hlook q2 hst;have hcu:V.cells=#[V]:=cells_one hone;have J:((Array.range (1*1)).map (fun k=>zv.cells[k % zv.cells.size]!)).size=1:=XU;have hfill:Instr.fill (fun i=>some (i*1,1)) ((Array.range (1*1)).map (fun k=>zv.cells[k % zv.cells.size]!)) [(0,V)]=some #[V]:=by
    generalize (Array.range (1*1)).map (fun k=>zv.cells[k % zv.cells.size]!)=base at J;obtain⟨b0,rfl⟩:∃b0,base=#[b0]:=by
     obtain⟨l⟩:=base;simp only[KB] at J;obtain⟨x,rfl⟩:=List.length_eq_one_iff.1 J;exact⟨x,rfl⟩
    simp[Instr.fill,hcu]
   have I:=hf hfree;have hnone:=h.j6 I
   let w2:=w.alloc (.cells #[V] (U.ety τ))
   let vn:Value:=.slice (some ⟨w.heap.size,0,none⟩) 1 1
   have hvn:∀a,vn≠ .pointer a:=fun a e=>by
    have e':(Value.slice (some ⟨w.heap.size,0,none⟩) 1 1)=.pointer a:=e;cases e'
   have L:Below w.heap.size w w2:=(Below.refl _ _).alloc (JX _) _;have hold:∀g u,ρ (.ob d)=some (g,u)->(g=0/\u=vn)\/((∀a,u≠ .pointer a)/\g<0):=fun g u hr=>(hnone _ _ hr).elim
   have S:∀b,b<w.heap.size->(∀g u,ρ (.ob d)=some (g,u)->blk u≠some b)->w2.heap[b]?=w.heap[b]?:=fun b hb _=>L.block b hb
   have hnew:∀b,blk vn=some b->(∃g u,ρ (.ob d)=some (g,u)/\blk u=some b)\/(w.heap.size<=b):=fun b hb=>by
    have hb':some w.heap.size=some b:=hb;cases hb';exact .inr (JX _)
   have O:∀ob,s.objs d=some ob->ob.simple=true:=fun ob ho=>by rw[I] at ho;cases ho
   refine⟨vn,w2,dU ρ d 0 vn,?_,h.upd d 0 vn (.one τ 0 m gm) O hold (L.mono h.below.size) S hnew ?_,.osl d 0 vn (by simp[dU]) hvn⟩
   ·have tA:¬1*i.size > 2^24:=by rw[Z,G];simp
    have h0:¬1*i.size=0:=by rw[Z,G];simp
    rw[Z,G] at tA h0;simp only[Instr.buildSlice,QM,QR hu,QP,sizeOf,typeInfo,run_program,hi,JU,Z,G,JK tA,JK h0,hzr,hfill,newRow,run_newObj];rfl
   ·refine⟨vn,[V],by simp[dU],hvn,⟨by simp[G],.inr ⟨w.heap.size,1,#[V],rfl,h.below.size,heap_alloc_new w _,XU,by unfold maxLen;omega,by simp[G],by simp[G]⟩⟩,G,?_,hone⟩;exact h.xJ d 0 vn O hold (L.mono h.below.size) S hnew q2
  ·cases ho
 ·cases ho
def aPh (C:Cfg U) (look:Nat->Option (bK U)) (d:Nat) (G:List TypeId) (x y:aC U):Out U:=
 match G,y with
 |[t,t'],.osl q L=>cond (Nat.beq t t') (match oK C t,look q with
  |some τ,some (.one r I m f)=>match C.P.info? (U.ety τ),rV τ r [] with
   |some i,some _=>match i.zero with
    |some z=>cond (Nat.beq z.cells.size (U.size τ)&&Nat.ble 1 i.bytes&&Nat.beq L I) (match x with
     | .nils=>match look d with
      |none=>some ([i.bytes<=140737488355328],.osl d 0,some (d,.deepF τ 0 0 [] m f))
      |some _=>none
     | .osl id g=>match look id with
      |some (.deep u O J xs)=>match rV τ u xs with
       |some us=>cond (Nat.beq g O) (some ([(us.length+1)*i.bytes<=140737488355328],.osl id (g+1),some (id,.deepF τ (g+1) J us m f))) none
       |none=>none
      |_=>none
     |_=>none) none
    |none=>none
   |_,_=>none
  |_,_=>none) none
 |_,_=>none
theorem bVq {C:Cfg U} (h:RR C.E n N w0 ρ s a w) {look:Nat->Option (bK U)} (hlook:∀id ob,look id=some ob->s.objs id=some ob) {d:Nat} (hf:look d=none->s.objs d=none)
  {argTypes:Array TypeId} {ty:TypeId} {x y:aC U} {u v:Value} (hx:Rel C.E w ρ (bF N ρ w) x u) (hy:Rel C.E w ρ (bF N ρ w) y v)
  {cs:List Prop} {r:aC U} {ob:Option (Nat×bK U)} (ho:aPh C look d argTypes.toList x y=some (cs,r,ob)) (hc:eQ cs):
  ∃V w' ρ',(Builtin.append_ argTypes ty #[u,v]).run C.P w=.ok V w'/\RR C.E n N w0 ρ' (s.kA ob) a w'/\Rel C.E w' ρ' (bF N ρ' w') r V:=by
 unfold aPh at ho;split at ho
 ·rename_i t t' q gq hat;have hbo:=cM ho;clear ho;obtain⟨hb,ho⟩:=hbo;obtain rfl:=QZ hb;have hargs:argTypes=#[t,t]:=by rw[<- JA (xs:=argTypes),hat]
  subst hargs;split at ho
  ·rename_i τ S gy m gm hτ hq;split at ho
   ·rename_i i l0 hi hcast;obtain⟨rfl,_⟩:=tC hcast;split at ho
    ·rename_i z hz;have hbo:=cM ho;clear ho;obtain⟨dE,ho⟩:=hbo;simp only[QU] at dE;obtain⟨⟨hzs,hby⟩,hgy⟩:=dE;have hzs:=QZ hzs;have hby:=QO hby;obtain rfl:=QZ hgy;obtain⟨hu,i',hi',his⟩:=aCA hτ;rw[hi] at hi';obtain rfl:=QW hi';obtain⟨uy,csy,y1,y2,y3,y4,y5,y6⟩:=h.objs _ _ (hlook _ _ hq);have hvy:uy=v:=by
      cases hy with
      |osl _ _ u' f hp'=>
       rw[y1] at f;simp only[QQ,QK,true_and] at f;exact f
      |oslOld _ _ L u' v f hg=>
       rw[y1] at f;simp only[QQ,QK] at f;omega
     subst hvy;have hcy:aPx w 1 (U.size S) (fun _=>csy.getD 0 undef) uy:=by
      rcases y3.2 with ⟨G,lE⟩|⟨gb,cap,cur,heq,hbase,hgb,hn,hcm,hcs,htake⟩
      ·cases lE
      ·refine .inr ⟨gb,0,cap,heq,hn,fun j hj=>?_⟩;rw[y4,Nat.mul_one] at hj;have hj0:j=0:=XY;subst hj0;rw[y4,Nat.one_mul] at htake;have h6:csy[0]?=cur[0]?:=by
        rw[<- htake,JH,JV XY];simp
       have hlt:0<csy.length:=by rw[y3.1,y4];omega
       refine⟨?_,y6⟩;rw[JL,cell_of_row w gb 0 cur _ (0,0) hgb,<- h6];simp[hlt]
     -- both forms in one
     have main:∀(id L gx:Nat) (xs:List (U.T S)) (nH:List Value),(∀ob,s.objs id=some ob->ob.simple=false)->w.ownsRow w0.heap.size (U.ety S) (U.size S) u xs.length nH->(∀a,u≠ .pointer a)->
       ((∃g,ρ (.ob id)=some (g,u)/\g<L)\/(ρ (.ob id)=none/\u=.slice none 0 0))->(∀j,xs.length<=j->ρ (.mem id j)=none)->
       (∀j (hj:j<xs.length),∃t1 ys v ds,C.E.enc S xs[j]=[.sl t1 ys]/\ρ (.mem id j)=some (gx,v)/\nH.getD j undef=v/\(∀a,v≠ .pointer a)/\w.ownsRow w0.heap.size (U.ety t1) (U.size t1) v ys.length ds/\
        ∀i (h:i<ys.length) k (hk:k<(C.E.enc t1 ys[i]).length),Rel C.E w ρ (bF N ρ w) (C.E.enc t1 ys[i])[k] (ds.getD (i*U.size t1+k) undef))->
       (xs.length+1)*i.bytes<=140737488355328->
       ∃V w' ρ',(Builtin.append_ #[t,t] ty #[u,uy]).run C.P w=.ok V w'/\RR C.E n N w0 ρ' (s.kA (some (id,.deepF S L gx xs m gm))) a w'/\Rel C.E w' ρ' (bF N ρ' w') (.osl id L) V:=by
      intro id L gx xs nH hids hown Z hob hno hmem hbytes;obtain⟨V,w',hrun,hown',J,hpv,hblk⟩:=bCT (P:=C.P) (ty:=ty) (base:=w0.heap.size) hu hi hz his hzs (C.E.pos S) hby hown Z hcy hbytes h.below.size
      let ρ2:Own:=sO ρ id (some (L,V)) (fun j=>ρ (.mem id j))
      have eid:ρ2 (.ob id)=some (L,V):=aMU;have O:∀j,ρ2 (.mem id j)=ρ (.mem id j):=fun j=>aMV
      have c:Chg N (fun q=>q=id) w0.heap.size ρ ρ2 w w':=by
       refine bK6 h (fun nm hn=>aDg hn) (fun nm g1 u1 hd iH=>?_) ((Below.refl _ _).grown J h.below.size (fun k hk=>?_)) (fun b hb hne=>J.block b hb (fun e=>?_)) (.ob id) (fun nm g1 u1 b hd iH hb=>?_)
       ·cases nm with
        |ob q=>
         obtain rfl:q=id:=hd;rcases hob with ⟨g0,G,hg⟩|⟨G,_⟩
         ·rw[iH] at G;cases G;exact .inr ⟨Z,_,_,eid,hg⟩
         ·rw[iH] at G;cases G
        |mem q j=>
         obtain rfl:q=id:=hd;exact .inl (by rw[O];exact iH)
       ·rcases hob with ⟨g0,G,_⟩|⟨_,G⟩
        ·exact((h.own G).2 k (by rw[<- pT Z];exact hk)).1
        ·rw[G] at hk;cases hk
       ·rcases hob with ⟨g0,G,_⟩|⟨_,G⟩
        ·exact hne (.ob id) g0 u rfl G (by rw[<- pT Z];exact e.symm)
        ·rw[G] at e;cases e
       ·cases nm with
        |ob q=>
         obtain rfl:q=id:=hd;rw[eid] at iH;cases iH;rcases hblk b hb with hb'|hb'
         ·rcases hob with ⟨g0,G,_⟩|⟨_,G⟩
          ·exact .inl ⟨g0,u,G,hb'⟩
          ·rw[G] at hb';cases hb'
         ·exact .inr ⟨rfl,hb'⟩
        |mem q j=>
         obtain rfl:q=id:=hd;rw[O] at iH;exact .inl ⟨_,_,iH,hb⟩
      have keep:∀{nm:Name} {g1:Nat} {u1:Value} {e:TypeId} {m k:Nat} {cs:List Value},nm≠ .ob id->ρ nm=some (g1,u1)->(∀a,u1≠ .pointer a)->w.ownsRow w0.heap.size e m u1 k cs->w'.ownsRow w0.heap.size e m u1 k cs:=fun {nm g1 u1 e m k cs} hne iH uV hw=>by
       refine hw.kept J ?_;rw[pT Z,pT uV];cases hq1:blk u1 with
       |none=>exact .inl rfl
       |some b=>
        rcases hob with ⟨g0,G,_⟩|⟨_,G⟩
        ·exact .inr (fun e=>h.sep _ _ _ _ _ _ b iH G hne hq1 e.symm)
        ·exact .inr (fun e=>by rw[G] at e;cases e)
      obtain⟨o1,o3⟩:=bLb s id 0 (.deepF S L gx xs m gm) .any;have hR:=h.change (s':=s.obj id (.deepF S L gx xs m gm)) c rfl (fun q hq=>o1 q hq) (fun nm g u hq hr=>?_) (fun p ob hp ho=>?_) (fun q ob hq _=>⟨_,(congrArg _ hq).trans o3⟩)
      ·exact⟨V,w',ρ2,hrun,hR,.osl id L V eid hpv⟩
      ·exact⟨_,by rw[hq];exact o3,fun e=>by cases e⟩
      ·subst hp;rw[show (s.obj p (.deepF S L gx xs m gm)).objs p=some (.deepF S L gx xs m gm) from o3] at ho;cases ho;have hcl:nH.length=xs.length:=by rw[hown.1,y4,Nat.mul_one]
       have hlast:(nH++(List.range (1*U.size S)).map fun _=>csy.getD 0 undef).getD xs.length undef=csy.getD 0 undef:=by
        rw[y4,<- hcl];simp
       refine⟨V,_,eid,hpv,hown',y4,fun j hj=>by rw[O];exact hno j hj,by rw[hlast];exact c.rel y5,fun j hj=>?_⟩;obtain⟨t1,ws,v1,ds,r1,r2,r3,r4,r5,r6⟩:=hmem j hj;refine⟨t1,ws,v1,ds,r1,by rw[O];exact r2,?_,r4,keep (fun e=>by cases e) r2 r4 r5,fun i hi k hk=>c.rel (r6 i hi k hk)⟩;rw[<- r3];simp[List.getElem?_append,show j<nH.length by omega]
     split at ho
     ·split at ho
      ·rename_i hfree;cases ho;cases hx;have I:=hf hfree;have hnone:=h.j6 I;exact main d 0 0 [] [] (fun ob ho=>by rw[I] at ho;cases ho) (JE _ _ _ _) (fun a e=>by cases e) (.inr ⟨by
        cases hq:ρ (.ob d) with
        |none=>rfl
        |some p=>exact(hnone p.1 p.2 hq).elim,rfl⟩) (fun j _=>h.aEI (fun ob ho=>by rw[I] at ho;cases ho) j) (fun j hj=>absurd hj XU) (by
        have:i.bytes<=140737488355328:=hc;simpa using this)
      ·cases ho
     ·rename_i id g;split at ho
      ·rename_i τx L gx lG hid;split at ho
       ·rename_i us hus;obtain⟨nW,ho⟩:=cM ho;cases ho;obtain rfl:=QZ nW;obtain⟨rfl,rfl⟩:=tC hus;have hid':=hlook _ _ hid;obtain⟨ux,csx,x1,x2,x3,x4,x5,x6⟩:=h.objs _ _ hid';have hvx:ux=u:=by
         cases hx with
         |osl _ _ u' f hp'=>
          rw[x1] at f;simp only[QQ,QK,true_and] at f;exact f
         |oslOld _ _ L u' v f hg=>
          rw[x1] at f;simp only[QQ,QK] at f;omega
        subst hvx;exact main id (g+1) gx lG csx (fun ob ho=>by rw[hid'] at ho;cases ho;rfl) x3 x2 (.inl ⟨g,x1,XY⟩) x5 x6 hc
       ·cases ho
      ·cases ho
     ·cases ho
    ·cases ho
   ·cases ho
  ·cases ho
 ·cases ho
def aA2 (C:Cfg U) (o:Oper) (f:Operand->aC U) (look:Nat->Option (bK U)):Out U:=
 match o.op with
 | .slice t x u hi none=>match u,hi with
  |some u,some hi=>o6 C look t (f x) (some (f u)) (some (f hi))
  |some u,none=>o6 C look t (f x) (some (f u)) none
  |none,some hi=>o6 C look t (f x) none (some (f hi))
  |none,none=>none
 | .buildSlice t len r=>match o.dst with
  |some d=>aKI C look (C.off+d) t len (r.toList.map fun p=>(p.1,f p.2))
  |none=>none
 | .call c=>match c.callee,c.args.toList with
  | .builtin .append,[x,y]=>match o.dst with
   |some d=>aPh C look (C.off+d) c.argTypes.toList (f x) (f y)
   |none=>none
  |_,_=>none
 |_=>none
def zA (C:Cfg U) (o:Oper) (f:Operand->aC U) (look:Nat->Option (bK U)):Out U:=
 match aA2 C o f look with
 |some r=>some r
 |none=>match C.hook o (o.op.operands.toList.map f) with
  |some (u,r)=>some (u,r,none)
  |none=>none
def rW (C:Cfg U) (o:Oper) (f:Operand->aC U) (look:Nat->Option (bK U)):Out U:=
 match aop C o f look with
 |some r=>some r
 |none=>zA C o f look
theorem bCW {C:Cfg U} (hs:jC C w0) (h:RR C.E n N w0 ρ s a w) {look:Nat->Option (bK U)} (G:∀id ob,look id=some ob->s.objs id=some ob) {o:Oper}
  (I:∀d,o.dst=some d->look (C.off+d)=none->s.objs (C.off+d)=none) (hd:∀d,o.dst=some d->d<n) {cs:List Prop} {r:aC U} {ob:Option (Nat×bK U)} (ho:rW C o s.eval look=some (cs,r,ob)) (hc:eQ cs)
  {K:Act->World->Prop} {Q:Exit->Act->World->Prop} (hK:∀ρ' u w',RR C.E n N w0 ρ' ((s.kA ob).put o.dst r) (a.put o.dst u) w'->K (a.put o.dst u) w'):o.wp C.P a w K Q:=by
 unfold rW at ho;split at ho
 ·rename_i r0 nD;cases ho;exact bCV hs h G I hd nD hc hK
 ·rename_i lE;clear lE;unfold zA at ho;split at ho
  rotate_left
  ·split at ho
   ·rename_i cs1 r1 rP;simp only[QQ,QK] at ho;obtain⟨rfl,rfl,rfl⟩:=ho;obtain⟨u,hu,hwp⟩:=C.hookOK o _ _ _ rP hc a w (fun k v hk=>by
     simp only[KM,Option.map_eq_some_iff] at hk ⊢;obtain⟨x,hx,e⟩:=hk;refine⟨x,hx,?_⟩;have J:=h.eval x;rw[e] at J;generalize a.eval x=u at J;cases J;rfl) (fun k kd n hk=>by
     simp only[KM,Option.map_eq_some_iff] at hk ⊢;obtain⟨x,hx,e⟩:=hk;refine⟨x,hx,?_⟩;have J:=h.eval x;rw[e] at J;generalize a.eval x=u at J;cases J;rfl)
    exact hwp K Q (fun w' hb=>hK ρ u w' ((h.ext hb).put o.dst hd (hu w' ρ (bF N ρ w'))))
   ·cases ho
  rename_i r0 nD;cases ho;have ho:=nD;clear nD;obtain⟨dst,op,ty,pos,S,O⟩:=o;unfold aA2 at ho
  try simp only at ho
  try simp only at hK
  try simp only at hd
  try simp only at I
  have same:∀{u:Value},(execOp a.eval ⟨dst,op,ty,pos,S,O⟩).run C.P w=.ok (.value u) w->Rel C.E w ρ (bF N ρ w) r u->ob=none->Oper.wp C.P ⟨dst,op,ty,pos,S,O⟩ a w K Q:=fun hr hu hob=>by
   subst hob;exact lP hr (hK ρ _ w (h.put dst hd hu))
  cases op<;>(try simp only at ho)<;>(try (cases ho;done))
  case slice t x Z hi mx=>
   cases mx with
   |some _=>cases ho
   |none=>
    have fin:∀{lo' hi':Option Value} {q:Value},(Instr.sliceAt t (a.eval x) lo' hi' none).run C.P w=.ok q w->lo'=Z.map a.eval->hi'=hi.map a.eval->Rel C.E w ρ (bF N ρ w) r q->ob=none->Oper.wp C.P ⟨dst,.slice t x Z hi none,ty,pos,S,O⟩ a w K Q:=fun {lo' hi' q} f e1 e2 V hob=>by
     subst e1;subst e2;refine same ?_ V hob;cases Z<;>cases hi<;>simp_all[execOp]
    cases Z with
    |some Z=>
     cases hi with
     |some hi=>
      obtain⟨rfl,q,f,V⟩:=aMO h G (h.eval x) (lo':=some (a.eval Z)) (hi':=some (a.eval hi)) (fun y e=>by cases e;exact⟨_,rfl,h.eval Z⟩) (fun e=>by cases e) (fun y e=>by cases e;exact⟨_,rfl,h.eval hi⟩) (fun e=>by cases e) ho hc;exact fin f rfl rfl V rfl
     |none=>
      obtain⟨rfl,q,f,V⟩:=aMO h G (h.eval x) (lo':=some (a.eval Z)) (hi':=none) (fun y e=>by cases e;exact⟨_,rfl,h.eval Z⟩) (fun e=>by cases e) (fun y e=>by cases e) (fun _=>rfl) ho hc;exact fin f rfl rfl V rfl
    |none=>
     cases hi with
     |some hi=>
      obtain⟨rfl,q,f,V⟩:=aMO h G (h.eval x) (lo':=none) (hi':=some (a.eval hi)) (fun y e=>by cases e) (fun _=>rfl) (fun y e=>by cases e;exact⟨_,rfl,h.eval hi⟩) (fun e=>by cases e) ho hc;exact fin f rfl rfl V rfl
     |none=>cases ho
  case buildSlice t len L=>
   split at ho
   ·rename_i d;obtain⟨q,w',ρ',f,hR,V⟩:=bVR h G (I d rfl) (parts':=L.map fun (p:Nat×Operand)=>(p.1,a.eval p.2)) XU (aED h L) ho;refine lP (u:=q) (w':=w') ?_ (hK ρ' _ w' (hR.put (some d) hd V));show ((do pure (Next.value (<- Instr.buildSlice t len (L.map fun (p:Nat×Operand)=>(p.1,a.eval p.2)))):Sem Next)).run C.P w=_;simp only[QM,f,QP,JU]
   ·cases ho
  case call c=>
   obtain⟨callee,args,argTypes⟩:=c;simp only at ho;split at ho
   ·rename_i x y hargs;have hargs':args=#[x,y]:=by rw[<- JA (xs:=args),hargs]
    subst hargs';split at ho
    ·rename_i d;obtain⟨q,w',ρ',f,hR,V⟩:=bVq (ty:=ty) h G (I d rfl) (h.eval x) (h.eval y) ho hc;refine lP (u:=q) (w':=w') ?_ (hK ρ' _ w' (hR.put (some d) hd V));simp[execOp,resolve,invoke,builtin,f]
    ·cases ho
   ·cases ho
end
end Go.Vm
namespace Go.Vm
open Go.RowKit
set_option linter.unusedVariables false
section
variable {U:eW} {n:Nat} {N:Nat->Prop} {w0:Fr} {w w':World} {ρ ρ':Own} {s s':ASt U} {a:Act}
theorem bLa (s:ASt U) (m id d:Nat) (f:m≠id) (x y:bK U) (v:aC U):(∀q,q≠m->q≠id->(((s.obj m x).obj id y).set d v).objs q=s.objs q)/\(((s.obj m x).obj id y).set d v).objs m=some x/\(((s.obj m x).obj id y).set d v).objs id=some y:=by
 refine⟨fun q u r=>?_,?_,?_⟩
 ·show cond (Nat.beq q id) _ (cond (Nat.beq q m) _ _)=_;rw[iX u,iX r];rfl
 ·show cond (Nat.beq m id) _ (cond (Nat.beq m m) _ _)=_;rw[iX f,JS];rfl
 ·show cond (Nat.beq id id) _ _=_;rw[JS];rfl
end
end Go.Vm
