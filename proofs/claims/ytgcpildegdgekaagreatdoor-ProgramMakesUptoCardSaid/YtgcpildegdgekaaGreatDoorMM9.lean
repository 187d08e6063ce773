/- Lemmas, walks and laws of this proof, part 9. Conditions: those that each names. -/
import Derived.Test.YtgcpildegdgekaaGreatDoorMM8
set_option maxRecDepth 100000
set_option linter.unusedVariables false
namespace Go.Proofs.YtgcpildegdgekaaGreatDoor
open Go.Proofs.Tryz
open Go.RowKit Go.Vm
noncomputable section
theorem aDP {w h:Int} {cl:List aA} {ps:List Pce} (H:wW w h cl ps) {x y j f:Int} (u:lab ps x y≠lab ps j f):∃p∈ps,∃r∈p.Rects,inq x y r\/inq j f r:=by
 grind [Ba,sJ]
section
variable {w h:Int} {cl:List aA} {ps:List Pce} (H:wW w h cl ps)
include H
theorem aXm {e:Edg} (he:e∈eQ ps):Cc ps (iI e):=by
 have I:=aHZ ps (Mr H) e he;obtain⟨u,G⟩:=aHY ps (Mr H);have hm:iI e∈(eQ ps).map iI:=JK.2 ⟨e,he,rfl⟩;refine⟨fun f x a b=>?_,fun j y a b=>?_⟩
 ·exact aDP H ((G x (iI e).Y1).1 ⟨iI e,hm,rfl,f.symm,a,b⟩)
 ·exact aDP H ((u (iI e).X1 y).1 ⟨iI e,hm,rfl,j.symm,a,b⟩)
theorem aIK {s:Seg} (ho:(s.Y1=s.Y2/\s.X1<s.X2)\/(s.X1=s.X2/\s.Y1<s.Y2)) (hb:Cc ps s):jY w h s:=by
 refine⟨?_,ho⟩;rcases ho with ⟨u,V⟩|⟨u,V⟩
 ·obtain⟨p,hp,r,J,q⟩:=hb.1 u s.X1 KI KI;obtain⟨I,j,G,f,L⟩:=hb.1 u (s.X2-1) KI KI;have S:=H.ins p hp r J;have O:=H.ins I j G f;grind [inq]
 ·obtain⟨p,hp,r,J,q⟩:=hb.2 u s.Y1 KI KI;obtain⟨I,j,G,f,L⟩:=hb.2 u (s.Y2-1) KI KI;have S:=H.ins p hp r J;have O:=H.ins I j G f;grind [inq]
theorem aXl (hcl:∀c∈cl,smR c):∀e∈eQ ps,fh w h cl e:=fun e he=>by
 have f:=aHZ ps (Mr H) e he;have hb:=aXm H he;have ho:=f.1;exact⟨f,fun b=>aYR H hcl f (aIK H ho hb) hb b⟩
theorem aVZ (hcl:∀c∈cl,smR c):∀p∈ps,∀c∈p.Cuts,smR c/\∀s∈jD c,kT w h cl s:=fun p hp c G=>by
 have P:=H.pc p hp;have f:c∈p.Cuts++p.Forms:=QO.2 (.inl G);have u:=P.smH c f;obtain⟨r,J,k⟩:=P.str c f;refine⟨u,fun s j=>?_⟩;unfold smR at u;unfold rW at k;have q:∀t:Seg,((t.Y1=t.Y2/\t.X1<t.X2/\c.Y<=t.Y1/\t.Y1<=c.Y+c.H/\c.X<=t.X1/\t.X2<=c.X+c.W)\/(t.X1=t.X2/\t.Y1<t.Y2/\c.X<=t.X1/\t.X1<=c.X+c.W/\c.Y<=t.Y1/\t.Y2<=c.Y+c.H))->kT w h cl t:=fun t I=>by
  grind [Cc,inq,aIL,aIK]
 simp only[jD,List.mem_cons,List.not_mem_nil,or_false] at j;grind
theorem aW9:∀p∈ps,∀r∈p.Forms,pC r.X r.Y r.W r.H 0 0 w h=true:=fun p hp r u=>by
 have P:=H.pc p hp;have f:r∈p.Cuts++p.Forms:=QO.2 (.inr u);have I:=P.smH r f;obtain⟨s,j,k⟩:=P.str r f;have i:=H.ins p hp s j;have G:=H.sheet;grind [smR,rW,pC,Aa,y9,cN]
end
theorem aMF:∀(l:List aA) (m:List Opn),l.foldl Ew m=m++l.map fun r=>Opn.mk 3 r.X r.Y r.W r.H 0:=by
 intro l
 induction l with
 |nil=>grind
 |cons r l f=>grind [Ew]
theorem M6 (ps:List Pce):stamps ps=(ps.flatMap Pce.Forms).map fun r=>Opn.mk 3 r.X r.Y r.W r.H 0:=by
 have f:∀(l:List Pce) (m:List Opn),l.foldl Ev m=m++(l.flatMap Pce.Forms).map fun r=>Opn.mk 3 r.X r.Y r.W r.H 0:=by
  intro l
  induction l with
  |nil=>grind
  |cons p l j=>
   grind [Ev,aMF]
 grind [stamps]
theorem aOa {w h:Int} {cl:List aA}:∀(l:List aA) (s:CSt),(∀r∈l,pC r.X r.Y r.W r.H 0 0 w h=true)->gT w h cl (l.map fun r=>Opn.mk 3 r.X r.Y r.W r.H 0) s=some (s.1,s.2.1,s.2.2.1,s.2.2.2++l):=by
 intro l
 induction l with
 |nil=>intro s _;rw[JP];rfl
 |cons r l f=>
  intro s j;show (cond ((3:Int)==3) (cond (pC r.X r.Y r.W r.H 0 0 w h) (some (s.1,s.2.1,s.2.2.1,s.2.2.2++[aA.mk r.X r.Y r.W r.H])) none) _).bind (gT w h cl (l.map _))=_;simp_all
theorem aDO {l:List Bool} (h:rG l=false):∀i,i<l.length->l.getD i default=true:=fun i hi=>by
 have h:decide (0<=pJ (fun x=>false==x) l 0)=false:=h;grind [Oi]
def Zk (ps:List Pce) (es:List Edg) (s:gA):Prop:=s.1.length=es.length/\s.2.1.length=ps.length/\s.2.2.1.length=ps.length/\∀i,i<ps.length->(s.2.1.getD i default).length=(ps.getD i default).Cuts.length
theorem su (ps:List Pce) (es:List Edg):Zk ps es (jV ps es):=by
 refine⟨KP,KJ ..,KP,fun i hi=>?_⟩;show ((ps.map Ax).getD i default).length=_;rw[List.getD_eq_getElem?_getD,KD,List.getD_eq_getElem?_getD,JW hi];show (List.replicate _ false).length=_;grind
theorem aMC {w h:Int} {cl:List aA} {ps:List Pce} {es:List Edg} {s:gA} {x:Itm} (j:(eP w h cl ps es s x).2.2.2.2.2=0):Zk ps es (eP w h cl ps es s x):=by
 obtain⟨hf,J,I,O,L,_,_⟩:=Zx j;obtain⟨f1,f2,u,V,S,G⟩:=Pb hf;have f:eP w h cl ps es s x=lN es ps.length s.1 s.2.1 s.2.2.1 s.2.2.2.1 s.2.2.2.2.1 x.Piece x.Hole x.Joints:=(ko j).1;rw[f];unfold lN;cases decide (0<=x.Hole) with
 |true=>
  rw[QY];refine⟨f1,(KR ..).trans f2,u,fun i hi=>?_⟩;show ((s.2.1.set x.Piece.toNat ((s.2.1.getD x.Piece.toNat default).set x.Hole.toNat true)).getD i default).length=_;grind
 |false=>
  rw[QK];refine⟨?_,f2,(KR ..).trans u,G⟩;show (qF es x.Piece s.1).length=_;grind [qF,aT6]
theorem foldM {w h:Int} {cl:List aA} {ps:List Pce} {es:List Edg}:∀(l:List Itm) (s:gA),Zk ps es s->accept (eP w h cl ps es) l s->Zk ps es (l.foldl (eP w h cl ps es) s):=by
 intro l
 induction l with
 |nil=>grind
 |cons x l j=>intro s h f;exact j _ (aMC f.1) f.2
theorem A9 {nm mt:ByteArray} {g gr w h:Int} {cl us:List aA} {ps:List Pce} {l:List Itm} (f:kX nm mt g gr w h cl us ps l=0):jK nm mt g gr w h cl us ps=0/\l.length<=128/\accept (eP w h cl ps (eQ ps)) l (jV ps (eQ ps))/\rG (l.foldl (eP w h cl ps (eQ ps)) (jV ps (eQ ps))).2.2.1=false/\(l.foldl (eP w h cl ps (eQ ps)) (jV ps (eQ ps))).2.1.any rG=false:=by
 obtain⟨I,G,j⟩:=aHy (y0:=nm) (y1:=mt) (y2:=g) (y3:=gr) (y4:=w) (y5:=h) (y6:=cl) (y7:=us) (y8:=ps) (a1:=l) (by grind);have hv:jK nm mt g gr w h cl us ps=0:=by
  grind [dC]
 have he:dC nm mt g gr w h cl us ps=(eQ ps,0):=by
  unfold dC;rw[hv];rfl
 rw[he] at j;dsimp only at j;refine⟨hv,G,j,?_⟩;have u:fC nm mt g gr w h cl us ps l=vI (l.foldl (eP w h cl ps (eQ ps)) (jV ps (eQ ps))) 0 0:=by
  grind [fC,ve]
 unfold kX at f;rw[u] at f;have f:cond (rG (l.foldl (eP w h cl ps (eQ ps)) (jV ps (eQ ps))).2.2.1) 12 (cond ((l.foldl (eP w h cl ps (eQ ps)) (jV ps (eQ ps))).2.1.any rG) 12 0)=(0:Int):=f;grind
theorem J9 {α:Type} {C:List Seg->Prop} (hC:K1 C) (f:α->List Seg):∀l:List α,C (l.flatMap f)↔∃a∈l,C (f a):=by
 intro l
 induction l with
 |nil=>
  rw[List.flatMap_nil,hC.1];grind
 |cons a l j=>
  rw[List.flatMap_cons,hC.2,j];grind
theorem Z3 {nm mt:ByteArray} {g gr w h:Int} {cl us:List aA} {ps:List Pce} {l:List Itm} (hz:kX nm mt g gr w h cl us ps l=0):wW w h cl ps/\(nY w h cl ps (eQ ps) l).length<=4000/\∃L,iH nm mt g gr w h cl us (nY w h cl ps (eQ ps) l)=(nD L,ps.flatMap Pce.Forms,0)/\(∀s∈L,jY w h s)/\(∀x y,cvV L x y↔cvV (rF ps) x y)/\∀x y,cvH L x y↔cvH (rF ps) x y:=by
 obtain⟨hv,hl,ha,z1,z2⟩:=A9 hz;have H:=Gi hv;have hsh:jX nm mt g gr w h cl us=0:=by
  grind [jK,Xh]
 have hcl:∀c∈cl,smR c:=fun c Z=>(tI ((tn hsh).2 c Z)).1
 have hE:=aXl H hcl;have hH:=aVZ H hcl;obtain⟨u,hfew⟩:=aHW H;have J:=foldM l _ (su ps (eQ ps)) ha;generalize hes:eQ ps=es at*;have h0:Jf w h cl ps es (stamps ps) 0 (jV ps es,stamps ps,[]):=by
  refine⟨[],[],[],(JP _).symm,Lb,Lb,fun s V=>(by cases V),XQ,fun C hC=>?_⟩;rw[hC.1.1];constructor
  ·grind
  ·rintro (⟨i,hi,a,b⟩|⟨p,hp,k,f,a,b⟩)
   ·exfalso;have a:(List.replicate es.length false).getD i default=true:=a;grind
   ·exfalso;have a:((ps.map Ax).getD p default).getD k default=true:=a;grind [Ax]
 have wK:Pj ps es (jV ps es):=fun p hp hd=>by
  have hd:(List.replicate ps.length false).getD p default=true:=hd;grind
 obtain⟨⟨A,L,M,j1,j2,j3,j4,j5,S⟩,j7,j8⟩:=aUn hE hH l 0 _ ha h0 wK;rw[j8] at j5 S;dsimp only at j5 S j7 j8;obtain⟨f1,f2,f3,f4⟩:=J;have O:∀i,i<es.length->(l.foldl (eP w h cl ps es) (jV ps es)).1.getD i default=true:=fun i hi=>by
  obtain⟨p,hp,ho⟩:=u _ (eF hi);exact j7 p hp (aDO z1 p KI) i hi ho
 have I:∀p,p<ps.length->∀k,k<(ps.getD p default).Cuts.length->((l.foldl (eP w h cl ps es) (jV ps es)).2.1.getD p default).getD k default=true:=fun p hp k f=>by
  grind [aDO]
 have hops:nY w h cl ps es l=(stamps ps++A)++(l.foldl (mM (eP w h cl ps es) ps es) (jV ps es,stamps ps,[])).2.2:=by
  unfold nY;rw[j1]
 have hst:(stamps ps).length<=96:=by
  have key:∀l:List Pce,(∀p∈l,p.Forms.length<=12)->(l.flatMap Pce.Forms).length<=12*l.length:=by
   intro l
   induction l with
   |nil=>grind
   |cons p l ih=>
    grind
  have:=key ps fun p hp=>(H.pc p hp).len.2.2
  have:=H.few;grind [M6]
 have G:(nY w h cl ps es l).length<=4000:=by
  grind [Pr]
 refine⟨H,G,L++M,?_,fun s V=>(j4 s V).1,?_⟩
 ·have hrun:gT w h cl (nY w h cl ps es l) (0,0,[],[])=some ((gT w h cl (nY w h cl ps es l) (0,0,[],[])).getD default |>.1,((gT w h cl (nY w h cl ps es l) (0,0,[],[])).getD default).2.1,L++M,ps.flatMap Pce.Forms):=by
   have e1:=aOa (w:=w) (h:=h) (cl:=cl) (ps.flatMap Pce.Forms) (0,0,[],[]) fun r hr=>by
    grind [aW9]
   rw[<- M6] at e1;obtain⟨x,y,e2⟩:=j2 (0,0,[],[]++ps.flatMap Pce.Forms);obtain⟨x',y',e3⟩:=j3 (x,y,[]++L,[]++ps.flatMap Pce.Forms);grind [xu]
  grind [iH,Uh]
 ·have j:∀C:List Seg->Prop,gdC es C->(C (L++M)↔C (rF ps)):=fun C hC=>by
   have On:rF ps=(es.flatMap fun e=>[iI e])++(ps.flatMap fun p=>p.Cuts.flatMap jD):=by
    grind [rF,oR,List.flatMap_assoc,List.map_eq_flatMap]
   rw[hC.1.2,S C hC,On,hC.1.2,J9 hC.1,J9 hC.1];constructor
   ·rintro (⟨i,hi,_,b⟩|⟨p,hp,k,f,_,b⟩)
    ·grind
    ·exact .inr ⟨_,eF hp,(J9 hC.1 _ _).2 ⟨_,eF f,b⟩⟩
   ·rintro (⟨e,he,b⟩|⟨p,hp,b⟩)
    ·obtain⟨i,hi,rfl⟩:=List.mem_iff_getElem.1 he;have e:es.getD i default=es[i]:=by grind
     exact .inl ⟨i,hi,O i hi,by grind⟩
    ·obtain⟨i,hi,rfl⟩:=List.mem_iff_getElem.1 hp;have e:ps.getD i default=ps[i]:=by grind
     obtain⟨c,Z,b⟩:=(J9 hC.1 _ _).1 b;obtain⟨k,f,rfl⟩:=List.mem_iff_getElem.1 Z;rw[<- e] at f;refine .inr ⟨i,hi,k,f,I i hi k f,?_⟩;grind
  exact⟨fun x y=>j (fun l=>cvV l x y) ⟨aI8 x y,fun e he b=>(aH5 (hE e he).1 b x y).1⟩,fun x y=>j (fun l=>cvH l x y) ⟨aI9 x y,fun e he b=>(aH5 (hE e he).1 b x y).2⟩⟩
def nU (o:Opn):Prop:=o.N=0/\(o.Kind≠3->o.W=0/\o.H=0)
def okO (o:Opn):Prop:=nU o/\(o.Kind=1\/o.Kind=2\/o.Kind=4\/o.Kind=3)/\(0<=o.X/\o.X<=1048576)/\(0<=o.Y/\o.Y<=1048576)/\(0<=o.W/\o.W<=1048576)/\0<=o.H/\o.H<=1048576
theorem O0 {k x y:Int}:nU (mvO k x y):=⟨rfl,fun _=>⟨rfl,rfl⟩⟩
theorem aM1 (e:Edg) (b:Bool):(∀o∈(edO e b).1,nU o)/\∀o∈(edO e b).2,nU o:=by
 have f:∀k x y G u j,∀o∈[mvO k x y,mvO G u j],nU o:=fun k x y G u j o ho=>by
  simp only[List.mem_cons,List.not_mem_nil,or_false] at ho;rcases ho with rfl|rfl<;>exact O0
 rw[aH1];cases b with
 |false=>exact⟨f _ _ _ _ _ _,fun o ho=>by cases ho⟩
 |true=>
  rw[QY];cases oS e==0 with
  |true=>exact⟨f _ _ _ _ _ _,fun o ho=>by cases ho⟩
  |false=>exact⟨f _ _ _ _ _ _,f _ _ _ _ _ _⟩
theorem aM0 (es:List Edg) (u:List Bool) (p:Int):∀(l:List Nat) (s:o0),(∀o∈s.2.1,nU o)->(∀o∈s.2.2,nU o)->(∀o∈(l.foldl (oU es u p) s).2.1,nU o)/\∀o∈(l.foldl (oU es u p) s).2.2,nU o:=by
 intro l
 induction l with
 |nil=>exact fun s j f=>⟨j,f⟩
 |cons i l G=>
  intro s j f;rw[JY,aH0];cases vT es u p i with
  |false=>exact G s j f
  |true=>
   obtain⟨e1,I⟩:=aM1 (es.getD i default) (decide (0<s.1));refine G _ (fun o ho=>?_) fun o ho=>?_
   ·exact(QO.1 ho).elim (j o) (e1 o)
   ·exact(QO.1 ho).elim (f o) (I o)
theorem aMZ (D:gA->Itm->gA) (ps:List Pce) (es:List Edg):∀(l:List Itm) (t:Ic),(∀o∈t.2.1,nU o)->(∀o∈t.2.2,nU o)->(∀o∈(l.foldl (mM D ps es) t).2.1,nU o)/\∀o∈(l.foldl (mM D ps es) t).2.2,nU o:=by
 intro l
 induction l with
 |nil=>exact fun t j f=>⟨j,f⟩
 |cons x l u=>
  intro t j f;have G:∀o∈t.2.1++[mvO 1 x.Lead_X x.Lead_Y],nU o:=fun o ho=>by
   rcases QO.1 ho with ho|ho
   ·exact j o ho
   ·rw[JJ.1 ho];exact O0
  rw[JY];unfold mM;cases decide (0<=x.Hole) with
  |true=>
   refine u _ (fun o ho=>?_) f;rcases QO.1 ho with ho|ho
   ·exact G o ho
   ·change o∈[mvO 1 _ _,mvO 2 _ _,mvO 2 _ _,mvO 2 _ _,mvO 2 _ _] at ho;simp only[List.mem_cons,List.not_mem_nil,or_false] at ho;rcases ho with rfl|rfl|rfl|rfl|rfl<;>exact O0
  |false=>
   obtain⟨e1,I⟩:=aM0 es t.1.1 x.Piece (List.range' 0 es.length) (x.Joints,t.2.1++[mvO 1 x.Lead_X x.Lead_Y],t.2.2) G f;exact u _ e1 I
theorem aQt {w h:Int} {cl:List aA} {o:Opn} {s t:CSt} (e:opC w h cl o s=some t):(o.Kind=3/\pC o.X o.Y o.W o.H 0 0 w h=true)\/((o.Kind=1\/o.Kind=2\/o.Kind=4)/\onB w h o.X o.Y=true):=by
 unfold opC at e;cases j:o.Kind==3 with
 |true=>
  rw[j,QY] at e;cases hw:pC o.X o.Y o.W o.H 0 0 w h with
  |true=>exact .inl ⟨by simpa using j,rfl⟩
  |false=>rw[hw] at e;cases e
 |false=>
  rw[j,QK] at e;cases f:(((o.Kind==1)||(o.Kind==2))||(o.Kind==4))&&onB w h o.X o.Y with
  |false=>rw[f] at e;cases e
  |true=>
   rw[QW,Bool.or_eq_true,Bool.or_eq_true,KG,KG,KG,or_assoc] at f;exact .inr f
theorem aQh {w h:Int} {cl:List aA}:∀(l:List Opn) (s t:CSt),gT w h cl l s=some t->∀o∈l,(o.Kind=3/\pC o.X o.Y o.W o.H 0 0 w h=true)\/((o.Kind=1\/o.Kind=2\/o.Kind=4)/\onB w h o.X o.Y=true):=by
 intro l
 induction l with
 |nil=>intro s t _ o ho;cases ho
 |cons x l j=>
  intro s t e o ho;have e:(opC w h cl x s).bind (gT w h cl l)=some t:=e;cases f:opC w h cl x s with
  |none=>rw[f] at e;cases e
  |some u=>
   rw[f] at e;rcases List.mem_cons.1 ho with rfl|ho
   ·exact aQt f
   ·exact j u t e o ho
theorem aKd {w h:Int} {a b c d:Int} (hw:1<=w/\w<=1048576) (hh:1<=h/\h<=1048576) (e:pC a b c d 0 0 w h=true):(0<=a/\a<=1048576)/\(0<=b/\b<=1048576)/\(0<=c/\c<=1048576)/\0<=d/\d<=1048576:=by
 unfold pC at e;simp only[QW,JN] at e;obtain⟨⟨⟨⟨⟨f,_⟩,e1⟩,G⟩,u⟩,j⟩:=e;have r:=P4 f;rw[cN (n:=a+c) KI KI,cN (n:=0+w) KI KI] at u;rw[cN (n:=b+d) KI KI,cN (n:=0+h) KI KI] at j;omega
theorem aQg {nm mt:ByteArray} {g gr w h:Int} {cl us:List aA} {ps:List Pce} {l:List Itm} (I:kX nm mt g gr w h cl us ps l=0):∀o∈nY w h cl ps (eQ ps) l,okO o:=by
 obtain⟨H,G,L,O,_⟩:=Z3 I;have J:∀o∈nY w h cl ps (eQ ps) l,nU o:=by
  have S:∀o∈stamps ps,nU o:=fun o ho=>by
   rw[M6] at ho;obtain⟨r,_,rfl⟩:=JK.1 ho;exact⟨rfl,fun q=>absurd rfl q⟩
  obtain⟨e1,V⟩:=aMZ (eP w h cl ps (eQ ps)) ps (eQ ps) l (jV ps (eQ ps),stamps ps,[]) S fun o ho=>by cases ho
  intro o ho;exact(QO.1 ho).elim (e1 o) (V o)
 have he:=congrArg (fun z:List Seg×List aA×Int=>z.2.2) O;dsimp only at he;unfold iH at he;cases hv:jX nm mt g gr w h cl us !=0 with
 |true=>
  rw[hv] at he;have he:jX nm mt g gr w h cl us=0:=he;rw[he] at hv;cases hv
 |false=>
  rw[hv,QK,dB KI,QK] at he;unfold Uh at he;cases u:gT w h cl (nY w h cl ps (eQ ps) l) (0,0,[],[]) with
  |none=>
   rw[u] at he;have he:(16:Int)=0:=he;omega
  |some t=>
   intro o ho;have j:=J o ho;have f:=H.sheet;rcases aQh _ _ _ u o ho with ⟨k,q⟩|⟨k,q⟩
   ·have:=aKd f.1 f.2 q;exact⟨j,KI,this⟩
   ·obtain⟨z1,Z⟩:=j.2 KI;unfold onB at q;simp only[QW,JN] at q;exact⟨j,KI,KI,KI,KI,KI⟩
theorem Of {n:Int} (h: -1048576<=n/\n<=1048576):inR n=true:=by
 unfold inR;rw[dB KI,dB KI];rfl
theorem bAw {o:Opn} (h:okO o):mP [1,2,4,3] o=false:=by
 obtain⟨⟨u,f⟩,j,L,J,hw,hh⟩:=h;have e1:kC [1,2,4,3] o.Kind=true:=by
  rcases j with e|e|e|e<;>rw[e]<;>rfl
 have I:Ps o=true:=by
  unfold Ps xU;rw[u];rcases j with e|e|e|e
  ·obtain⟨a,b⟩:=f KI;rw[e,a,b];rfl
  ·obtain⟨a,b⟩:=f KI;rw[e,a,b];rfl
  ·obtain⟨a,b⟩:=f KI;rw[e,a,b];rfl
  ·rw[e];rfl
 have G:tX o=true:=by
  unfold tX vA;rw[u];simp only[List.all_cons,List.all_nil,Of (show -1048576<=o.X/\o.X<=1048576 by omega),Of (show -1048576<=o.Y/\o.Y<=1048576 by omega),Of (show -1048576<=o.W/\o.W<=1048576 by omega),Of (show -1048576<=o.H/\o.H<=1048576 by omega),Of (show -1048576<=(0:Int)/\(0:Int)<=1048576 by omega)];rfl
 unfold mP;rw[e1,I,G];rfl
theorem yg {l:zzI} {b:Nat} (h:∀n∈l,(Lib.itoa n).length<=b):(qD l).length<=(b+1)*l.length:=by
 induction l with
 |nil=>exact Nat.zero_le _
 |cons n l f=>
  have u:=h n (QI ..);have j:=f fun m hm=>h m (QA _ hm)
  unfold qD at j ⊢;rw[List.flatMap_cons,QM,QN,QN,Nat.mul_succ];omega
theorem aUl {n:Int} (h:0<=n/\n<=9999999):(Lib.itoa n).length<=7:=by
 unfold Lib.itoa;rw[QF KI];exact Zy 6 n.toNat KI
theorem oz (o:Opn) (x y:Int):(wrA o x y).length<=4:=by
 unfold wrA;split<;>simp
theorem join_le {k:Nat}:∀l:List (List UInt8),(∀p∈l,p.length<=k)->(sL l).length<=(k+1)*l.length
 |[],_=>Nat.zero_le _
 |p::l,h=>by
  have u:=h p (QI ..);have j:=join_le l fun q f=>h q (QA _ f)
  show (p++10::sL l).length<=_;rw[QM,QN,QN,Nat.mul_succ];omega
theorem aTx {o:Opn} (h:okO o) (x y:Int):(opL (fun k=>(gI kW k).data.toList) (fun o _ _=>wrA o 0 0) o x y).length<=39:=by
 obtain⟨_,j,I,G,hw,hh⟩:=h;have f:(qD (wrA o 0 0)).length<=(7+1)*(wrA o 0 0).length:=yg fun n f=>by
  unfold wrA at f;rw[cN KI KI,cN KI KI] at f;refine aUl ?_;split at f<;>(simp only[List.mem_cons,List.not_mem_nil,or_false] at f;omega)
 have J:=oz o 0 0;have u:((gI kW o.Kind).data.toList).length<=5:=by
  rcases j with e|e|e|e<;>rw[e]<;>decide
 unfold opL;rw[QM];dsimp only;omega
theorem aTw {o:Opn} (h:okO o) {x y:Int} (G:rng x) (u:rng y):(opL (fun k=>(gI kV k).data.toList) wrA o x y).length<=39:=by
 obtain⟨_,j,L,J,hw,hh⟩:=h;unfold rng at G u;have f:(qD (wrA o x y)).length<=(8+1)*(wrA o x y).length:=yg fun n f=>by
  unfold wrA at f;rw[cN KI KI,cN KI KI] at f;refine aEd ?_;split at f<;>(simp only[List.mem_cons,List.not_mem_nil,or_false] at f;omega)
 have O:=oz o x y;have I:((gI kV o.Kind).data.toList).length<=1:=by
  rcases j with e|e|e|e<;>rw[e]<;>decide
 unfold opL;rw[QM];dsimp only;omega
theorem aq {G:Int->List UInt8} {wr:Opn->Int->Int->zzI} (P:Int->Prop) (I:∀o x y,okO o->P x->P y->(opL G wr o x y).length<=39) (u:∀o x y,okO o->P x->P y->P (gJ o x y).1/\P (gJ o x y).2):∀(ops:List Opn) (x y:Int),(∀o∈ops,okO o)->P x->P y->∀p∈rE G wr gJ ops x y,p.length<=39
 |[],_,_,_,_,_,p,hp=>by cases hp
 |o::ops,x,y,h,j,f,p,hp=>by
  have ho:=h o (QI ..);rcases List.mem_cons.1 hp with rfl|hp
  ·exact I o x y ho j f
  ·exact aq P I u ops _ _ (fun q J=>h q (QA _ J)) (u o x y ho j f).1 (u o x y ho j f).2 p hp
theorem aLk {d:Int} (hd:d=1\/d=2) {ops:List Opn} (h:∀o∈ops,okO o) (hl:ops.length<=4000):(Oy d ops).2=0/\Vq d (Oy d ops).1=(ops,0):=by
 have hb:∀o∈ops,mP [1,2,4,3] o=false:=fun o ho=>bAw (h o ho)
 have u:∀{wl:List (Int×ByteArray)} {wr:Opn->Int->Int->zzI} {rd:Int->zzI->Int->Int->Opn} (fo:List Opn->ByteArray×Int),(fo ops=cond (decide (4000<(ops.length:Int))) (ByteArray.mk #[],4) (pP [1,2,4,3] wl wr ops ByteArray.empty 0 0))->
   Dlc [1,2,4,3] (jJ wl) wr rd gJ (fun o=>mP [1,2,4,3] o=false) rng->(∀p∈rE (jJ wl) wr gJ ops 0 0,p.length<=39)->(∀t,(fQ d (fI t)).1=vN lH [1,2,4,3] (jJ wl) rd gJ (rV t) 0 0)->(fo ops).2=0/\oJ d fo (fo ops).1=(ops,0):=by
  intro wl wr rd fo j D O I;obtain⟨f1,f2⟩:=(aGy [1,2,4,3] wl wr ops ByteArray.empty 0 0).1 hb;rw[dB KI,QK] at j;have Z:(fo ops).2=0:=by rw[j];exact f1
  have G:(fo ops).1.data.toList=sL (rE (jJ wl) wr gJ ops 0 0):=by
   rw[j,f2];rfl
  refine⟨Z,?_⟩;have hs:¬160000<((fo ops).1.size:Int):=by
   have e:(fo ops).1.size=(fo ops).1.data.toList.length:=by rw[Array.length_toList];rfl
   rw[e,G];have h1:=join_le _ O;rw[aDD] at h1;omega
  unfold oJ;rw[QF hs,I,G,aPB D (fun n a b=>aRq ⟨a,b⟩) ops hb vJ];unfold qB;rw[Z,bne_self_eq_false];have e:((fo ops).1 !=(fo ops).1)=false:=by
   show (!((fo ops).1.data==(fo ops).1.data))=false;rw[beq_self_eq_true];rfl
  rw[e];rfl
 have f:∀o x y,okO o->rng x->rng y->rng (gJ o x y).1/\rng (gJ o x y).2:=fun o x y ho L J=>mr ⟨by unfold rng;have:=ho.2.2.1;omega,by unfold rng;have:=ho.2.2.2.1;omega⟩ L J
 have V:o4=fun o _ _=>wrA o 0 0:=by funext o x y;exact aK8 o x y
 have S:uW=wrA:=by funext o x y;exact pb o x y
 rcases hd with rfl|rfl
 ·have:=u (wl:=kW) (wr:=o4) (rd:=fun k l _ _=>rdU k l 0 0) qW rfl (by rw[V];exact aY4) (by rw[V];exact aq rng (fun o x y ho _ _=>aTx ho x y) f ops 0 0 h vJ vJ) (fun t=>by rw[uz (.inl rfl)];unfold Un;rw[JQ rfl]);exact this
 ·have:=u (wl:=kV) (wr:=uW) (rd:=rdU) pD rfl (by rw[S];exact aY3) (by rw[S];exact aq rng (fun o x y ho L J=>aTw ho L J) f ops 0 0 h vJ vJ) (fun t=>by rw[uz (.inr rfl)];unfold Un;rw[QF (by decide)]);exact this
def zZ:CnT:=cnL [(0,⟨[2,4,5,7,9],[2,7],[(.cell 7 0,101,.seg),(.cell 7 1,102,.rect)],[],[]⟩)]
def nA (G:Bool) (j:List Opn) (f:Int) (bE bD:ByteArray) (bG bF V Z:Int) (O S:List aA) (L:List Pce) (J:List Seg) (I:List aA):ASt UU:=⟨fun u=>cond (Nat.beq u 2) (.ptr 2 0) (cond (Nat.beq u 4) (.bool G) (cond (Nat.beq u 5) (.sl .op j) (cond (Nat.beq u 7) (.ptr 7 0) (cond (Nat.beq u 9) (.i f) (.any))))),fun u=>cond (Nat.beq u 101) (some (.row .seg 0 J)) (cond (Nat.beq u 102) (some (.row .rect 0 I)) (cond (Nat.beq u 2) (some (.cells [.str bE,.str bD,.i bG,.i bF,.i V,.i Z,.sl .rect O,.sl .rect S,.sl .pc L])) (cond (Nat.beq u 7) (some (.cells [.osl 101 0,.osl 102 0])) (none))))⟩
abbrev bCV:=Bool->List Opn->Int->ByteArray->ByteArray->Int->Int->Int->Int->List aA->List aA->List Pce->List Seg->List aA->Prop
def gu (y0 y1:ByteArray) (y2 y3 y4 y5:Int) (y6 y7:List aA) (y8:List Pce) (a1:List Itm) (Q:Bool->Prop) (u:bCV):Prop:=(let f:=(x7 y0 y1 y2 y3 y4 y5 y6 y7 y8 a1);((Ur y0 y1 y2 y3 y4 y5 y6 y7 y8 a1)/\cond (f.2 !=0) (((Fu y0 y1 y2 y3 y4 y5 y6 y7 y8 a1)/\Q ((f.2==(kX y0 y1 y2 y3 y4 y5 y6 y7 y8 a1))&&Tj))) ((let j:=(iH y0 y1 y2 y3 y4 y5 y6 y7 f.1);((Lt y0 y1 y2 y3 y4 y5 y6 y7 f.1)/\cond ((j.2.2 !=0)||(decide (4000<(f.1.length:Int)))) (Q false) (u false f.1 1 y0 y1 y2 y3 y4 y5 y6 y7 y8 j.1 j.2.1))))))
def Ha (rec x0 x1:bCV):bCV:=fun t4 j f bE bD bG bF V Z O S L J I=>cond (decide (f<=2)) ((let G:=(Oy f j);((f=1\/f=2)/\(let u:=(Vq f G.1);((f=1\/f=2)/\((((G.2 !=0)||(u.2 !=0))=false->R1 u.1 j)/\cond (((G.2 !=0)||(u.2 !=0))||(!(Ko u.1 j))) (x0 false j f bE bD bG bF V Z O S L J I) (rec t4 j (aB (f+1)) bE bD bG bF V Z O S L J I))))))) (x1 t4 j f bE bD bG bF V Z O S L J I)
def gw (Q:Bool->Prop):bCV:=fun f u j bE bD Z bF S V L O J I G=>Q f
def gv (Q:Bool->Prop):bCV:=fun t4 S t9 L O I J u G f j bO Z dV=>(let r0:=(kG L O I J u G f j Z);((Ut L O I J u G f j Z)/\(let V:=(xP L O I J u G f j bO S);((R6 L O I J u G f j bO S)/\Q (((V.2==0)&&(V.1==(r0.2==0)))&&Tj)))))
def p9 (F:Nat) (j f:bCV):Nat->bCV
 |0=>fun _ _ _ _ _ _ _ _ _ _ _ _ _ _=>False
 |n+1=>Ha (p9 F j f n) j f
def Wh (F:Nat) (Q:Bool->Prop):bCV:=fun u j f bE bD Z bF S V L O J I G=>p9 F (gw Q) (gv Q) F u j f bE bD Z bF S V L O J I G
def L5 (F:Nat) (y0 y1:ByteArray) (y2 y3 y4 y5:Int) (y6 y7:List aA) (y8:List Pce) (a1:List Itm) (Q:Bool->Prop):Prop:=gu y0 y1 y2 y3 y4 y5 y6 y7 y8 a1 Q (Wh F Q)
section
variable (nm mt:ByteArray) (g gr w h:Int) (cl us:List aA) (ps:List Pce) (l:List Itm)
theorem jx (f:jK nm mt g gr w h cl us ps=0):dC nm mt g gr w h cl us ps=(eQ ps,0):=by
 unfold dC;rw[f];rfl
theorem aHX (f:(dC nm mt g gr w h cl us ps).2=0):jK nm mt g gr w h cl us ps=0:=by
 grind [dC]
theorem aOe (f:(fC nm mt g gr w h cl us ps l).2.2.2.2.2.2=0):jK nm mt g gr w h cl us ps=0/\accept (eP w h cl ps (eQ ps)) l (jV ps (eQ ps))/\fC nm mt g gr w h cl us ps l=vI (l.foldl (eP w h cl ps (eQ ps)) (jV ps (eQ ps))) 0 0:=by
 unfold fC at f ⊢;cases he:(dC nm mt g gr w h cl us ps).2 !=0 with
 |true=>
  rw[he,QY] at f;have u:(dC nm mt g gr w h cl us ps).2=0:=f;grind
 |false=>
 have hv:=aHX nm mt g gr w h cl us ps (by grind);rw[he,QK] at f;rw[QK];cases j:decide (128<(l.length:Int)) with
 |true=>
  rw[j,QY] at f;have:(4:Int)=0:=f;omega
 |false=>
 grind [jx,vf,ve]
variable (h6:cl.length<=2000000) (h7:us.length<=2000000) (hp:Kx ps)
include h6 h7 hp
theorem aQ1:sD nm mt g gr w h cl us ps:=by
 refine⟨⟨h6,h7,hp⟩,?_⟩;cases q:jK nm mt g gr w h cl us ps !=0 with
 |true=>trivial
 |false=>
  have H:=Gi (show jK nm mt g gr w h cl us ps=0 by grind);exact⟨by have:=H.few;omega,fun p f=>by have:=(H.pc p f).len.1;omega⟩
theorem aQ0:Fv nm mt g gr w h cl us ps l:=by
 refine⟨aQ1 nm mt g gr w h cl us ps h6 h7 hp,fun he=>?_⟩;have hv:=aHX nm mt g gr w h cl us ps (by grind);have H:=Gi hv;rw[jx nm mt g gr w h cl us ps hv];have u:=H.few;have j:=(aHW H).2;exact⟨show (eQ ps).length<=2000000 by omega,KI,fun q f=>⟨(hp q f).1,(hp q f).2.1⟩,h6⟩
theorem xi:Fu nm mt g gr w h cl us ps l:=by
 refine⟨aQ0 nm mt g gr w h cl us ps l h6 h7 hp,fun O=>?_⟩;obtain⟨hv,G,e⟩:=aOe nm mt g gr w h cl us ps l (by grind);rw[e];have H:=Gi hv;obtain⟨L,J,I,u⟩:=foldM l _ (su ps (eQ ps)) G;generalize l.foldl (eP w h cl ps (eQ ps)) (jV ps (eQ ps))=f at L J I u ⊢;have b:=H.few;refine⟨show f.2.2.1.length<=2000000 by omega,show f.2.1.length<=2000000 by omega,fun r j=>?_⟩;have j:r∈f.2.1:=j;obtain⟨i,hi,rfl⟩:=List.mem_iff_getElem.1 j;have e:=u i KI;rw[List.getD_eq_getElem?_getD,JW hi] at e;have e:(f.2.1[i]).length=(ps.getD i default).Cuts.length:=e;have:=(H.pc _ (eF (show i<ps.length by omega))).len.2.1;omega
theorem aQ2:Ur nm mt g gr w h cl us ps l:=by
 refine⟨xi nm mt g gr w h cl us ps l h6 h7 hp,fun j=>?_⟩;have H:=Gi (A9 (l:=l) (show kX nm mt g gr w h cl us ps l=0 by grind)).1;exact⟨by have:=H.few;omega,fun p f=>(hp p f).2.2⟩
omit h6 h7 hp in
theorem aHl {f:List (List aA)} {R C:List aA} (j:∃cells∈f,lh cells R C):nE f R C=true:=by
 obtain⟨cells,hm,G,u⟩:=j;rw[aM8];refine KV.2 ⟨cells,hm,?_⟩;grind [Hp,x8,arR]
omit h6 h7 hp in
theorem aZW (G:kX nm mt g gr w h cl us ps l=0):xP nm mt g gr w h cl us ps (nY w h cl ps (eQ ps) l)=((kG nm mt g gr w h cl us (iH nm mt g gr w h cl us (nY w h cl ps (eQ ps) l)).1).2==0,0):=by
 have hv:=(A9 G).1;obtain⟨H,_,L,Z,hok,cV,cH⟩:=Z3 G;unfold xP;rw[Z];dsimp only;unfold ln;rw[hv];cases V:(kG nm mt g gr w h cl us (nD L)).2 !=0 with
 |true=>
  grind
 |false=>
  have I:(kG nm mt g gr w h cl us (nD L)).2=0:=by grind
  obtain⟨e,_,f,_⟩:=tu I;have j:kK L:=fun s V=>by
   grind [jY,lP]
  obtain⟨S,O⟩:=aLV j;have hV:∀x y,cvV (nD L) x y↔cvV (rF ps) x y:=fun x y=>(S x y).trans (cV x y)
  have hH:∀x y,cvH (nD L) x y↔cvH (rF ps) x y:=fun x y=>(O x y).trans (cH x y)
  rw[I,e];have J:(ps.any fun p=>(!(nE (pF w h (nD L)) p.Rects p.Cuts))||p.Cuts.any fun r=>!(nE (pF w h (nD L)) [r] []))=false:=by
   refine JR.2 fun p hp=>?_
   obtain⟨i,hi,rfl⟩:=List.mem_iff_getElem.1 hp;have e1:ps.getD i default=ps[i]:=by grind
   have u:=aHl (aQP H f hV hH hi);rw[e1] at u;rw[u];have q2:((ps[i]).Cuts.any fun r=>!(nE (pF w h (nD L)) [r] []))=false:=JR.2 fun c hc=>by
    rw[aHl (aVY H f hV hH hi (by grind))];decide
   grind
  grind [qN,aHN]
theorem aU6:L5 4 nm mt g gr w h cl us ps l (fun r=>r=true):=by
 unfold L5 gu;refine⟨aQ2 nm mt g gr w h cl us ps l h6 h7 hp,?_⟩;unfold x7;cases hc:kX nm mt g gr w h cl us ps l !=0 with
 |true=>
  rw[QY];dsimp only;rw[hc,QY];refine⟨xi nm mt g gr w h cl us ps l h6 h7 hp,?_⟩;rw[beq_self_eq_true];rfl
 |false=>
  have V:kX nm mt g gr w h cl us ps l=0:=by grind
  have hv:=(A9 V).1;rw[QK,jx nm mt g gr w h cl us ps hv];dsimp only;obtain⟨H,I,L,hr,_⟩:=Z3 V;have j:=aQg V;have S:=aZW nm mt g gr w h cl us ps l V;generalize nY w h cl ps (eQ ps) l=ops at I hr j S ⊢;rw[bne_self_eq_false,QK];refine⟨trivial,?_⟩;have e0:(((iH nm mt g gr w h cl us ops).2.2 !=0)||(decide (4000<(ops.length:Int))))=false:=by
   grind
  rw[e0,QK];have step:∀(d:Int),d=1\/d=2->∀J G u:Bool->List Opn->Int->ByteArray->ByteArray->Int->Int->Int->Int->List aA->List aA->List Pce->List Seg->List aA->Prop,J false ops (aB (d+1)) nm mt g gr w h cl us ps (iH nm mt g gr w h cl us ops).1 (iH nm mt g gr w h cl us ops).2.1->Ha J G u false ops d nm mt g gr w h cl us ps (iH nm mt g gr w h cl us ops).1 (iH nm mt g gr w h cl us ops).2.1:=by
   intro d O J G u Z;obtain⟨b1,b2⟩:=aLk O j I;unfold Ha;rw[dD KI,QY];dsimp only;rw[b2,b1];refine⟨O,O,fun _=>show ops.length<=2000000 by omega,?_⟩;grind [Ko,aHN]
  have f:∀(n:Nat) (d:Int),d=1\/d=2->∀G u,p9 4 G u n false ops (aB (d+1)) nm mt g gr w h cl us ps (iH nm mt g gr w h cl us ops).1 (iH nm mt g gr w h cl us ops).2.1->p9 4 G u (n+1) false ops d nm mt g gr w h cl us ps (iH nm mt g gr w h cl us ops).1 (iH nm mt g gr w h cl us ops).2.1:=fun n d O G u hx=>step d O (p9 4 G u n) G u hx
  unfold Wh;refine f 3 1 (.inl rfl) _ _ ?_;rw[show aB (1+1)=2 by rfl];refine f 2 2 (.inr rfl) _ _ ?_;rw[show aB (2+1)=3 by rfl];show Ha _ _ _ false ops 3 nm mt g gr w h cl us ps _ _;unfold Ha;rw[dB KI,QK];refine⟨trivial,⟨h6,h7,hp⟩,?_⟩;rw[S];rw[beq_self_eq_true,beq_self_eq_true];rfl
end
def Ch (F n r:Nat) (S:ASt UU) (K:AEx->ASt UU->Prop):Prop:=iter (cX (aU zZ F 0 tF) tF Tryz.f3.ntmps zZ F 0 (cL (cB (cS (cF (cS (cS (cS (cS (cS (bo Tryz.f3))))))))))) (zZ 0 0) n r S K
def Bk (F:Nat) (Post:aC UU->Prop):AEx->ASt UU->Prop:=bW 0 (cA (aU zZ F 0 tF) tF Tryz.f3.ntmps zZ F 0 (cS (cS (cS (cS (cS (cS (bo Tryz.f3))))))) (bN tF false Tryz.f3 Post))
theorem aLw (F n r:Nat) (K:AEx->ASt UU->Prop) (u:Bool) (j:List Opn) (f:Int) (bE bD:ByteArray) (Z bF S V:Int) (L O:List aA) (J:List Pce) (I:List Seg) (G:List aA):Ch F (n+1) r (nA u j f bE bD Z bF S V L O J I G) K=Ha (fun u j f bE bD Z bF S V L O J I G=>Ch F n (r+1) (nA u j f bE bD Z bF S V L O J I G) K) (fun u j f bE bD Z bF S V L O J I G=>K .ret (nA u j f bE bD Z bF S V L O J I G)) (fun u j f bE bD Z bF S V L O J I G=>K (.exit 0) (nA u j f bE bD Z bF S V L O J I G)) u j f bE bD Z bF S V L O J I G:=KA
theorem aYv (F:Nat) (Post:aC UU->Prop) (u:Bool) (j:List Opn) (f:Int) (bE bD:ByteArray) (Z bF S V:Int) (L O:List aA) (J:List Pce) (I:List Seg) (G:List aA):Bk F Post .ret (nA u j f bE bD Z bF S V L O J I G)=gw (fun r0=>Post (.bool r0)) u j f bE bD Z bF S V L O J I G:=KA
theorem aYu (F:Nat) (Post:aC UU->Prop) (u:Bool) (j:List Opn) (f:Int) (bE bD:ByteArray) (Z bF S V:Int) (L O:List aA) (J:List Pce) (I:List Seg) (G:List aA):Bk F Post (.exit 0) (nA u j f bE bD Z bF S V L O J I G)=gv (fun r0=>Post (.bool r0)) u j f bE bD Z bF S V L O J I G:=KA
theorem aXQ (F:Nat) (Post:aC UU->Prop) (y0 y1:ByteArray) (y2 y3 y4 y5:Int) (y6 y7:List aA) (y8:List Pce) (a1:List Itm):exec tF Tryz.f3.ntmps zZ F 0 (bo Tryz.f3) (gK [.agg [.str y0,.str y1,.i y2,.i y3,.i y4,.i y5,.sl .rect y6,.sl .rect y7,.sl .pc y8],.sl .item a1]) (bN tF false Tryz.f3 Post)=gu y0 y1 y2 y3 y4 y5 y6 y7 y8 a1 (fun G=>Post (.bool G)) (fun u j f bE bD bG bF V Z O S L J I=>Ch F F 0 (nA u j f bE bD bG bF V Z O S L J I) (Bk F Post)):=KA
theorem aTi (F:Nat) (K:AEx->ASt UU->Prop):∀(n r:Nat) (u:Bool) (j:List Opn) (f:Int) (bE bD:ByteArray) (Z bF S V:Int) (L O:List aA) (J:List Pce) (I:List Seg) (G:List aA),Ch F n r (nA u j f bE bD Z bF S V L O J I G) K=p9 F  (fun u j f bE bD Z bF S V L O J I G=>K .ret (nA u j f bE bD Z bF S V L O J I G)) (fun u j f bE bD Z bF S V L O J I G=>K (.exit 0) (nA u j f bE bD Z bF S V L O J I G)) n u j f bE bD Z bF S V L O J I G:=by
 intro n
 induction n with
 |zero=>intros;rfl
 |succ n ih=>
  intro r u j f bE bD Z bF S V L O J I G;have e:(fun u j f bE bD Z bF S V L O J I G=>Ch F n (r+1) (nA u j f bE bD Z bF S V L O J I G) K)=p9 F  (fun u j f bE bD Z bF S V L O J I G=>K .ret (nA u j f bE bD Z bF S V L O J I G)) (fun u j f bE bD Z bF S V L O J I G=>K (.exit 0) (nA u j f bE bD Z bF S V L O J I G)) n:=by
   funext u j f bE bD Z bF S V L O J I G;exact ih (r+1) u j f bE bD Z bF S V L O J I G
  rw[aLw,e];rfl
theorem aSe (F:Nat) (Post:aC UU->Prop) (u:Bool) (j:List Opn) (f:Int) (bE bD:ByteArray) (Z bF S V:Int) (L O:List aA) (J:List Pce) (I:List Seg) (G:List aA):Ch F F 0 (nA u j f bE bD Z bF S V L O J I G) (Bk F Post)=Wh F (fun r0=>Post (.bool r0)) u j f bE bD Z bF S V L O J I G:=by
 rw[aTi];have h0:(fun u j f bE bD Z bF S V L O J I G=>Bk F Post .ret (nA u j f bE bD Z bF S V L O J I G))=(gw (fun r0=>Post (.bool r0))):=by
  funext u j f bE bD Z bF S V L O J I G;rw[aYv]
 have h1:(fun u j f bE bD Z bF S V L O J I G=>Bk F Post (.exit 0) (nA u j f bE bD Z bF S V L O J I G))=(gv (fun r0=>Post (.bool r0))):=by
  funext u j f bE bD Z bF S V L O J I G;rw[aYu]
 rw[h0,h1];rfl
theorem aWp (F:Nat) (Post:aC UU->Prop) (y0 y1:ByteArray) (y2 y3 y4 y5:Int) (y6 y7:List aA) (y8:List Pce) (a1:List Itm):exec tF Tryz.f3.ntmps zZ F 0 (bo Tryz.f3) (gK [.agg [.str y0,.str y1,.i y2,.i y3,.i y4,.i y5,.sl .rect y6,.sl .rect y7,.sl .pc y8],.sl .item a1]) (bN tF false Tryz.f3 Post)=L5 F y0 y1 y2 y3 y4 y5 y6 y7 y8 a1 (fun G=>Post (.bool G)):=by
 rw[aXQ];have e0:(fun u j f bE bD bG bF V Z O S L J I=>Ch F F 0 (nA u j f bE bD bG bF V Z O S L J I) (Bk F Post))=(Wh F (fun G=>Post (.bool G))):=by
  funext u j f bE bD bG bF V Z O S L J I;exact aSe F Post u j f bE bD bG bF V Z O S L J I
 rw[e0];rfl
end
end Go.Proofs.YtgcpildegdgekaaGreatDoor
