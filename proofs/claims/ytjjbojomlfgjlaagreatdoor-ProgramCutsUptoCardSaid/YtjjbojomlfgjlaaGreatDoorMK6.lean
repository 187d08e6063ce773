/- Lemmas, walks and laws of this proof, part 6. Conditions: those that each names. -/
import Derived.Test.YtjjbojomlfgjlaaGreatDoorMK5
namespace Go.Proofs.YtjjbojomlfgjlaaGreatDoor
open Go.Vm Go.RowKit
set_option linter.unusedVariables false
noncomputable section
theorem sN {σ:Type} (len:Nat) (f:σ->Nat->σ) (I:Nat->σ->Prop) (Q:σ->Prop) (W:Nat->Int->σ->Prop) (L:∀s k,k<len->I k s->I (k+1) (f s k)) (G:∀n (i:Nat) s,i<len->I i s->W n ((i+1:Nat):Int) (f s i)->W (n+1) i s)
  (J:∀n s,I len s->Q s->W (n+1) len s):∀(n i:Nat) (s:σ),i<=len->len<n+i->I i s->Q ((List.range' i (len-i)).foldl f s)->W n i s:=by
 intro n
 induction n with
 |zero=>intro i s S O;omega
 |succ n u=>
  intro i s S O hi r
  by_cases h:i<len
  ·rw[show len-i=(len-(i+1))+1 by omega,XJ,QI] at r;exact G n i s h hi (u (i+1) _ XY XY (L s i h hi) r)
  ·obtain rfl:i=len:=XY;rw[show i-i=0 by omega] at r;exact J n s hi r
abbrev eS:=List Bool×zzB×List Bool×zzI×List Bool×Int
def oQ (es:List Edg) (p:Int) (c:List Bool) (i:Nat):List Bool:=cond (ofB (es.getD i default) p) (c.set i true) c
def sV (es:List Edg) (p:Int) (f:List Bool):List Bool:=(List.range' 0 es.length).foldl (oQ es p) f
def aAS (es:List Edg) (u:List Bool) (r:List Bool) (f:zzI) (i:Nat):Bool:=yO u es i&&!((r.getD i default)&&(decide (0<f.getD i default)))
def aAR (es:List Edg) (G:List Bool) (u:List Bool) (r:zzI) (f:List Bool) (i:Nat):List Bool:=cond (aAS es G u r i) (f.set i true) f
def yU (es:List Edg) (n:Nat) (G:List Bool) (u:List Bool) (f:zzI) (r:List Bool):List Bool:=(List.range' 0 n).foldl (aAR es G u f) r
def iZ (e:Int):eS:=([],[],[],[],[],e)
def bFX (es:List Edg) (n:Nat) (G:List Bool) (r:zzB) (u:List Bool) (f:zzI) (I:List Bool) (p k:Nat):eS:=(G,r.set p ((r.getD p default).set k true),u,f,yU es n G u f I,0)
def bFW (es:List Edg) (n:Nat) (u:List Bool) (G:zzB) (r:List Bool) (f:zzI) (I:List Bool) (p:Int) (j:Int):eS:=(sV es p u,G,r.set p.toNat true,f.set p.toNat j,yU es n (sV es p u) (r.set p.toNat true) (f.set p.toNat j) I,0)
def kD (es:List Edg) (n:Nat) (I:List Bool) (r:zzB) (G:List Bool) (f:zzI) (u:List Bool) (p k j:Int):eS:=cond (decide (0<=k)) (bFX es n I r G f u p.toNat k.toNat) (bFW es n I r G f u p j)
def doT (w h:Int) (cl:List aA) (ps:List Pce) (es:List Edg) (f:List Bool) (u:zzB) (I:List Bool) (r:zzI) (G:List Bool) (p k j x y:Int):eS:=
 cond (!(sM f u I r G es p k j x y)) (iZ 12) (cond (((decide (k<0))&&(j==0))&&(aBy (ps.getD p.toNat default).Rects)) (iZ 15) (cond (!(aC1 w h cl ps es f p k x y)) (iZ 14) (kD es ps.length f u I r G p k j)))
def doS (w h:Int) (cl:List aA) (ps:List Pce) (es:List Edg) (I:List Bool) (r:zzB) (G:List Bool) (f:zzI) (u:List Bool) (p k j x y:Int):eS:=
 cond (((!(lX I r G f u ps es.length))||(decide (p<0)))||(decide ((ps.length:Int)<=p))) (iZ 1) (cond (decide (k<(-1))) (iZ 1) (cond (decide (((ps.getD p.toNat default).Cuts.length:Int)<=k)) (iZ 1) (cond (decide (j<0)) (iZ 1) (cond (decide (4<j)) (iZ 1)
  (cond (decide (0<=k)) (cond (j !=0) (iZ 1) (doT w h cl ps es I r G f u p k j x y)) (doT w h cl ps es I r G f u p k j x y))))))
theorem aAQ {I:List Bool} {f:zzB} {G:List Bool} {r:zzI} {u:List Bool} {ps:List Pce} {n:Nat} (h:lX I f G r u ps n=true):
  I.length=n/\f.length=ps.length/\G.length=ps.length/\r.length=ps.length/\u.length=ps.length/\∀i,i<ps.length->(f.getD i default).length=(ps.getD i default).Cuts.length:=by
 unfold lX at h;cases hb:(((((I.length:Int) !=(n:Int))||((f.length:Int) !=(ps.length:Int)))||((G.length:Int) !=(ps.length:Int)))||((r.length:Int) !=(ps.length:Int)))||((u.length:Int) !=(ps.length:Int)) with
 |true=>
  rw[hb] at h;cases h
 |false=>
  rw[hb,QJ] at h;simp only[QC,bne_eq_false_iff_eq] at hb;obtain⟨⟨⟨⟨Z,V⟩,S⟩,O⟩,L⟩:=hb;refine⟨XY,XY,XY,XY,XY,fun i hi=>?_⟩;have h6:yQ f ps=false:=by
   cases J:yQ f ps with
   |false=>rfl
   |true=>rw[J] at h;cases h
  unfold yQ at h6;have:=XQ.1 h6 i (JD.2 hi);simp only[bne_iff_ne,ne_eq,Decidable.not_not] at this;omega
theorem aSQ (es:List Edg) (p:Int):∀(l:List Nat) (f:List Bool),(l.foldl (oQ es p) f).length=f.length:=by
 intro l
 induction l with
 |nil=>intro f;rfl
 |cons i l r=>
  intro f;rw[QI,r];unfold oQ;cases ofB (es.getD i default) p with
  |true=>rw[QX,JM]
  |false=>rfl
section
variable (F:Nat) (Q:List Bool->zzB->List Bool->zzI->List Bool->Int->Prop) (hF:4000000<F) (es:List Edg) (he:es.length<=2000000)
include hF he
theorem do1 (n:Nat) (hn:n<=2000000) (G:List Bool) (J:zzB) (u:List Bool) (r:zzI) (O:List Bool) (h1:G.length=es.length) (h2:u.length=n) (h3:r.length=n) (Z:O.length=n)
  (V:Q G J u r (yU es n G u r O) 0):aEK F Q es (n:Int) 0 G J u r O:=by
 unfold aEK;refine sN n (aAR es G u r) (fun _ f=>f.length=n) (fun f=>Q G J u r f 0) (fun m i f=>aG4 F _ m es (n:Int) i G J u r f) (fun f i hi L=>?_) (fun m i f hi L I=>?_) (fun m f L S=>?_) F 0 O XY XY Z V
 ·unfold aAR;cases aAS es G u r i with
  |true=>rw[QX,JM];exact L
  |false=>exact L
 ·show cond (decide ((i:Int)<(n:Int))) _ _;rw[bN XY,QX,QV,cO hi XY];refine⟨⟨XY,h1⟩,fun _=>⟨⟨XY,XY⟩,fun _=>⟨XY,XY⟩⟩,?_⟩;show cond (aAS es G u r i) _ _;unfold aAR at I;cases hb:aAS es G u r i with
  |true=>
   rw[hb,QX] at I;exact⟨⟨XY,XY⟩,I⟩
  |false=>
   rw[hb,QJ] at I;exact I
 ·show cond (decide ((n:Int)<(n:Int))) _ _;rw[bV XY,QJ];exact S
theorem do2 (y0 y1:ByteArray) (y2 y3 Z V:Int) (S O:List aA) (ps:List Pce) (p k j x y:Int) (hn:ps.length<=2000000) (L:List Bool) (I:zzB) (r:List Bool) (f:zzI) (u:List Bool) (h1:L.length=es.length) (h2:r.length=ps.length) (h3:f.length=ps.length) (h4:u.length=ps.length)
  (hQ:Q (sV es p L) I r f (yU es ps.length (sV es p L) r f u) 0):aIR F Q es es (es.length:Int) 0 y0 y1 y2 y3 Z V S O ps p k j x y L I r f u:=by
 unfold aIR;refine sN es.length (oQ es p) (fun _ c=>c.length=es.length) (fun c=>Q c I r f (yU es ps.length c r f u) 0) (fun m i c=>aDO F _ m es es (es.length:Int) i y0 y1 y2 y3 Z V S O ps p k j x y c I r f u) (fun c i hi J=>?_) (fun m i c hi J G=>?_) (fun m c J hq=>?_) F 0 L XY XY h1 hQ
 ·unfold oQ;cases ofB (es.getD i default) p with
  |true=>rw[QX,JM];exact J
  |false=>exact J
 ·show cond (decide ((i:Int)<(es.length:Int))) _ _;rw[bN XY,QX,QV,cO hi XY];refine⟨⟨XY,XY⟩,?_⟩;show cond (ofB (es.getD i default) p) _ _;unfold oQ at G;cases hb:ofB (es.getD i default) p with
  |true=>
   rw[hb,QX] at G;exact⟨⟨XY,XY⟩,G⟩
  |false=>
   rw[hb,QJ] at G;exact G
 ·show cond (decide ((es.length:Int)<(es.length:Int))) _ _;rw[bV XY,QJ];exact do1 F Q hF es he ps.length hn c I r f u J h2 h3 h4 hq
theorem do0 (y0 y1:ByteArray) (y2 y3 y4 Z:Int) (V S:List aA) (ps:List Pce) (p k j x y:Int) (hn:ps.length<=2000000) (G:List Bool) (f:zzB) (J:List Bool) (I:zzI) (u:List Bool) (h0:f.length=ps.length) (h1:G.length=es.length) (h2:J.length=ps.length) (h3:I.length=ps.length) (h4:u.length=ps.length)
  (h5:∀r∈f,r.length<=2000000) (h6:0<=p/\p<ps.length) (h7:0<=k->k<(f.getD p.toNat default).length)
  (L:Q (kD es ps.length G f J I u p k j).1 (kD es ps.length G f J I u p k j).2.1 (kD es ps.length G f J I u p k j).2.2.1 (kD es ps.length G f J I u p k j).2.2.2.1 (kD es ps.length G f J I u p k j).2.2.2.2.1 (kD es ps.length G f J I u p k j).2.2.2.2.2):
  aEL F Q f (f.length:Int) 0 es y0 y1 y2 y3 y4 Z V S ps p k j x y G J I u []:=by
 unfold aEL;have hl:f.length<=2000000:=XY;refine aA1 f (fun r=>r) (fun m=>m=f) (fun n i m=>aDP F _ n f (f.length:Int) i es y0 y1 y2 y3 y4 Z V S ps p k j x y G J I u m) (fun n i m hm hi hw=>?_) (fun n m hm=>?_) F 0 [] rfl XY XY XU
 ·show cond (decide ((i:Int)<(f.length:Int))) _ _;rw[bN XY,QX,QV,cO hi XY];exact⟨⟨XY,XY⟩,by have:=h5 _ (fJ hi);omega,XY,hw⟩
 ·subst hm;show cond (decide ((m.length:Int)<(m.length:Int))) _ _;rw[bV XY,QJ];unfold kD at L;show cond (decide (0<=k)) _ _;cases hk:decide (0<=k) with
  |true=>
   have O:=JC hk;rw[hk,QX] at L;rw[QX];exact⟨⟨h6.1,XY⟩,⟨O,h7 O⟩,do1 F Q hF es he ps.length hn G _ J I u h1 h2 h3 h4 L⟩
  |false=>
   rw[hk,QJ] at L;rw[QJ];exact⟨⟨h6.1,XY⟩,⟨h6.1,XY⟩,do2 F Q hF es he y0 y1 y2 y3 y4 Z V S ps p k j x y hn G m _ _ u h1 (by rw[JM];exact h2) (by rw[JM];exact h3) h4 L⟩
theorem bTL (y0 y1:ByteArray) (y2 y3 S O:Int) (L y7:List aA) (ps:List Pce) (p k j x y:Int) (hn:ps.length<=2000000) (Z:∀q∈ps,q.Rects.length<=2000000/\q.Cuts.length<=2000000) (hcl:L.length<=2000000) (u:List Bool) (f:zzB) (J:List Bool) (I:zzI) (G:List Bool)
  (hfit:lX u f J I G ps es.length=true) (h6:0<=p/\p<ps.length) (h7:k<(ps.getD p.toNat default).Cuts.length)
  (V:Q (doT S O L ps es u f J I G p k j x y).1 (doT S O L ps es u f J I G p k j x y).2.1 (doT S O L ps es u f J I G p k j x y).2.2.1 (doT S O L ps es u f J I G p k j x y).2.2.2.1 (doT S O L ps es u f J I G p k j x y).2.2.2.2.1 (doT S O L ps es u f J I G p k j x y).2.2.2.2.2):
  (yD u f J I G es p k j x y)/\cond (!(sM u f J I G es p k j x y)) (Q [] [] [] [] [] 12)
   (((((decide (k<0))&&(j==0))=true->((0<=p/\p<ps.length)/\aDw (ps.getD p.toNat default).Name (ps.getD p.toNat default).Material (ps.getD p.toNat default).Gauge (ps.getD p.toNat default).Grain (ps.getD p.toNat default).Rects (ps.getD p.toNat default).Cuts (ps.getD p.toNat default).Forms)))/\cond (((decide (k<0))&&(j==0))&&(aBy (ps.getD p.toNat default).Rects)) (Q [] [] [] [] [] 15)
    ((aDq u f J I G y0 y1 y2 y3 S O L y7 ps es p k j x y)/\cond (!(aC1 S O L ps es u p k x y)) (Q [] [] [] [] [] 14)
     ((u.length<=2000000)/\((J.length<=2000000)/\((I.length<=2000000)/\((G.length<=2000000)/\aEL F Q f (f.length:Int) 0 es y0 y1 y2 y3 S O L y7 ps p k j x y u J I G [])))))):=by
 obtain⟨f1,f2,f3,f4,f5,f6⟩:=aAQ hfit;have hp:p.toNat<ps.length:=XY;have hpm:=Z _ (fJ hp);have hlen:=f6 p.toNat hp;have h5:∀r∈f,r.length<=2000000:=fun r hr=>by
  obtain⟨i,hi,rfl⟩:=List.mem_iff_getElem.1 hr;have:=f6 i XY;rw[QG,QL hi,Option.getD_some] at this;have h:=Z _ (fJ (show i<ps.length by omega));omega
 have hord:yD u f J I G es p k j x y:=by
  unfold yD;refine⟨⟨h6.1,XY⟩,?_⟩;cases G.getD p.toNat default with
  |true=>trivial
  |false=>
   rw[QJ];cases hk:decide (0<=k) with
   |true=>
    have hk':=JC hk;exact⟨⟨h6.1,XY⟩,hk',XY⟩
   |false=>exact⟨⟨h6.1,XY⟩,fun _=>⟨⟨h6.1,XY⟩,show (f.getD p.toNat default).length<=2000000 by omega⟩,fun _=>⟨XY,f1⟩⟩
 unfold doT at V;refine⟨hord,?_⟩;cases ho:!(sM u f J I G es p k j x y) with
 |true=>
  rw[ho] at V;exact V
 |false=>
  rw[ho,QJ] at V;rw[QJ];refine⟨fun _=>⟨⟨h6.1,XY⟩,hpm.1⟩,?_⟩;cases hsm:((decide (k<0))&&(j==0))&&(aBy (ps.getD p.toNat default).Rects) with
  |true=>
   rw[hsm] at V;exact V
  |false=>
   rw[hsm,QJ] at V;rw[QJ];refine⟨⟨⟨h6.1,XY⟩,fun _=>h7,hcl,hn,fun q hq=>(Z q hq).1,he,f1⟩,?_⟩;cases hld:!(aC1 S O L ps es u p k x y) with
   |true=>
    rw[hld] at V;exact V
   |false=>
    rw[hld,QJ] at V;rw[QJ];exact⟨XY,XY,XY,XY,do0 F Q hF es he y0 y1 y2 y3 S O L y7 ps p k j x y hn u f J I G f2 f1 f3 f4 f5 h5 ⟨h6.1,XY⟩ (fun _=>XY) V⟩
end
def aDs (y0 Z:ByteArray) (V S O L:Int) (r J:List aA) (f:List Pce) (u:List Edg) (I:List Bool) (qo:zzB) (qt:List Bool) (qm:zzI) (qq:List Bool) (qb qn G qu qv:Int):Prop:=
 f.length<=2000000/\(∀q∈f,q.Rects.length<=2000000/\q.Cuts.length<=2000000)/\r.length<=2000000/\u.length<=2000000
def jJ (y0 y1:ByteArray) (y2 y3 J I:Int) (G y7:List aA) (u:List Pce) (a1:List Edg) (r:List Bool) (Z:zzB) (S:List Bool) (qm:zzI) (V:List Bool) (qb qn f O L:Int):eS:=
 doS J I G u a1 r Z S qm V qb qn f O L
theorem bKv (y0 y1:ByteArray) (y2 y3 y4 Z:Int) (V S:List aA) (r:List Pce) (O:List Edg) (L:List Bool) (G:zzB) (J:List Bool) (u:zzI) (I:List Bool) (p k j x y:Int) (h:aDs y0 y1 y2 y3 y4 Z V S r O L G J u I p k j x y):
  ∃F,∀Q:List Bool->zzB->List Bool->zzI->List Bool->Int->Prop,Q ((jJ y0 y1 y2 y3 y4 Z V S r O L G J u I p k j x y).1) ((jJ y0 y1 y2 y3 y4 Z V S r O L G J u I p k j x y).2.1) ((jJ y0 y1 y2 y3 y4 Z V S r O L G J u I p k j x y).2.2.1) ((jJ y0 y1 y2 y3 y4 Z V S r O L G J u I p k j x y).2.2.2.1) ((jJ y0 y1 y2 y3 y4 Z V S r O L G J u I p k j x y).2.2.2.2.1) ((jJ y0 y1 y2 y3 y4 Z V S r O L G J u I p k j x y).2.2.2.2.2)->
   aQT F y0 y1 y2 y3 y4 Z V S r O L G J u I p k j x y Q:=by
 obtain⟨h1,h2,h3,h4⟩:=h;obtain⟨F,hF⟩:∃F:Nat,4000000<F:=⟨4000001,XY⟩;refine⟨F,fun Q f=>?_⟩;unfold jJ doS at f;refine⟨show r.length<=2000000 from h1,?_⟩;show cond (((!(lX L G J u I r O.length))||(decide (p<0)))||(decide ((r.length:Int)<=p))) _ _;cases c1:((!(lX L G J u I r O.length))||(decide (p<0)))||(decide ((r.length:Int)<=p)) with
 |true=>rw[c1] at f;exact f
 |false=>
 rw[c1,QJ] at f;rw[QJ];simp only[QC,Bool.not_eq_false',QF] at c1;obtain⟨⟨g1,g2⟩,g3⟩:=c1;cases c2:decide (k<(-1)) with
 |true=>rw[c2] at f;exact f
 |false=>
 rw[c2,QJ] at f;rw[QJ];refine⟨⟨XY,XY⟩,?_⟩;show cond (decide (((r.getD p.toNat default).Cuts.length:Int)<=k)) _ _;cases c3:decide (((r.getD p.toNat default).Cuts.length:Int)<=k) with
 |true=>rw[c3] at f;exact f
 |false=>
 rw[c3,QJ] at f;rw[QJ];have g4:=JR c3;cases c4:decide (j<0) with
 |true=>rw[c4] at f;exact f
 |false=>
 rw[c4,QJ] at f;rw[QJ];cases c5:decide (4<j) with
 |true=>rw[c5] at f;exact f
 |false=>
 rw[c5,QJ] at f;rw[QJ];have tail:=bTL F Q hF O h4 y0 y1 y2 y3 y4 Z V S r p k j x y h1 h2 h3 L G J u I g1 ⟨XY,XY⟩ XY;cases c6:decide (0<=k) with
 |true=>
  rw[c6,QX] at f;rw[QX];cases c7:j !=0 with
  |true=>rw[c7] at f;exact f
  |false=>
   rw[c7,QJ] at f;rw[QJ];exact tail f
 |false=>
  rw[c6,QJ] at f;rw[QJ];exact tail f
end
end Go.Proofs.YtjjbojomlfgjlaaGreatDoor
namespace Go.Proofs.YtjjbojomlfgjlaaGreatDoor
open Go.Vm Go.RowKit
set_option linter.unusedVariables false
noncomputable section
def aCT (S O:ByteArray) (L J I G:Int) (u r:List aA) (f:List Pce) (qy:List Bool) (qaa:zzB) (qab:List Bool) (qac:zzI) (qad:List Bool) (qz qal qm Z V:Int):Prop:=(rI S O L J I G u r f)/\(cond (((dK S O L J I G u r f).2) !=0) (True) ((aDs S O L J I G u r f ((dK S O L J I G u r f).1) qy qaa qab qac qad qz qal qm Z V)))
def jY (S O:ByteArray) (L J I G:Int) (u r:List aA) (f:List Pce) (qy:List Bool) (qaa:zzB) (qab:List Bool) (qac:zzI) (qad:List Bool) (qz qal qm Z V:Int):(List Bool)×(zzB)×(List Bool)×(zzI)×(List Bool)×Int:=cond (((dK S O L J I G u r f).2) !=0) (([],[],[],[],[],(dK S O L J I G u r f).2)) (((jJ S O L J I G u r f ((dK S O L J I G u r f).1) qy qaa qab qac qad qz qal qm Z V).1,(jJ S O L J I G u r f ((dK S O L J I G u r f).1) qy qaa qab qac qad qz qal qm Z V).2.1,(jJ S O L J I G u r f ((dK S O L J I G u r f).1) qy qaa qab qac qad qz qal qm Z V).2.2.1,(jJ S O L J I G u r f ((dK S O L J I G u r f).1) qy qaa qab qac qad qz qal qm Z V).2.2.2.1,(jJ S O L J I G u r f ((dK S O L J I G u r f).1) qy qaa qab qac qad qz qal qm Z V).2.2.2.2.1,(jJ S O L J I G u r f ((dK S O L J I G u r f).1) qy qaa qab qac qad qz qal qm Z V).2.2.2.2.2))
def aBY:Nat->Nat->Nat->Canon UU:=fun o b r=>cond (Nat.beq b 0) ⟨[2,3,6,7,8,9,11,33,34,35],[3,6,11],[],[],[]⟩ (⟨[],[],[],[],[]⟩)
def bAn (Z V:ByteArray) (S O L J:Int) (I G:List aA) (ps:List Pce) (f:List Itm) (Q:List Bool->zzB->List Bool->zzI->List Bool->Int->Int->Prop) (i0:Int->Int->List Edg->List Itm->Int->Int->ByteArray->ByteArray->Int->Int->Int->Int->List aA->List aA->List Pce->List Bool->zzB->List Bool->zzI->List Bool->Prop):Prop:=(let u:=(dK Z V S O L J I G ps);((rI Z V S O L J I G ps)/\cond (u.2 !=0) (Q ([]) ([]) ([]) ([]) ([]) 0 u.2) (cond (decide (128<(f.length:Int))) (Q ([]) ([]) ([]) ([]) ([]) 0 4) ((let r:=(jR Z V S O L J I G ps (u.1.length:Int));((aDv Z V S O L J I G ps (u.1.length:Int))/\i0 0 0 u.1 f (f.length:Int) 0 Z V S O L J I G ps r.1 r.2.1 r.2.2.1 r.2.2.2.1 r.2.2.2.2))))))
def bAm (rec:Int->Int->List Edg->List Itm->Int->Int->ByteArray->ByteArray->Int->Int->Int->Int->List aA->List aA->List Pce->List Bool->zzB->List Bool->zzI->List Bool->Prop) (x0:Int->Int->List Edg->List Itm->Int->Int->ByteArray->ByteArray->Int->Int->Int->Int->List aA->List aA->List Pce->List Bool->zzB->List Bool->zzI->List Bool->Prop) (x1:Int->Int->List Edg->List Itm->Int->Int->ByteArray->ByteArray->Int->Int->Int->Int->List aA->List aA->List Pce->List Bool->zzB->List Bool->zzI->List Bool->Prop) (t7 t8:Int) (I:List Edg) (r:List Itm) (u f:Int) (bQ bP:ByteArray) (bR Z V J:Int) (L O:List aA) (S:List Pce) (gU:List Bool) (gT:zzB) (gS:List Bool) (gR:zzI) (gQ:List Bool):Prop:=cond (decide (f<u)) ((let e0:=(r.getD f.toNat default);((0<=f/\f<r.length)/\(let G:=(jJ bQ bP bR Z V J L O S I gU gT gS gR gQ e0.Piece e0.Hole e0.Joints e0.Lead_X e0.Lead_Y);((aDs bQ bP bR Z V J L O S I gU gT gS gR gQ e0.Piece e0.Hole e0.Joints e0.Lead_X e0.Lead_Y)/\cond (G.2.2.2.2.2 !=0) (x0 f G.2.2.2.2.2 I r u f bQ bP bR Z V J L O S gU gT gS gR gQ) (rec t7 t8 I r u (aB (f+1)) bQ bP bR Z V J L O S G.1 G.2.1 G.2.2.1 G.2.2.2.1 G.2.2.2.2.1)))))) (x1 t7 t8 I r u f bQ bP bR Z V J L O S gU gT gS gR gQ)
def bQ3 (Q:List Bool->zzB->List Bool->zzI->List Bool->Int->Int->Prop) (r f:Int) (J:List Edg) (I:List Itm) (G u:Int) (bQ bP:ByteArray) (bR bS dH fX:Int) (fW fV:List aA) (fP:List Pce) (L:List Bool) (O:zzB) (S:List Bool) (V:zzI) (Z:List Bool):Prop:=Q ([]) ([]) ([]) ([]) ([]) r f
def bQ2 (Q:List Bool->zzB->List Bool->zzI->List Bool->Int->Int->Prop) (Z V:Int) (S:List Edg) (O:List Itm) (L J:Int) (bQ bP:ByteArray) (bR bS dH fX:Int) (fW fV:List aA) (fP:List Pce) (f:List Bool) (r:zzB) (u:List Bool) (G:zzI) (I:List Bool):Prop:=Q f r u G I 0 0
def aGy (F:Nat) (I:Int->Int->List Edg->List Itm->Int->Int->ByteArray->ByteArray->Int->Int->Int->Int->List aA->List aA->List Pce->List Bool->zzB->List Bool->zzI->List Bool->Prop) (G:Int->Int->List Edg->List Itm->Int->Int->ByteArray->ByteArray->Int->Int->Int->Int->List aA->List aA->List Pce->List Bool->zzB->List Bool->zzI->List Bool->Prop):Nat->Int->Int->List Edg->List Itm->Int->Int->ByteArray->ByteArray->Int->Int->Int->Int->List aA->List aA->List Pce->List Bool->zzB->List Bool->zzI->List Bool->Prop
 |0,_,_,_,_,_,_,_,_,_,_,_,_,_,_,_,_,_,_,_,_=>False
 |n+1,O,L,J,u,r,f,bQ,bP,bR,bS,dH,fX,fW,fV,fP,S,V,Z,gR,gQ=>bAm (aGy F I G n) I G O L J u r f bQ bP bR bS dH fX fW fV fP S V Z gR gQ
def aNb (F:Nat) (Q:List Bool->zzB->List Bool->zzI->List Bool->Int->Int->Prop) (J I:Int) (G:List Edg) (u:List Itm) (r f:Int) (bQ bP:ByteArray) (bR bS dH fX:Int) (fW fV:List aA) (fP:List Pce) (L:List Bool) (O:zzB) (S:List Bool) (V:zzI) (Z:List Bool):Prop:=aGy F (fun J I G u r f bQ bP bR bS dH fX fW fV fP L O S V Z=>bQ3 Q J I G u r f bQ bP bR bS dH fX fW fV fP L O S V Z) (fun J I G u r f bQ bP bR bS dH fX fW fV fP L O S V Z=>bQ2 Q J I G u r f bQ bP bR bS dH fX fW fV fP L O S V Z) F J I G u r f bQ bP bR bS dH fX fW fV fP L O S V Z
def aQk (F:Nat) (S O:ByteArray) (L J I G:Int) (u r:List aA) (ps:List Pce) (f:List Itm) (Q:List Bool->zzB->List Bool->zzI->List Bool->Int->Int->Prop):Prop:=bAn S O L J I G u r ps f Q (aNb F Q)
abbrev aAq:=List Bool×zzB×List Bool×zzI×List Bool×Int×Int
def qH (s:eS) (i e:Int):aAq:=(s.1,s.2.1,s.2.2.1,s.2.2.2.1,s.2.2.2.2.1,i,e)
def oM (D:eS->Itm->eS):List Itm->Nat->eS->aAq
 |[],_,s=>qH s 0 0
 |x::r,i,s=>cond ((D s x).2.2.2.2.2 !=0) (qH (iZ 0) i (D s x).2.2.2.2.2) (oM D r (i+1) (D s x))
theorem bIN (D:eS->Itm->eS) (l:List Itm) (Q:aAq->Prop) (W:Nat->Int->eS->Prop) (u:∀n (i:Nat) s,i<l.length->cond ((D s (l.getD i default)).2.2.2.2.2 !=0) (Q (qH (iZ 0) i (D s (l.getD i default)).2.2.2.2.2)) (W n ((i+1:Nat):Int) (D s (l.getD i default)))->W (n+1) i s)
  (G:∀n s,Q (qH s 0 0)->W (n+1) l.length s):∀(n i:Nat) (s:eS),i<=l.length->l.length<n+i->Q (oM D (l.drop i) i s)->W n i s:=by
 intro n
 induction n with
 |zero=>intro i s J I;omega
 |succ n r=>
  intro i s J I f
  by_cases h:i<l.length
  ·rw[mX l i h] at f;refine u n i s h ?_;unfold oM at f;cases hb:(D s (l.getD i default)).2.2.2.2.2 !=0 with
   |true=>
    rw[hb] at f;exact f
   |false=>
    rw[hb] at f;exact r (i+1) _ XY XY f
  ·obtain rfl:i=l.length:=XY;rw[KX] at f;exact G n s f
def eZ (w h:Int) (cl:List aA) (ps:List Pce) (es:List Edg) (s:eS) (x:Itm):eS:=doS w h cl ps es s.1 s.2.1 s.2.2.1 s.2.2.2.1 s.2.2.2.2.1 x.Piece x.Hole x.Joints x.Lead_X x.Lead_Y
def iI (ps:List Pce) (es:List Edg):eS:=(List.replicate es.length false,ps.map aAC,List.replicate ps.length false,List.replicate ps.length 0,List.replicate ps.length false,0)
def aCO (O L:ByteArray) (J I G u:Int) (f r:List aA) (ps:List Pce) (S:List Itm):Prop:=
 rI O L J I G u f r ps/\(((dK O L J I G u f r ps).2 !=0)=false->(dK O L J I G u f r ps).1.length<=2000000/\ps.length<=2000000/\(∀q∈ps,q.Rects.length<=2000000/\q.Cuts.length<=2000000)/\f.length<=2000000)
def eU (S O:ByteArray) (L J G u:Int) (r I:List aA) (ps:List Pce) (f:List Itm):aAq:=
 cond ((dK S O L J G u r I ps).2 !=0) (qH (iZ 0) 0 (dK S O L J G u r I ps).2) (cond (decide (128<(f.length:Int))) (qH (iZ 0) 0 4)
  (oM (eZ G u r ps (dK S O L J G u r I ps).1) f 0 (iI ps (dK S O L J G u r I ps).1)))
theorem bL1 (S O:ByteArray) (L J G u:Int) (r I:List aA) (ps:List Pce) (f:List Itm) (h:aCO S O L J G u r I ps f):∃F,∀Q:List Bool->zzB->List Bool->zzI->List Bool->Int->Int->Prop,Q ((eU S O L J G u r I ps f).1) ((eU S O L J G u r I ps f).2.1) ((eU S O L J G u r I ps f).2.2.1) ((eU S O L J G u r I ps f).2.2.2.1) ((eU S O L J G u r I ps f).2.2.2.2.1) ((eU S O L J G u r I ps f).2.2.2.2.2.1) ((eU S O L J G u r I ps f).2.2.2.2.2.2)->aQk F S O L J G u r I ps f Q:=by
 obtain⟨h1,h2⟩:=h;refine⟨f.length+1,fun Q V=>?_⟩;unfold eU at V;refine⟨h1,?_⟩;cases he:(dK S O L J G u r I ps).2 !=0 with
 |true=>
  rw[he] at V;exact V
 |false=>
 rw[he,QJ] at V;rw[QJ];obtain⟨g1,g2,g3,g4⟩:=h2 he;cases Z:decide (128<(f.length:Int)) with
 |true=>
  rw[Z] at V;exact V
 |false=>
 rw[Z,QJ] at V;rw[QJ];have hl':=JR Z;generalize (dK S O L J G u r I ps).1=es at V g1 ⊢;refine⟨⟨XY,XY,g2,fun p hp=>by have:=(g3 p hp).2;omega⟩,?_⟩;have e1:(jR S O L J G u r I ps (es.length:Int))=(List.replicate es.length false,ps.map aAC,List.replicate ps.length false,List.replicate ps.length 0,List.replicate ps.length false):=by
  unfold jR;rw[QV]
 rw[e1];unfold aNb;refine bIN (eZ G u r ps es) f (fun t=>Q t.1 t.2.1 t.2.2.1 t.2.2.2.1 t.2.2.2.2.1 t.2.2.2.2.2.1 t.2.2.2.2.2.2) (fun n i s=>aGy (f.length+1) _ _ n 0 0 es f (f.length:Int) i S O L J G u r I ps s.1 s.2.1 s.2.2.1 s.2.2.2.1 s.2.2.2.2.1) (fun n i s hi hw=>?_) (fun n s hq=>?_) (f.length+1) 0 (iI ps es) XY XY V
 ·show cond (decide ((i:Int)<(f.length:Int))) _ _;rw[bN XY,QX,QV,cO hi XY];refine⟨⟨XY,XY⟩,⟨g2,g3,g4,g1⟩,?_⟩;exact hw
 ·show cond (decide ((f.length:Int)<(f.length:Int))) _ _;rw[bV XY,QJ];exact hq
def aHv (S O:ByteArray) (L J I G:Int) (u r:List aA) (f:List Pce) (V:List Itm):Prop:=(aCO S O L J I G u r f V)
def jX (S O:ByteArray) (L J I G:Int) (u r:List aA) (f:List Pce) (V:List Itm):(List Bool)×(zzB)×(List Bool)×(zzI)×(List Bool)×Int×Int:=((eU S O L J I G u r f V).1,(eU S O L J I G u r f V).2.1,(eU S O L J I G u r f V).2.2.1,(eU S O L J I G u r f V).2.2.2.1,(eU S O L J I G u r f V).2.2.2.2.1,(eU S O L J I G u r f V).2.2.2.2.2.1,(eU S O L J I G u r f V).2.2.2.2.2.2)
def aBF:Nat->Nat->Nat->Canon UU:=fun o b r=>cond (Nat.beq b 0) ⟨[4,24,25,26],[],[],[],[]⟩ (⟨[],[],[],[],[]⟩)
def aZ7 (V S:ByteArray) (O L J I:Int) (G u:List aA) (r:List Pce) (Z:List Itm) (Q:Int->Prop) (i0:Int->zzB->Int->Int->Prop):Prop:=(let f:=(jX V S O L J I G u r Z);((aHv V S O L J I G u r Z)/\cond (f.2.2.2.2.2.2 !=0) (Q f.2.2.2.2.2.2) (((yE f.2.2.1 false)/\cond (pO f.2.2.1 false) (Q 12) (i0 0 f.2.1 (f.2.1.length:Int) 0)))))
def aZ6 (G:Int->zzB->Int->Int->Prop) (L:Int->zzB->Int->Int->Prop) (J:Int->zzB->Int->Int->Prop) (I:Int) (r:zzB) (u f:Int):Prop:=cond (decide (f<u)) ((let e0:=(r.getD f.toNat default);((0<=f/\f<r.length)/\((yE e0 false)/\cond (pO e0 false) (L 12 r u f) (G I r u (aB (f+1))))))) (J I r u f)
def bPw (Q:Int->Prop) (f:Int) (G:zzB) (u r:Int):Prop:=Q f
def bPv (Q:Int->Prop) (G:Int) (u:zzB) (r f:Int):Prop:=Q 0
def aG7 (F:Nat) (I:Int->zzB->Int->Int->Prop) (G:Int->zzB->Int->Int->Prop):Nat->Int->zzB->Int->Int->Prop
 |0,_,_,_,_=>False
 |n+1,J,u,r,f=>aZ6 (aG7 F I G n) I G J u r f
def aIU (F:Nat) (Q:Int->Prop) (G:Int) (u:zzB) (r f:Int):Prop:=aG7 F (fun G u r f=>bPw Q G u r f) (fun G u r f=>bPv Q G u r f) F G u r f
def aQW (F:Nat) (S O:ByteArray) (L J I G:Int) (u r:List aA) (f:List Pce) (V:List Itm) (Q:Int->Prop):Prop:=aZ7 S O L J I G u r f V Q (aIU F Q)
def uQ (l:List Bool):Bool:=pO l false
def aCm (t:aAq):Int:=cond (t.2.2.2.2.2.2 !=0) t.2.2.2.2.2.2 (cond (uQ t.2.2.1) 12 (cond (t.2.1.any uQ) 12 0))
def aDu (V S:ByteArray) (O L J I:Int) (G u:List aA) (f:List Pce) (Z:List Itm):Prop:=
 aCO V S O L J I G u f Z/\(((eU V S O L J I G u f Z).2.2.2.2.2.2 !=0)=false->(eU V S O L J I G u f Z).2.2.1.length<=2000000/\(eU V S O L J I G u f Z).2.1.length<=2000000/\∀r∈(eU V S O L J I G u f Z).2.1,r.length<=2000000)
def lQ (S O:ByteArray) (L J I G:Int) (u r:List aA) (f:List Pce) (V:List Itm):Int:=aCm (eU S O L J I G u r f V)
theorem bKy (V S:ByteArray) (O L J I:Int) (G u:List aA) (r:List Pce) (Z:List Itm) (h:aDu V S O L J I G u r Z):∃F,∀Q:Int->Prop,Q (lQ V S O L J I G u r Z)->aQW F V S O L J I G u r Z Q:=by
 obtain⟨h1,h2⟩:=h;refine⟨2000000+1,fun Q f=>?_⟩;unfold lQ aCm at f;refine⟨h1,?_⟩;show cond ((eU V S O L J I G u r Z).2.2.2.2.2.2 !=0) _ _
 revert f h2
 generalize hr:eU V S O L J I G u r Z=t;intro h2 f;cases he:t.2.2.2.2.2.2 !=0 with
 |true=>
  rw[he] at f;show Q (eU V S O L J I G u r Z).2.2.2.2.2.2;rw[hr];exact f
 |false=>
 obtain⟨g1,g2,g3⟩:=h2 he;rw[he,QJ] at f;rw[QJ];show yE (eU V S O L J I G u r Z).2.2.1 false/\cond (pO (eU V S O L J I G u r Z).2.2.1 false) (Q 12) (aIU _ Q 0 (eU V S O L J I G u r Z).2.1 ((eU V S O L J I G u r Z).2.1.length:Int) 0);rw[hr];refine⟨g1,?_⟩;show cond (uQ t.2.2.1) _ _;cases hd:uQ t.2.2.1 with
 |true=>
  rw[hd] at f;exact f
 |false=>
 rw[hd,QJ] at f;rw[QJ];generalize t.2.1=hs at f g2 g3 ⊢;unfold aIU;refine mH hs uQ (Q 12) (Q 0) (fun n i=>aG7 (2000000+1) _ _ n 0 hs (hs.length:Int) i) (fun n i hi hx hw=>?_) (fun n hy=>?_) (2000000+1) XY (fun q=>by rw[q] at f;exact f) (fun q=>by rw[q] at f;exact f)
 ·show cond (decide ((i:Int)<(hs.length:Int))) _ _;rw[bN XY,QX,QV,cO hi XY];refine⟨⟨XY,XY⟩,g3 _ (fJ hi),?_⟩;show cond (uQ (hs.getD i default)) _ _;cases hb:uQ (hs.getD i default) with
  |true=>exact hx hb
  |false=>exact hw hb
 ·show cond (decide ((hs.length:Int)<(hs.length:Int))) _ _;rw[bV XY,QJ];exact hy
def qY:Nat->Nat->Nat->Canon UU:=fun o b r=>cond (Nat.beq b 0) ⟨[1,2,7,9,11,12,41,42,43],[2,9],[(.tmp 11,157,.op)],[],[]⟩ (cond (Nat.beq b 2) ⟨[1,2,7,9,11,12,41,42,43,48,49,50],[2,9],[(.tmp 11,157,.op)],[],[]⟩ (cond (Nat.beq b 4) ⟨[2,7,9,11,12,68,69,70],[2,9],[(.tmp 11,157,.op),(.tmp 12,158,.op)],[],[]⟩ (cond (Nat.beq b 6) ⟨[2,7,9,11,12,18,19,68,69,70,103,104,105],[2,9,18],[(.tmp 11,157,.op),(.tmp 12,158,.op)],[],[]⟩ (⟨[],[],[],[],[]⟩))))
def aZA (S O:ByteArray) (L J I G:Int) (u r:List aA) (f:List Pce) (Z:List Itm) (Q:List Opn->Int->Prop) (i0:List Itm->List Edg->List Pce->Int->Int->ByteArray->ByteArray->Int->Int->Int->Int->List aA->List aA->List Pce->List Bool->zzB->List Bool->zzI->List Bool->List Opn->Prop):Prop:=((aDu S O L J I G u r f Z)/\cond ((lQ S O L J I G u r f Z) !=0) (Q ([]) (lQ S O L J I G u r f Z)) ((let r0:=(dK S O L J I G u r f);((rI S O L J I G u r f)/\(let V:=(kE S O L J I G u r f);((aEA S O L J I G u r f)/\i0 Z r0.1 f (f.length:Int) 0 S O L J I G u r f V.1 V.2.1 V.2.2.1 V.2.2.2.1 V.2.2.2.2.1 ([])))))))
def aYz (rec:List Itm->List Edg->List Pce->Int->Int->ByteArray->ByteArray->Int->Int->Int->Int->List aA->List aA->List Pce->List Bool->zzB->List Bool->zzI->List Bool->List Opn->Prop) (x0:List Itm->List Edg->List Pce->Int->Int->ByteArray->ByteArray->Int->Int->Int->Int->List aA->List aA->List Pce->List Bool->zzB->List Bool->zzI->List Bool->List Opn->Prop) (t1:List Itm) (G:List Edg) (r:List Pce) (u f:Int) (aR aQ:ByteArray) (aV aU bB bA:Int) (V Z:List aA) (S:List Pce) (aP:List Bool) (aT:zzB) (I:List Bool) (J:zzI) (L:List Bool) (O:List Opn) (i1:List Itm->List Edg->List Pce->Int->Int->List aA->Int->Int->ByteArray->ByteArray->Int->Int->Int->Int->List aA->List aA->List Pce->List Bool->zzB->List Bool->zzI->List Bool->List Opn->Prop):Prop:=cond (decide (f<u)) ((let e0:=(r.getD f.toNat default);((0<=f/\f<r.length)/\i1 t1 G r u f e0.Forms (e0.Forms.length:Int) 0 aR aQ aV aU bB bA V Z S aP aT I J L O))) (x0 t1 G r u f aR aQ aV aU bB bA V Z S aP aT I J L O)
def aZB (Q:List Opn->Int->Prop) (t1:List Itm) (f:List Edg) (t41:List Pce) (t42 t43:Int) (aR aQ:ByteArray) (aV aU V Z:Int) (O S:List aA) (L:List Pce) (aP:List Bool) (aT:zzB) (u:List Bool) (G:zzI) (I:List Bool) (J:List Opn) (r:List Edg->List Itm->Int->Int->ByteArray->ByteArray->Int->Int->Int->Int->List aA->List aA->List Pce->List Bool->zzB->List Bool->zzI->List Bool->List Opn->List Opn->Prop):Prop:=r f t1 (t1.length:Int) 0 aR aQ aV aU V Z O S L aP aT u G I J ([])
def aYy (O:List Itm->List Edg->List Pce->Int->Int->List aA->Int->Int->ByteArray->ByteArray->Int->Int->Int->Int->List aA->List aA->List Pce->List Bool->zzB->List Bool->zzI->List Bool->List Opn->Prop) (x0:List Itm->List Edg->List Pce->Int->Int->List aA->Int->Int->ByteArray->ByteArray->Int->Int->Int->Int->List aA->List aA->List Pce->List Bool->zzB->List Bool->zzI->List Bool->List Opn->Prop) (t1:List Itm) (S:List Edg) (J:List Pce) (I G:Int) (r:List aA) (u f:Int) (aR aQ:ByteArray) (aV aU bB bA:Int) (bD bC:List aA) (bI:List Pce) (aP:List Bool) (aT:zzB) (V:List Bool) (Z:zzI) (dQ:List Bool) (L:List Opn):Prop:=cond (decide (f<u)) ((let e0:=(r.getD f.toNat default);((0<=f/\f<r.length)/\(((L.length+([(Opn.mk 3 e0.X e0.Y e0.W e0.H 0)]).length)*48<=140737488355328)/\O t1 S J I G r u (aB (f+1)) aR aQ aV aU bB bA bD bC bI aP aT V Z dQ (L++([(Opn.mk 3 e0.X e0.Y e0.W e0.H 0)])))))) (x0 t1 S J I G r u f aR aQ aV aU bB bA bD bC bI aP aT V Z dQ L)
def bPk (G:List Itm->List Edg->List Pce->Int->Int->ByteArray->ByteArray->Int->Int->Int->Int->List aA->List aA->List Pce->List Bool->zzB->List Bool->zzI->List Bool->List Opn->Prop) (x0:List Itm->List Edg->List Pce->Int->Int->ByteArray->ByteArray->Int->Int->Int->Int->List aA->List aA->List Pce->List Bool->zzB->List Bool->zzI->List Bool->List Opn->Prop) (t1:List Itm) (I:List Edg) (u:List Pce) (r f:Int) (t48:List aA) (t49 t50:Int) (aR aQ:ByteArray) (aV aU bB bA:Int) (Z bC:List aA) (V:List Pce) (aP:List Bool) (aT:zzB) (J:List Bool) (L:zzI) (O:List Bool) (S:List Opn):Prop:=G t1 I u r (aB (f+1)) aR aQ aV aU bB bA Z bC V aP aT J L O S
def aYx (rec:List Edg->List Itm->Int->Int->ByteArray->ByteArray->Int->Int->Int->Int->List aA->List aA->List Pce->List Bool->zzB->List Bool->zzI->List Bool->List Opn->List Opn->Prop) (x0:List Edg->List Itm->Int->Int->ByteArray->ByteArray->Int->Int->Int->Int->List aA->List aA->List Pce->List Bool->zzB->List Bool->zzI->List Bool->List Opn->List Opn->Prop) (L:List Edg) (u:List Itm) (G r:Int) (aR aQ:ByteArray) (aV aU bB bA:Int) (V Z:List aA) (J:List Pce) (aP:List Bool) (aT:zzB) (dS:List Bool) (dR:zzI) (dQ:List Bool) (S gZ:List Opn) (i3:List Edg->Int->List Itm->Int->Int->List Edg->Int->Int->ByteArray->ByteArray->Int->Int->Int->Int->List aA->List aA->List Pce->List Bool->zzB->List Bool->zzI->List Bool->Int->Int->Int->Int->Int->List Opn->List Opn->Prop):Prop:=cond (decide (r<G)) ((let e0:=(u.getD r.toNat default);((0<=r/\r<u.length)/\(let f:=(bO 1 e0.Lead_X e0.Lead_Y);(((S.length+([(Opn.mk f.1 f.2.1 f.2.2.1 f.2.2.2.1 f.2.2.2.2.1 f.2.2.2.2.2)]).length)*48<=140737488355328)/\cond (decide (0<=e0.Hole)) ((let e2:=(J.getD e0.Piece.toNat default);((0<=e0.Piece/\e0.Piece<J.length)/\(let I:=(e2.Cuts.getD e0.Hole.toNat default);((0<=e0.Hole/\e0.Hole<e2.Cuts.length)/\((((S++([(Opn.mk f.1 f.2.1 f.2.2.1 f.2.2.2.1 f.2.2.2.2.1 f.2.2.2.2.2)])).length+(aHT I.X I.Y I.W I.H).length)*48<=140737488355328)/\(let O:=(jY aR aQ aV aU bB bA V Z J aP aT dS dR dQ e0.Piece e0.Hole e0.Joints e0.Lead_X e0.Lead_Y);((aCT aR aQ aV aU bB bA V Z J aP aT dS dR dQ e0.Piece e0.Hole e0.Joints e0.Lead_X e0.Lead_Y)/\rec L u G (aB (r+1)) aR aQ aV aU bB bA V Z J O.1 O.2.1 O.2.2.1 O.2.2.2.1 O.2.2.2.2.1 ((S++([(Opn.mk f.1 f.2.1 f.2.2.1 f.2.2.2.1 f.2.2.2.2.1 f.2.2.2.2.2)]))++(aHT I.X I.Y I.W I.H)) gZ)))))))) (i3 L e0.Joints u G r L (L.length:Int) 0 aR aQ aV aU bB bA V Z J aP aT dS dR dQ e0.Piece e0.Hole e0.Joints e0.Lead_X e0.Lead_Y (S++([(Opn.mk f.1 f.2.1 f.2.2.1 f.2.2.2.1 f.2.2.2.2.1 f.2.2.2.2.2)])) gZ)))))) (x0 L u G r aR aQ aV aU bB bA V Z J aP aT dS dR dQ S gZ)
def bPj (Q:List Opn->Int->Prop) (J:List Edg) (I:List Itm) (G u:Int) (aR aQ:ByteArray) (aV aU bB bA:Int) (Z bC:List aA) (V:List Pce) (aP:List Bool) (aT:zzB) (L:List Bool) (O:zzI) (S:List Bool) (r f:List Opn):Prop:=(((r.length+f.length)*48<=140737488355328)/\Q (r++f) 0)
def aYw (V:List Edg->Int->List Itm->Int->Int->List Edg->Int->Int->ByteArray->ByteArray->Int->Int->Int->Int->List aA->List aA->List Pce->List Bool->zzB->List Bool->zzI->List Bool->Int->Int->Int->Int->Int->List Opn->List Opn->Prop) (x0:List Edg->Int->List Itm->Int->Int->List Edg->Int->Int->ByteArray->ByteArray->Int->Int->Int->Int->List aA->List aA->List Pce->List Bool->zzB->List Bool->zzI->List Bool->Int->Int->Int->Int->Int->List Opn->List Opn->Prop) (t7:List Edg) (G:Int) (L:List Itm) (J I:Int) (r:List Edg) (u f:Int) (aR aQ:ByteArray) (aV aU bB bA:Int) (bD bC:List aA) (bI:List Pce) (S:List Bool) (aT:zzB) (dS:List Bool) (dR:zzI) (dQ:List Bool) (O nL nK nJ nI:Int) (dM gZ:List Opn):Prop:=cond (decide (f<u)) ((let e0:=(r.getD f.toNat default);((0<=f/\f<r.length)/\(let e1:=(S.getD f.toNat default);((0<=f/\f<S.length)/\cond (e1||((e0.A !=O)&&(e0.B !=O))) (V t7 G L J I r u (aB (f+1)) aR aQ aV aU bB bA bD bC bI S aT dS dR dQ O nL nK nJ nI dM gZ) ((let Z:=(rC e0.qaq e0.qau e0.qar e0.qav (decide (0<G)));(((dM.length+Z.1.length)*48<=140737488355328)/\(((gZ.length+Z.2.length)*48<=140737488355328)/\V t7 (aB (G-1)) L J I r u (aB (f+1)) aR aQ aV aU bB bA bD bC bI S aT dS dR dQ O nL nK nJ nI (dM++Z.1) (gZ++Z.2)))))))))) (x0 t7 G L J I r u f aR aQ aV aU bB bA bD bC bI S aT dS dR dQ O nL nK nJ nI dM gZ)
def bPi (rec:List Edg->List Itm->Int->Int->ByteArray->ByteArray->Int->Int->Int->Int->List aA->List aA->List Pce->List Bool->zzB->List Bool->zzI->List Bool->List Opn->List Opn->Prop) (x0:List Edg->List Itm->Int->Int->ByteArray->ByteArray->Int->Int->Int->Int->List aA->List aA->List Pce->List Bool->zzB->List Bool->zzI->List Bool->List Opn->List Opn->Prop) (t7:List Edg) (t19:Int) (t68:List Itm) (t69 Z:Int) (t103:List Edg) (t104 t105:Int) (S V:ByteArray) (L O I J:Int) (u G:List aA) (r:List Pce) (aP:List Bool) (aT:zzB) (dS:List Bool) (dR:zzI) (dQ:List Bool) (mC nL nK nJ nI:Int) (dM gZ:List Opn):Prop:=(let f:=(jY S V L O I J u G r aP aT dS dR dQ mC nL nK nJ nI);((aCT S V L O I J u G r aP aT dS dR dQ mC nL nK nJ nI)/\rec t7 t68 t69 (aB (Z+1)) S V L O I J u G r f.1 f.2.1 f.2.2.1 f.2.2.2.1 f.2.2.2.2.1 dM gZ))
def aGY (F:Nat) (L:List Itm->List Edg->List Pce->Int->Int->List aA->Int->Int->ByteArray->ByteArray->Int->Int->Int->Int->List aA->List aA->List Pce->List Bool->zzB->List Bool->zzI->List Bool->List Opn->Prop):Nat->List Itm->List Edg->List Pce->Int->Int->List aA->Int->Int->ByteArray->ByteArray->Int->Int->Int->Int->List aA->List aA->List Pce->List Bool->zzB->List Bool->zzI->List Bool->List Opn->Prop
 |0,_,_,_,_,_,_,_,_,_,_,_,_,_,_,_,_,_,_,_,_,_,_,_=>False
 |n+1,S,O,J,I,G,u,r,f,aR,aQ,aV,aU,bB,bA,bD,bC,bI,aP,aT,V,Z,dQ,dM=>aYy (aGY F L n) L S O J I G u r f aR aQ aV aU bB bA bD bC bI aP aT V Z dQ dM
def aNO (F:Nat) (rec:List Itm->List Edg->List Pce->Int->Int->ByteArray->ByteArray->Int->Int->Int->Int->List aA->List aA->List Pce->List Bool->zzB->List Bool->zzI->List Bool->List Opn->Prop) (x0:List Itm->List Edg->List Pce->Int->Int->ByteArray->ByteArray->Int->Int->Int->Int->List aA->List aA->List Pce->List Bool->zzB->List Bool->zzI->List Bool->List Opn->Prop) (t1:List Itm) (L:List Edg) (J:List Pce) (I G:Int) (u:List aA) (r f:Int) (aR aQ:ByteArray) (aV aU bB bA:Int) (bD bC:List aA) (bI:List Pce) (aP:List Bool) (aT:zzB) (O:List Bool) (S:zzI) (V:List Bool) (Z:List Opn):Prop:=aGY F (fun t1 L J I G u r f aR aQ aV aU bB bA bD bC bI aP aT O S V Z=>bPk rec x0 t1 L J I G u r f aR aQ aV aU bB bA bD bC bI aP aT O S V Z) F t1 L J I G u r f aR aQ aV aU bB bA bD bC bI aP aT O S V Z
def aGX (F:Nat) (O:List Edg->Int->List Itm->Int->Int->List Edg->Int->Int->ByteArray->ByteArray->Int->Int->Int->Int->List aA->List aA->List Pce->List Bool->zzB->List Bool->zzI->List Bool->Int->Int->Int->Int->Int->List Opn->List Opn->Prop):Nat->List Edg->Int->List Itm->Int->Int->List Edg->Int->Int->ByteArray->ByteArray->Int->Int->Int->Int->List aA->List aA->List Pce->List Bool->zzB->List Bool->zzI->List Bool->Int->Int->Int->Int->Int->List Opn->List Opn->Prop
 |0,_,_,_,_,_,_,_,_,_,_,_,_,_,_,_,_,_,_,_,_,_,_,_,_,_,_,_,_,_=>False
 |n+1,S,L,J,I,G,u,r,f,aR,aQ,aV,aU,bB,bA,bD,bC,bI,aP,aT,dS,dR,dQ,mC,V,Z,nJ,nI,dM,gZ=>aYw (aGX F O n) O S L J I G u r f aR aQ aV aU bB bA bD bC bI aP aT dS dR dQ mC V Z nJ nI dM gZ
def aNN (F:Nat) (rec:List Edg->List Itm->Int->Int->ByteArray->ByteArray->Int->Int->Int->Int->List aA->List aA->List Pce->List Bool->zzB->List Bool->zzI->List Bool->List Opn->List Opn->Prop) (x0:List Edg->List Itm->Int->Int->ByteArray->ByteArray->Int->Int->Int->Int->List aA->List aA->List Pce->List Bool->zzB->List Bool->zzI->List Bool->List Opn->List Opn->Prop) (O:List Edg) (L:Int) (J:List Itm) (I G:Int) (u:List Edg) (r f:Int) (aR aQ:ByteArray) (aV aU bB bA:Int) (bD bC:List aA) (bI:List Pce) (aP:List Bool) (aT:zzB) (dS:List Bool) (dR:zzI) (dQ:List Bool) (mC S V Z nI:Int) (dM gZ:List Opn):Prop:=aGX F (fun O L J I G u r f aR aQ aV aU bB bA bD bC bI aP aT dS dR dQ mC S V Z nI dM gZ=>bPi rec x0 O L J I G u r f aR aQ aV aU bB bA bD bC bI aP aT dS dR dQ mC S V Z nI dM gZ) F O L J I G u r f aR aQ aV aU bB bA bD bC bI aP aT dS dR dQ mC S V Z nI dM gZ
def zY (F:Nat) (f:List Edg->List Itm->Int->Int->ByteArray->ByteArray->Int->Int->Int->Int->List aA->List aA->List Pce->List Bool->zzB->List Bool->zzI->List Bool->List Opn->List Opn->Prop):Nat->List Edg->List Itm->Int->Int->ByteArray->ByteArray->Int->Int->Int->Int->List aA->List aA->List Pce->List Bool->zzB->List Bool->zzI->List Bool->List Opn->List Opn->Prop
 |0,_,_,_,_,_,_,_,_,_,_,_,_,_,_,_,_,_,_,_,_=>False
 |n+1,I,G,u,r,aR,aQ,aV,aU,bB,bA,bD,bC,Z,aP,aT,L,O,S,V,J=>aYx (zY F f n) f I G u r aR aQ aV aU bB bA bD bC Z aP aT L O S V J (aNN F (zY F f n) f)
def aIN (F:Nat) (Q:List Opn->Int->Prop) (G:List Edg) (u:List Itm) (r f:Int) (aR aQ:ByteArray) (aV aU bB bA:Int) (Z bC:List aA) (V:List Pce) (aP:List Bool) (aT:zzB) (J:List Bool) (L:zzI) (O:List Bool) (S I:List Opn):Prop:=zY F (fun G u r f aR aQ aV aU bB bA Z bC V aP aT J L O S I=>bPj Q G u r f aR aQ aV aU bB bA Z bC V aP aT J L O S I) F G u r f aR aQ aV aU bB bA Z bC V aP aT J L O S I
def xE (F:Nat) (f:List Itm->List Edg->List Pce->Int->Int->ByteArray->ByteArray->Int->Int->Int->Int->List aA->List aA->List Pce->List Bool->zzB->List Bool->zzI->List Bool->List Opn->Prop):Nat->List Itm->List Edg->List Pce->Int->Int->ByteArray->ByteArray->Int->Int->Int->Int->List aA->List aA->List Pce->List Bool->zzB->List Bool->zzI->List Bool->List Opn->Prop
 |0,_,_,_,_,_,_,_,_,_,_,_,_,_,_,_,_,_,_,_,_=>False
 |n+1,J,I,G,u,r,aR,aQ,aV,aU,bB,bA,bD,bC,Z,aP,aT,L,O,S,V=>aYz (xE F f n) f J I G u r aR aQ aV aU bB bA bD bC Z aP aT L O S V (aNO F (xE F f n) f)
def aNP (F:Nat) (Q:List Opn->Int->Prop) (t1:List Itm) (G:List Edg) (u:List Pce) (r f:Int) (aR aQ:ByteArray) (aV aU bB bA:Int) (V Z:List aA) (S:List Pce) (aP:List Bool) (aT:zzB) (I:List Bool) (J:zzI) (L:List Bool) (O:List Opn):Prop:=xE F (fun t1 G u r f aR aQ aV aU bB bA V Z S aP aT I J L O=>aZB Q t1 G u r f aR aQ aV aU bB bA V Z S aP aT I J L O (aIN F Q)) F t1 G u r f aR aQ aV aU bB bA V Z S aP aT I J L O
def aQM (F:Nat) (S O:ByteArray) (L J I G:Int) (u r:List aA) (f:List Pce) (V:List Itm) (Q:List Opn->Int->Prop):Prop:=aZA S O L J I G u r f V Q (aNP F Q)
def mvO (k x y:Int):Opn:=Opn.mk k x y 0 0 0
def aBd (m:List Opn) (r:aA):List Opn:=m++[Opn.mk 3 r.X r.Y r.W r.H 0]
def xM (m:List Opn) (p:Pce):List Opn:=p.Forms.foldl aBd m
def stamps (ps:List Pce):List Opn:=ps.foldl xM []
abbrev aDC:=Int×List Opn×List Opn
def edO (e:Edg) (b:Bool):List Opn×List Opn:=rC e.qaq e.qau e.qar e.qav b
def mW (es:List Edg) (f:List Bool) (p:Int) (s:aDC) (i:Nat):aDC:=
 cond ((f.getD i default)||(((es.getD i default).A !=p)&&((es.getD i default).B !=p))) s (aB (s.1-1),s.2.1++(edO (es.getD i default) (decide (0<s.1))).1,s.2.2++(edO (es.getD i default) (decide (0<s.1))).2)
def aCh (es:List Edg) (f:List Bool) (p:Int) (s:aDC):aDC:=(List.range' 0 es.length).foldl (mW es f p) s
def aFG (r:aA):List Opn:=aHT r.X r.Y r.W r.H
abbrev aCw:=eS×List Opn×List Opn
def lB (D:eS->Itm->eS) (ps:List Pce) (es:List Edg) (t:aCw) (x:Itm):aCw:=
 cond (decide (0<=x.Hole)) (D t.1 x,(t.2.1++[mvO 1 x.Lead_X x.Lead_Y])++aFG ((ps.getD x.Piece.toNat default).Cuts.getD x.Hole.toNat default),t.2.2)
  (D t.1 x,(aCh es t.1.1 x.Piece (x.Joints,t.2.1++[mvO 1 x.Lead_X x.Lead_Y],t.2.2)).2.1,(aCh es t.1.1 x.Piece (x.Joints,t.2.1++[mvO 1 x.Lead_X x.Lead_Y],t.2.2)).2.2)
def y9 (w h:Int) (cl:List aA) (ps:List Pce) (es:List Edg) (l:List Itm):List Opn:=
 (l.foldl (lB (eZ w h cl ps es) ps es) (iI ps es,stamps ps,[])).2.1++(l.foldl (lB (eZ w h cl ps es) ps es) (iI ps es,stamps ps,[])).2.2
def accept (D:eS->Itm->eS):List Itm->eS->Prop
 |[],_=>True
 |x::r,s=>(D s x).2.2.2.2.2=0/\accept D r (D s x)
theorem aRO (D:eS->Itm->eS):∀(l:List Itm) (i:Nat) (s:eS),(oM D l i s).2.2.2.2.2.2=0->accept D l s:=by
 intro l
 induction l with
 |nil=>intro i s _;trivial
 |cons x l f=>
  intro i s h;unfold oM at h;cases hb:(D s x).2.2.2.2.2 !=0 with
  |true=>
   rw[hb,QX] at h;have r:(D s x).2.2.2.2.2=0:=h;rw[r] at hb;cases hb
  |false=>
   rw[hb,QJ] at h;exact⟨by simpa using hb,f _ _ h⟩
theorem aJg {w h:Int} {cl:List aA} {ps:List Pce} {es:List Edg} {O:List Bool} {I:zzB} {L:List Bool} {G:zzI} {J:List Bool} {p k j x y:Int} (f:(doS w h cl ps es O I L G J p k j x y).2.2.2.2.2=0):
  lX O I L G J ps es.length=true/\0<=p/\p<ps.length/\ -1<=k/\k<(ps.getD p.toNat default).Cuts.length/\0<=j/\j<=4:=by
 have r:∀e:Int,e≠0->(iZ e).2.2.2.2.2=0->False:=fun e he h=>he h
 unfold doS at f;cases u:((!(lX O I L G J ps es.length))||(decide (p<0)))||(decide ((ps.length:Int)<=p)) with
 |true=>rw[u] at f;exact(r 1 (by decide) f).elim
 |false=>
 rw[u,QJ] at f;simp only[QC,Bool.not_eq_false',QF] at u;obtain⟨⟨g1,g2⟩,g3⟩:=u;cases Z:decide (k<(-1)) with
 |true=>rw[Z] at f;exact(r 1 (by decide) f).elim
 |false=>
 rw[Z,QJ] at f;cases V:decide (((ps.getD p.toNat default).Cuts.length:Int)<=k) with
 |true=>rw[V] at f;exact(r 1 (by decide) f).elim
 |false=>
 rw[V,QJ] at f;cases S:decide (j<0) with
 |true=>rw[S] at f;exact(r 1 (by decide) f).elim
 |false=>
 rw[S,QJ] at f;cases c5:decide (4<j) with
 |true=>rw[c5] at f;exact(r 1 (by decide) f).elim
 |false=>
 have:=JR Z;have:=JR V;have:=JR S;have:=JR c5;exact⟨g1,XY,XY,XY,XY,XY,XY⟩
theorem aPX (e:Edg) (b:Bool):(edO e b).1.length<=2/\(edO e b).2.length<=2:=by
 unfold edO rC;cases b with
 |true=>
  rw[QX];cases (mi 720 (aB (Int.tdiv (aB ((aB ((aB (e.qar-e.qaq))+e.qav))-e.qau)) 2)))==0<;>exact⟨XU,XU⟩
 |false=>exact⟨XU,XU⟩
theorem aOn (r:aA):(aFG r).length=5:=rfl
theorem aMA (m:List Opn) (p:Pce):(xM m p).length=m.length+p.Forms.length:=by
 unfold xM;generalize p.Forms=l
 induction l generalizing m with
 |nil=>rfl
 |cons r l f=>
  rw[QI,f];unfold aBd;rw[QH,QD,QT];omega
theorem bB2 (es:List Edg) (f:List Bool) (p:Int):∀(l:List Nat) (s:aDC),(l.foldl (mW es f p) s).2.1.length<=s.2.1.length+2*l.length/\(l.foldl (mW es f p) s).2.2.length<=s.2.2.length+2*l.length:=by
 intro l
 induction l with
 |nil=>intro s;simp
 |cons i l r=>
  intro s;obtain⟨L,J⟩:=r (mW es f p s i);obtain⟨I,G⟩:=aPX (es.getD i default) (decide (0<s.1));have u:(mW es f p s i).2.1.length<=s.2.1.length+2/\(mW es f p s i).2.2.length<=s.2.2.length+2:=by
   unfold mW;cases ((f.getD i default)||(((es.getD i default).A !=p)&&((es.getD i default).B !=p))) with
   |true=>rw[QX];omega
   |false=>rw[QJ,QH,QH];omega
  rw[QI,QT];omega
def aHh (S O:ByteArray) (L J I G:Int) (u r:List aA) (f:List Pce) (V:List Itm):Prop:=
 aDu S O L J I G u r f V/\(((lQ S O L J I G u r f V) !=0)=false->f.length<=1000/\∀p∈f,p.Forms.length<=2000000)
def oD (S O:ByteArray) (L J G u:Int) (r I:List aA) (f:List Pce) (V:List Itm):List Opn×Int:=
 cond ((lQ S O L J G u r I f V) !=0) ([],lQ S O L J G u r I f V) (y9 G u r f (dK S O L J G u r I f).1 V,0)
theorem bTi {S O:ByteArray} {L J G u:Int} {r I:List aA} {f:List Pce} {Z:List Itm} (h:((lQ S O L J G u r I f Z) !=0)=false):
  ((dK S O L J G u r I f).2 !=0)=false/\Z.length<=128/\accept (eZ G u r f (dK S O L J G u r I f).1) Z (iI f (dK S O L J G u r I f).1):=by
 have h0:lQ S O L J G u r I f Z=0:=by simpa using h
 have V:(eU S O L J G u r I f Z).2.2.2.2.2.2=0:=by
  unfold lQ aCm at h0;cases hb:(eU S O L J G u r I f Z).2.2.2.2.2.2 !=0 with
  |true=>rw[hb] at h0;exact h0
  |false=>simpa using hb
 unfold eU at V;cases he:(dK S O L J G u r I f).2 !=0 with
 |true=>
  rw[he,QX] at V;have h1':(dK S O L J G u r I f).2=0:=V;rw[h1'] at he;cases he
 |false=>
 rw[he,QJ] at V;cases hl:decide (128<(Z.length:Int)) with
 |true=>
  rw[hl,QX] at V;have:(4:Int)=0:=V;omega
 |false=>
 rw[hl,QJ] at V;have:=JR hl;exact⟨rfl,XY,aRO _ _ _ _ V⟩
theorem bKn (Z V:ByteArray) (S O J I:Int) (G L:List aA) (f:List Pce) (r:List Itm) (h:aHh Z V S O J I G L f r):∃F,∀Q:List Opn->Int->Prop,Q ((oD Z V S O J I G L f r).1) ((oD Z V S O J I G L f r).2)->aQM F Z V S O J I G L f r Q:=by
 obtain⟨hc,hpf⟩:=h;obtain⟨F,hF⟩:∃F:Nat,4000000<F:=⟨4000001,XY⟩;refine⟨F,fun Q hQ=>?_⟩;unfold oD at hQ;refine⟨hc,?_⟩;cases hz:(lQ Z V S O J I G L f r) !=0 with
 |true=>
  rw[hz] at hQ;exact hQ
 |false=>
 rw[hz,QJ] at hQ;rw[QJ];obtain⟨hp,hfm⟩:=hpf hz;obtain⟨hee,hla,hacc⟩:=bTi hz;obtain⟨⟨hpe,hrb⟩,_⟩:=hc;obtain⟨g1,g2,g3,g4⟩:=hrb hee;have hdo:∀(ct:List Bool) (hs:zzB) (dn:List Bool) (jn:zzI) (fl:List Bool) (x:Itm),jY Z V S O J I G L f ct hs dn jn fl x.Piece x.Hole x.Joints x.Lead_X x.Lead_Y=doS J I G f (dK Z V S O J I G L f).1 ct hs dn jn fl x.Piece x.Hole x.Joints x.Lead_X x.Lead_Y:=fun ct hs dn jn fl x=>by
  unfold jY;rw[hee];rfl
 have hpd:∀(ct:List Bool) (hs:zzB) (dn:List Bool) (jn:zzI) (fl:List Bool) (x:Itm),aCT Z V S O J I G L f ct hs dn jn fl x.Piece x.Hole x.Joints x.Lead_X x.Lead_Y:=fun ct hs dn jn fl x=>by
  refine⟨hpe,?_⟩;rw[hee];exact⟨g2,g3,g4,g1⟩
 have hst:kE Z V S O J I G L f=iI f (dK Z V S O J I G L f).1:=by
  unfold kE;rw[hee,QJ];unfold jR iI;rw[QV]
 have hps:aEA Z V S O J I G L f:=by
  refine⟨hpe,?_⟩;rw[hee];exact⟨XY,XY,g2,fun p hq=>by have:=(g3 p hq).2;omega⟩
 refine⟨hpe,hps,?_⟩;rw[hst];generalize hes:(dK Z V S O J I G L f).1=es at hQ hacc g1 hdo ⊢;generalize hs0:iI f es=s0 at hacc ⊢;unfold y9 at hQ;rw[hs0] at hQ;unfold aNP;refine qV f xM (fun i m=>m.length<=i*2000000) (fun m=>Q ((r.foldl (lB (eZ J I G f es) f es) (s0,m,[])).2.1++(r.foldl (lB (eZ J I G f es) f es) (s0,m,[])).2.2) 0)
  (fun n i m=>xE F _ n r es f (f.length:Int) i Z V S O J I G L f s0.1 s0.2.1 s0.2.2.1 s0.2.2.2.1 s0.2.2.2.2.1 m) (fun i m hi hm=>?_) (fun n i m hi hm hw=>?_) (fun n m hm hq=>?_) F 0 [] XY XY XU hQ
 ·have:=hfm _ (fJ hi);rw[aMA];omega
 ·have hfl:=hfm _ (fJ hi);show cond (decide ((i:Int)<(f.length:Int))) _ _;rw[bN XY,QX,QV];refine⟨⟨XY,XY⟩,?_⟩;generalize f.getD i default=q at hw hfl ⊢;unfold aNO;refine qV q.Forms aBd (fun j k=>k.length<=m.length+j) (fun k=>xE F _ n r es f (f.length:Int) ((i+1:Nat):Int) Z V S O J I G L f s0.1 s0.2.1 s0.2.2.1 s0.2.2.2.1 s0.2.2.2.2.1 k)
   (fun n j k=>aGY F _ n r es f (f.length:Int) i q.Forms (q.Forms.length:Int) j Z V S O J I G L f s0.1 s0.2.1 s0.2.2.1 s0.2.2.2.1 s0.2.2.2.2.1 k) (fun j k hj hk=>?_) (fun n j k hj hk hw'=>?_) (fun n k hk hq=>?_) F 0 m XY XY XY hw
  ·unfold aBd;rw[QH,QD];omega
  ·show cond (decide ((j:Int)<(q.Forms.length:Int))) _ _;rw[bN XY,QX,QV,cO hj XY];exact⟨⟨XY,XY⟩,by simp only[QT,JZ];omega,hw'⟩
  ·show cond (decide ((q.Forms.length:Int)<(q.Forms.length:Int))) _ _;rw[bV XY,QJ];show xE _ _ _ _ _ _ _ (aB ((i:Int)+1)) _ _ _ _ _ _ _ _ _ _ _ _ _ _ _;rw[cO hi XY];exact hq
 ·show cond (decide ((f.length:Int)<(f.length:Int))) _ _;rw[bV XY,QJ];have hm':m.length<=1000000000000:=XY;show aIN F Q es r (r.length:Int) 0 Z V S O J I G L f s0.1 s0.2.1 s0.2.2.1 s0.2.2.2.1 s0.2.2.2.2.1 m [];unfold aIN;refine qV r (lB (eZ J I G f es) f es) (fun i t=>t.2.1.length<=1000000000000+i*9000000/\t.2.2.length<=i*9000000/\accept (eZ J I G f es) (r.drop i) t.1) (fun t=>Q (t.2.1++t.2.2) 0)
   (fun n i t=>zY F _ n es r (r.length:Int) i Z V S O J I G L f t.1.1 t.1.2.1 t.1.2.2.1 t.1.2.2.2.1 t.1.2.2.2.2.1 t.2.1 t.2.2) (fun i t hi ht=>?_) (fun n i t hi ht hw=>?_) (fun n t ht hq=>?_) F 0 (s0,m,[]) XY XY ⟨by simpa using hm',XU,by simpa using hacc⟩ hq
  ·obtain⟨t1,t2,t3⟩:=ht;rw[mX r i hi] at t3;have ha:=bB2 es t.1.1 (r.getD i default).Piece (List.range' 0 es.length) ((r.getD i default).Joints,t.2.1++[mvO 1 (r.getD i default).Lead_X (r.getD i default).Lead_Y],t.2.2);rw[KE,QH,QD] at ha;unfold lB;cases decide (0<=(r.getD i default).Hole) with
   |true=>
    rw[QX];have e2:t.2.2.length<=(i+1)*9000000:=KU t2 (JY _ (Nat.le_succ i));refine⟨?_,e2,t3.2⟩;show ((t.2.1++[mvO 1 (r.getD i default).Lead_X (r.getD i default).Lead_Y])++aFG _).length<=_;rw[QH,QH,QD,aOn];omega
   |false=>
    rw[QJ];unfold aCh;dsimp only at ha;have e1:(List.foldl (mW es t.1.1 (r.getD i default).Piece) ((r.getD i default).Joints,t.2.1++[mvO 1 (r.getD i default).Lead_X (r.getD i default).Lead_Y],t.2.2) (List.range' 0 es.length)).2.1.length<=1000000000000+(i+1)*9000000:=XY;have e2:(List.foldl (mW es t.1.1 (r.getD i default).Piece) ((r.getD i default).Joints,t.2.1++[mvO 1 (r.getD i default).Lead_X (r.getD i default).Lead_Y],t.2.2) (List.range' 0 es.length)).2.2.length<=(i+1)*9000000:=XY;exact⟨e1,e2,t3.2⟩
  ·obtain⟨t1,t2,t3⟩:=ht;rw[mX r i hi] at t3;obtain⟨hfit,p1,p2,k1,k2,_,_⟩:=aJg t3.1;obtain⟨f1,_⟩:=aAQ hfit;show cond (decide ((i:Int)<(r.length:Int))) _ _;rw[bN XY,QX,QV,cO hi XY];refine⟨⟨XY,XY⟩,?_⟩;generalize r.getD i default=x at hw p1 p2 k1 k2 ⊢;refine⟨by simp only[QT,JZ];omega,?_⟩;unfold lB at hw;cases hh:decide (0<=x.Hole) with
   |true=>
    have hh':=JC hh;rw[hh,QX] at hw;rw[QX];refine⟨⟨p1,p2⟩,⟨hh',k2⟩,?_,hpd _ _ _ _ _ _,?_⟩
    ·show ((t.2.1++[mvO 1 x.Lead_X x.Lead_Y]).length+(aFG ((f.getD x.Piece.toNat default).Cuts.getD x.Hole.toNat default)).length)*48<=_;rw[QH,QD,aOn];omega
    ·rw[hdo];exact hw
   |false=>
    rw[hh,QJ] at hw;rw[QJ];unfold aNN;unfold aCh at hw;refine sN es.length (mW es t.1.1 x.Piece) (fun j u=>u.2.1.length<=t.2.1.length+1+2*j/\u.2.2.length<=t.2.2.length+2*j) (fun u=>zY F _ n es r (r.length:Int) ((i+1:Nat):Int) Z V S O J I G L f (eZ J I G f es t.1 x).1 (eZ J I G f es t.1 x).2.1 (eZ J I G f es t.1 x).2.2.1 (eZ J I G f es t.1 x).2.2.2.1 (eZ J I G f es t.1 x).2.2.2.2.1 u.2.1 u.2.2)
     (fun n j u=>aGX F _ n es u.1 r (r.length:Int) i es (es.length:Int) j Z V S O J I G L f t.1.1 t.1.2.1 t.1.2.2.1 t.1.2.2.2.1 t.1.2.2.2.2.1 x.Piece x.Hole x.Joints x.Lead_X x.Lead_Y u.2.1 u.2.2) (fun u j hj hu=>?_) (fun n j u hj hu hw'=>?_) (fun n u hu hq=>?_) F 0 (x.Joints,t.2.1++[mvO 1 x.Lead_X x.Lead_Y],t.2.2) XY XY XU hw
    ·obtain⟨h3,h4⟩:=aPX (es.getD j default) (decide (0<u.1));unfold mW;cases ((t.1.1.getD j default)||(((es.getD j default).A !=x.Piece)&&((es.getD j default).B !=x.Piece))) with
     |true=>rw[QX];omega
     |false=>rw[QJ,QH,QH];omega
    ·obtain⟨h3,h4⟩:=aPX (es.getD j default) (decide (0<u.1));show cond (decide ((j:Int)<(es.length:Int))) _ _;rw[bN XY,QX,QV,cO hj XY];refine⟨⟨XY,XY⟩,⟨XY,XY⟩,?_⟩;unfold mW at hw';show cond ((t.1.1.getD j default)||(((es.getD j default).A !=x.Piece)&&((es.getD j default).B !=x.Piece))) _ _;cases hb:((t.1.1.getD j default)||(((es.getD j default).A !=x.Piece)&&((es.getD j default).B !=x.Piece))) with
     |true=>
      rw[hb,QX] at hw';exact hw'
     |false=>
      rw[hb,QJ] at hw';exact⟨show (u.2.1.length+(edO (es.getD j default) (decide (0<u.1))).1.length)*48<=_ by omega,show (u.2.2.length+(edO (es.getD j default) (decide (0<u.1))).2.length)*48<=_ by omega,hw'⟩
    ·show cond (decide ((es.length:Int)<(es.length:Int))) _ _;rw[bV XY,QJ];refine⟨hpd _ _ _ _ _ _,?_⟩;rw[hdo];show zY _ _ _ _ _ _ (aB ((i:Int)+1)) _ _ _ _ _ _ _ _ _ _ _ _ _ _ _ _;rw[cO hi XY];exact hq
  ·obtain⟨t1,t2,_⟩:=ht;show cond (decide ((r.length:Int)<(r.length:Int))) _ _;rw[bV XY,QJ];exact⟨XY,hq⟩
def zL:Nat->Nat->Nat->Canon UU:=fun o b r=>cond (Nat.beq b 0) ⟨[0,1,5],[],[(.tmp 0,58,.int)],[],[]⟩ (cond (Nat.beq b 2) ⟨[0,1,5,6],[],[(.tmp 0,58,.int)],[],[]⟩ (⟨[],[],[],[],[]⟩))
def aY1 (l:zzI) (r:Int) (Q:zzI->Prop) (f:Int->Int->zzI->Prop):Prop:=f r (l.length:Int) l
def aY0 (u:Int->Int->zzI->Prop) (G:Int->Int->zzI->Prop) (t1 f:Int) (r:zzI):Prop:=(((decide (0<f))=true->0<=(aB (f-1))/\(aB (f-1))<r.length)/\cond ((decide (0<f))&&(decide (t1<(r.getD ((aB (f-1)).toNat) default)))) (u t1 (aB (f-1)) r) (G t1 f r))
def aFL (Q:zzI->Prop) (t1 f:Int) (r:zzI) (u:Int->Int->Int->zzI->Prop):Prop:=(((decide (0<f))=true->0<=(aB (f-1))/\(aB (f-1))<r.length)/\cond ((decide (0<f))&&((r.getD ((aB (f-1)).toNat) default)==t1)) (Q r) ((((r.length+([0]).length)*8<=140737488355328)/\u t1 f (aB (((r++([0])).length:Int)-1)) (r++([0])))))
def aYZ (G:Int->Int->Int->zzI->Prop) (I:Int->Int->Int->zzI->Prop) (t1 u f:Int) (r:zzI):Prop:=cond (decide (u<f)) ((((0<=(aB (f-1))/\(aB (f-1))<r.length)/\(0<=f/\f<r.length))/\G t1 u (aB (f-1)) (r.set f.toNat (r.getD ((aB (f-1)).toNat) default)))) (I t1 u f r)
def aY2 (Q:zzI->Prop) (t1 f u:Int) (r:zzI):Prop:=((0<=f/\f<r.length)/\Q (r.set f.toNat t1))
def aGO (F:Nat) (f:Int->Int->Int->zzI->Prop):Nat->Int->Int->Int->zzI->Prop
 |0,_,_,_,_=>False
 |n+1,G,u,r,I=>aYZ (aGO F f n) f G u r I
def aEJ (F:Nat) (Q:zzI->Prop) (t1 r f:Int) (u:zzI):Prop:=aGO F (fun t1 r f u=>aY2 Q t1 r f u) F t1 r f u
def aDF (F:Nat) (f:Int->Int->zzI->Prop):Nat->Int->Int->zzI->Prop
 |0,_,_,_=>False
 |n+1,u,r,G=>aY0 (aDF F f n) f u r G
def aIG (F:Nat) (Q:zzI->Prop) (t1 f:Int) (r:zzI):Prop:=aDF F (fun t1 f r=>aFL Q t1 f r (aEJ F Q)) F t1 f r
def aQF (F:Nat) (l:zzI) (f:Int) (Q:zzI->Prop):Prop:=aY1 l f Q (aIG F Q)
def pS (l:zzI) (n:Int):Nat->Nat
 |0=>0
 |k+1=>cond (decide (n<l.getD k default)) (pS l n k) (k+1)
theorem aRe (l:zzI) (n:Int):∀k,pS l n k<=k:=by
 intro k
 induction k with
 |zero=>exact JX _
 |succ k f=>
  unfold pS;cases decide (n<l.getD k default) with
  |true=>rw[QX];omega
  |false=>exact JX _
def aC6 (l:zzI) (n:Int) (i:Nat):zzI:=cond ((decide (0<(i:Int)))&&(l.getD (i-1) default==n)) l (l.take i++n::l.drop i)
def kO (l:zzI) (n:Int):zzI:=aC6 l n (pS l n l.length)
theorem sW (l:zzI) (n:Int):(kO l n).length<=l.length+1:=by
 unfold kO aC6;have:=aRe l n l.length;cases (decide (0<((pS l n l.length:Nat):Int)))&&(l.getD (pS l n l.length-1) default==n) with
 |true=>rw[QX];omega
 |false=>rw[QJ,QH,KQ,QT,KZ];omega
def oP (l:zzI) (n:Int):Prop:=l.length<=2000000
def sG (l:zzI) (n:Int):zzI:=kO l n
theorem bFp (l:zzI) (v:Int) (k:Nat) (r:k<l.length):(l.take (k+1)++v::l.drop (k+1)).set (k+1) ((l.take (k+1)++v::l.drop (k+1)).getD k default)=l.take k++l.getD k default::l.drop k:=by
 have G:l.take (k+1)=l.take k++[l.getD k default]:=by
  rw[List.take_add_one];simp[QG,r]
 have f:(l.take (k+1)).length=k+1:=by simp;omega
 have u:(l.take (k+1)++v::l.drop (k+1)).getD k default=l.getD k default:=by
  rw[QG,KN XY,JH,JV XY,QG]
 rw[u];have e:=aCC (l.take (k+1)) v (l.getD k default) (l.drop (k+1));rw[f] at e;rw[e,G,KP,mX l k r];rfl
theorem bKf (l:zzI) (f:Int) (h:oP l f):∃F,∀Q:zzI->Prop,Q (sG l f)->aQF F l f Q:=by
 have hl:l.length<=2000000:=h;refine⟨l.length+1,fun Q hQ=>?_⟩;show aIG (l.length+1) Q f (l.length:Int) l;unfold aIG;unfold sG kO at hQ;have g1:∀j:Nat,j<l.length->0<=aB (((j+1:Nat):Int)-1)/\aB (((j+1:Nat):Int)-1)<l.length:=fun j hj=>by
  rw[dW XY XY];omega
 have S:∀j:Nat,j<=2000000->aB (((j+1:Nat):Int)-1)=(j:Int):=fun j hj=>by
  rw[dW XY XY];omega
 -- the place is found
 have key:∀(n k:Nat),k<=l.length->k<n->Q (aC6 l f (pS l f k))->aDF (l.length+1) (fun Z V eY=>aFL Q Z V eY (aEJ (l.length+1) Q)) n f k l:=by
  intro n
  induction n with
  |zero=>intro k O h2;omega
  |succ n ih=>
   intro k O h2 r
   -- behind the place
   have u:∀i:Nat,i<=l.length->Q (aC6 l f i)->aFL Q f i l (aEJ (l.length+1) Q):=by
    intro i hi r;unfold aFL;have hc:(decide (0<(i:Int))=true->0<=aB ((i:Int)-1)/\aB ((i:Int)-1)<l.length):=fun G=>by
     have G:=JC G;obtain⟨j,rfl⟩:∃j,i=j+1:=⟨i-1,XY⟩;exact g1 j XY
    refine⟨hc,?_⟩;have he:((decide (0<(i:Int)))&&((l.getD ((aB ((i:Int)-1)).toNat) default)==f))=((decide (0<(i:Int)))&&(l.getD (i-1) default==f)):=by
     by_cases G:0<(i:Int)
     ·obtain⟨j,rfl⟩:∃j,i=j+1:=⟨i-1,XY⟩;rw[S j XY,QV];rfl
     ·rw[KG G];rfl
    rw[he];unfold aC6 at r;cases hb:(decide (0<(i:Int)))&&(l.getD (i-1) default==f) with
    |true=>
     rw[hb] at r;exact r
    |false=>
     rw[hb,QJ] at r;refine⟨by simp only[QT,JZ];omega,?_⟩;have L:aB (((l++([0])).length:Int)-1)=(l.length:Int):=by
      rw[QH,QD,S l.length hl]
     rw[L];unfold aEJ;have e0:l++[0]=l.take l.length++(0:Int)::l.drop l.length:=XU;rw[e0];have J:∀(n k:Nat) (v:Int),i<=k->k<=l.length->k<n+i->aGO (l.length+1) (fun Z V t6 eY=>aY2 Q Z V t6 eY) n f i k (l.take k++v::l.drop k):=by
      intro n
      induction n with
      |zero=>intro k v O h2 h3;omega
      |succ n ih=>
       intro k v O h2 h3;have I:(l.take k++v::l.drop k).length=l.length+1:=by simp;omega
       show cond (decide ((i:Int)<(k:Int))) _ _
       by_cases hk:i<k
       ·rw[bN XY,QX];obtain⟨j,rfl⟩:∃j,k=j+1:=⟨k-1,XY⟩;rw[S j XY,I,QV,QV];refine⟨⟨⟨XY,XY⟩,⟨XY,XY⟩⟩,?_⟩;rw[bFp l v j XY];exact ih j _ XY XY XY
       ·obtain rfl:i=k:=XY;rw[bV XY,QJ];show (0<=(i:Int)/\(i:Int)<_)/\_;rw[I,QV];refine⟨⟨XY,XY⟩,?_⟩;have e:=aCC (l.take i) v f (l.drop i);have hlt:(l.take i).length=i:=by simp;omega
        rw[hlt] at e;rw[e];exact r
     exact J (l.length+1) l.length 0 hi (JX _) XY
   cases k with
   |zero=>
    show (decide (0<((0:Nat):Int))=true->_)/\_;refine⟨fun G=>by simp at G,?_⟩;exact u 0 (Nat.zero_le _) r
   |succ k=>
    show (decide (0<((k+1:Nat):Int))=true->_)/\_;refine⟨fun _=>g1 k XY,?_⟩;rw[bN (show (0:Int)<((k+1:Nat):Int) by omega),KA,S k XY,QV];unfold pS at r;cases hb:decide (f<l.getD k default) with
    |true=>
     rw[hb,QX] at r;exact ih k XY XY r
    |false=>
     rw[hb,QJ] at r;exact u (k+1) O r
 exact key (l.length+1) l.length (JX _) XY hQ
def aBL:Nat->Nat->Nat->Canon UU:=fun o b r=>cond (Nat.beq b 0) ⟨[0,4,5,6],[],[(.tmp 4,55,.int),(.tmp 5,56,.int)],[],[]⟩ (⟨[],[],[],[],[]⟩)
def aZs (r:List aA) (Q:zzI->zzI->Prop) (f:List aA->Int->zzI->zzI->Prop):Prop:=f r 0 ([]) ([])
def aZr (J:List aA->Int->zzI->zzI->Prop) (V:List aA->Int->zzI->zzI->Prop) (r:List aA) (f:Int) (u G:zzI):Prop:=cond (decide (f<(r.length:Int))) ((let e0:=(r.getD f.toNat default);(((0<=f/\f<r.length)/\(oP u e0.X))/\(let e1:=(r.getD f.toNat default);((0<=f/\f<r.length)/\(let S:=(r.getD f.toNat default);((0<=f/\f<r.length)/\((oP (sG u e0.X) (aB (e1.X+S.W)))/\(let I:=(r.getD f.toNat default);(((0<=f/\f<r.length)/\(oP G I.Y))/\(let O:=(r.getD f.toNat default);((0<=f/\f<r.length)/\(let L:=(r.getD f.toNat default);((0<=f/\f<r.length)/\((oP (sG G I.Y) (aB (O.Y+L.H)))/\J r (aB (f+1)) (sG (sG u e0.X) (aB (e1.X+S.W))) (sG (sG G I.Y) (aB (O.Y+L.H)))))))))))))))))) (V r f u G)
def bQJ (Q:zzI->zzI->Prop) (G:List aA) (u:Int) (f r:zzI):Prop:=Q f r
def aGf (F:Nat) (f:List aA->Int->zzI->zzI->Prop):Nat->List aA->Int->zzI->zzI->Prop
 |0,_,_,_,_=>False
 |n+1,u,r,G,I=>aZr (aGf F f n) f u r G I
def aI0 (F:Nat) (Q:zzI->zzI->Prop) (r:List aA) (f:Int) (u G:zzI):Prop:=aGf F (fun r f u G=>bQJ Q r f u G) F r f u G
def aQ3 (F:Nat) (f:List aA) (Q:zzI->zzI->Prop):Prop:=aZs f Q (aI0 F Q)
def qT (s:zzI×zzI) (r:aA):zzI×zzI:=(kO (kO s.1 r.X) (aB (r.X+r.W)),kO (kO s.2 r.Y) (aB (r.Y+r.H)))
def aHl (l:List aA):Prop:=l.length<=90000
def iW (l:List aA):zzI×zzI:=l.foldl qT ([],[])
theorem bLG (f:List aA) (h:aHl f):∃F,∀Q:zzI->zzI->Prop,Q ((iW f).1) ((iW f).2)->aQ3 F f Q:=by
 have hl:f.length<=90000:=h;refine⟨f.length+1,fun Q S=>?_⟩;show aI0 (f.length+1) Q f 0 [] [];unfold aI0;refine qV f qT (fun i s=>s.1.length<=2*i/\s.2.length<=2*i) (fun s=>Q s.1 s.2) (fun n i s=>aGf (f.length+1) _ n f i s.1 s.2) (fun i s hi r=>?_) (fun n i s hi r L=>?_) (fun n s r O=>?_) (f.length+1) 0 ([],[]) XY XY XU S
 ·have Z:=sW s.1 (f.getD i default).X;have h2:=sW (kO s.1 (f.getD i default).X) (aB ((f.getD i default).X+(f.getD i default).W));have V:=sW s.2 (f.getD i default).Y;have h4:=sW (kO s.2 (f.getD i default).Y) (aB ((f.getD i default).Y+(f.getD i default).H));unfold qT;dsimp only;omega
 ·show cond (decide ((i:Int)<(f.length:Int))) _ _;rw[bN XY,QX];have hb:0<=(i:Int)/\(i:Int)<f.length:=⟨XY,XY⟩;rw[QV,cO hi XY];have Z:=sW s.1 (f.getD i default).X;have V:=sW s.2 (f.getD i default).Y;have J:oP s.1 (f.getD i default).X:=by unfold oP;omega
  have I:oP (kO s.1 (f.getD i default).X) (aB ((f.getD i default).X+(f.getD i default).W)):=by unfold oP;omega
  have G:oP s.2 (f.getD i default).Y:=by unfold oP;omega
  have u:oP (kO s.2 (f.getD i default).Y) (aB ((f.getD i default).Y+(f.getD i default).H)):=by unfold oP;omega
  exact⟨⟨hb,J⟩,hb,hb,I,⟨hb,G⟩,hb,hb,u,L⟩
 ·show cond (decide ((f.length:Int)<(f.length:Int))) _ _;rw[bV XY,QJ];exact O
def aAv:Nat->Nat->Nat->Canon UU:=fun o b r=>cond (Nat.beq b 0) ⟨[0,1,2,6,7],[],[],[],[]⟩ (⟨[],[],[],[],[]⟩)
def aYS (G:List aA) (u r:Int) (Q:Bool->Prop) (f:List aA->Int->Int->Bool->Int->Prop):Prop:=f G u r false 0
def aYR (G:List aA->Int->Int->Bool->Int->Prop) (L:List aA->Int->Int->Bool->Int->Prop) (J:List aA->Int->Int->Bool->Int->Prop) (r:List aA) (t1 u:Int) (I:Bool) (f:Int):Prop:=cond (decide (f<(r.length:Int))) ((let e0:=(r.getD f.toNat default);((0<=f/\f<r.length)/\cond ((((decide (e0.X<=t1))&&(decide (t1<(aB (e0.X+e0.W)))))&&(decide (e0.Y<=u)))&&(decide (u<(aB (e0.Y+e0.H))))) (L r t1 u true f) (G r t1 u I (aB (f+1)))))) (J r t1 u I f)
def bP3 (Q:Bool->Prop) (G:List aA) (t1 u:Int) (f:Bool) (r:Int):Prop:=Q f
def bP2 (Q:Bool->Prop) (G:List aA) (t1 u:Int) (r:Bool) (f:Int):Prop:=Q false
def aGL (F:Nat) (r:List aA->Int->Int->Bool->Int->Prop) (f:List aA->Int->Int->Bool->Int->Prop):Nat->List aA->Int->Int->Bool->Int->Prop
 |0,_,_,_,_,_=>False
 |n+1,L,J,I,G,u=>aYR (aGL F r f n) r f L J I G u
def aID (F:Nat) (Q:Bool->Prop) (G:List aA) (t1 u:Int) (r:Bool) (f:Int):Prop:=aGL F (fun G t1 u r f=>bP3 Q G t1 u r f) (fun G t1 u r f=>bP2 Q G t1 u r f) F G t1 u r f
def aQD (F:Nat) (u:List aA) (r f:Int) (Q:Bool->Prop):Prop:=aYS u r f Q (aID F Q)
def aMd (l:List aA) (x y:Int):Prop:=l.length<=2000000
def aHH (l:List aA) (x y:Int):Bool:=l.any (onR x y)
theorem bKd (f:List aA) (u r:Int) (h:aMd f u r):∃F,∀Q:Bool->Prop,Q (aHH f u r)->aQD F f u r Q:=by
 have J:f.length<=2000000:=h;refine⟨f.length+1,fun Q G=>?_⟩;show aID (f.length+1) Q f u r false 0;unfold aID;unfold aHH at G;refine mH f (onR u r) (Q true) (Q false) (fun n i=>aGL (f.length+1) _ _ n f u r false i) (fun n i hi hx I=>?_) (fun n hy=>?_) (f.length+1) XY (fun q=>by rw[q] at G;exact G) (fun q=>by rw[q] at G;exact G)
 ·show cond (decide ((i:Int)<(f.length:Int))) _ _;rw[bN XY,QX];refine⟨⟨XY,XY⟩,?_⟩;rw[QV,cO hi XY];show cond (onR u r (f.getD i default)) _ _;cases hb:onR u r (f.getD i default) with
  |true=>exact hx hb
  |false=>exact I hb
 ·show cond (decide ((f.length:Int)<(f.length:Int))) _ _;rw[bV XY,QJ];exact hy
def aBQ:Nat->Nat->Nat->Canon UU:=fun o b r=>cond (Nat.beq b 0) ⟨[0,1,2,6,7],[],[],[],[]⟩ (⟨[],[],[],[],[]⟩)
def bAL (G:List (List aA)) (u r:Int) (Q:Int->Prop) (f:List (List aA)->Int->Int->Int->Int->Prop):Prop:=f G u r 0 0
def bAK (G:List (List aA)->Int->Int->Int->Int->Prop) (L:List (List aA)->Int->Int->Int->Int->Prop) (J:List (List aA)->Int->Int->Int->Int->Prop) (r:List (List aA)) (t1 u I f:Int):Prop:=cond (decide (f<(r.length:Int))) ((let e0:=(r.getD f.toNat default);(((0<=f/\f<r.length)/\(aMd e0 t1 u))/\cond (aHH e0 t1 u) (L r t1 u f f) (G r t1 u I (aB (f+1)))))) (J r t1 u I f)
def bQS (Q:Int->Prop) (G:List (List aA)) (t1 u f r:Int):Prop:=Q f
def bQR (Q:Int->Prop) (G:List (List aA)) (t1 u r f:Int):Prop:=Q (-1)
def aGl (F:Nat) (r:List (List aA)->Int->Int->Int->Int->Prop) (f:List (List aA)->Int->Int->Int->Int->Prop):Nat->List (List aA)->Int->Int->Int->Int->Prop
 |0,_,_,_,_,_=>False
 |n+1,L,J,I,G,u=>bAK (aGl F r f n) r f L J I G u
def aI5 (F:Nat) (Q:Int->Prop) (G:List (List aA)) (t1 u r f:Int):Prop:=aGl F (fun G t1 u r f=>bQS Q G t1 u r f) (fun G t1 u r f=>bQR Q G t1 u r f) F G t1 u r f
def aQa (F:Nat) (u:List (List aA)) (r f:Int) (Q:Int->Prop):Prop:=bAL u r f Q (aI5 F Q)
def uR (x y:Int):List (List aA)->Nat->Int
 |[],_=> -1
 |p::r,i=>cond (p.any (onR x y)) i (uR x y r (i+1))
theorem bOO (x y:Int):∀(ps:List Pce) (k:Nat),uR x y (ps.map Pce.Rects) k=qO x y ps k:=by
 intro ps
 induction ps with
 |nil=>intro k;rfl
 |cons p r f=>
  intro k;show cond _ _ (uR x y (r.map Pce.Rects) (k+1))=_;rw[f];rfl
theorem bOP (x y:Int):∀(ps:List (List aA)) (k i:Nat),i<ps.length->(ps.getD i default).any (onR x y)=true->(∀j,j<i->(ps.getD j default).any (onR x y)=false)->uR x y ps k=((k+i:Nat):Int):=by
 intro ps
 induction ps with
 |nil=>intro k i h;exact absurd h (XZ _)
 |cons p r G=>
  intro k i hi hb u;unfold uR;cases i with
  |zero=>
   have f:p.any (onR x y)=true:=hb;rw[f];rfl
  |succ i=>
   have I:p.any (onR x y)=false:=u 0 XY;rw[I,QJ,G (k+1) i (by simpa using hi) hb (fun j J=>u (j+1) XY)];congr 1;omega
theorem bON (x y:Int):∀(ps:List (List aA)) (k:Nat),(∀j,j<ps.length->(ps.getD j default).any (onR x y)=false)->uR x y ps k= -1:=by
 intro ps
 induction ps with
 |nil=>intro k _;rfl
 |cons p r u=>
  intro k f;unfold uR;have I:p.any (onR x y)=false:=f 0 XU;rw[I,QJ];exact u (k+1) fun j G=>f (j+1) (by simpa using G)
def aMq (l:List (List aA)) (x y:Int):Prop:=l.length<=2000000/\∀r∈l,r.length<=2000000
def aHQ (l:List (List aA)) (x y:Int):Int:=uR x y l 0
theorem bLO (f:List (List aA)) (u r:Int) (h:aMq f u r):∃F,∀Q:Int->Prop,Q (aHQ f u r)->aQa F f u r Q:=by
 obtain⟨O,L⟩:=h;refine⟨f.length+1,fun Q G=>?_⟩;show aI5 (f.length+1) Q f u r 0 0;unfold aI5;unfold aHQ at G;refine bBQ f.length (fun i=>(f.getD i default).any (onR u r)) (fun i=>Q i) (Q (-1)) (fun n i=>aGl (f.length+1) _ _ n f u r 0 i) (fun n i hi hx J=>?_) (fun n hy=>?_) (f.length+1) XY (fun i hi hb I=>?_) (fun I=>?_)
 ·show cond (decide ((i:Int)<(f.length:Int))) _ _;rw[bN XY,QX];rw[QV,cO hi XY];refine⟨⟨⟨XY,XY⟩,L _ (fJ hi)⟩,?_⟩;show cond ((f.getD i default).any (onR u r)) _ _;cases hb:(f.getD i default).any (onR u r) with
  |true=>exact hx hb
  |false=>exact J hb
 ·show cond (decide ((f.length:Int)<(f.length:Int))) _ _;rw[bV XY,QJ];exact hy
 ·rw[bOP u r f 0 i hi hb I,JW] at G;exact G
 ·rw[bON u r f 0 I] at G;exact G
def bDc:Nat->Nat->Nat->Canon UU:=fun o b r=>⟨[],[],[],[],[]⟩
def aPB (l:List Lin) (J I f r G u:Int) (Q:List Lin->Prop):Prop:=cond (G==u) (Q l) (cond (decide (0<=(aB ((l.length:Int)-1)))) (((0<=(aB ((l.length:Int)-1))/\(aB ((l.length:Int)-1))<l.length)/\(let v0:=(l.getD ((aB ((l.length:Int)-1)).toNat) default).Low;cond (v0==G) (((0<=(aB ((l.length:Int)-1))/\(aB ((l.length:Int)-1))<l.length)/\(let Z:=(l.getD ((aB ((l.length:Int)-1)).toNat) default).High;cond (Z==u) (((0<=(aB ((l.length:Int)-1))/\(aB ((l.length:Int)-1))<l.length)/\(let V:=(l.getD ((aB ((l.length:Int)-1)).toNat) default).At_X2;cond (V==J) (((0<=(aB ((l.length:Int)-1))/\(aB ((l.length:Int)-1))<l.length)/\(let S:=(l.getD ((aB ((l.length:Int)-1)).toNat) default).At_Y2;cond (S==I) (((0<=(aB ((l.length:Int)-1))/\(aB ((l.length:Int)-1))<l.length)/\(let O:=(l.getD ((aB ((l.length:Int)-1)).toNat) default).At_Y1;cond (O==r) (((0<=(aB ((l.length:Int)-1))/\(aB ((l.length:Int)-1))<l.length)/\((0<=(aB ((l.length:Int)-1))/\(aB ((l.length:Int)-1))<(l.set ((aB ((l.length:Int)-1)).toNat) (Lin.mk ((l.getD ((aB ((l.length:Int)-1)).toNat) default).At_X1) ((l.getD ((aB ((l.length:Int)-1)).toNat) default).At_Y1) f ((l.getD ((aB ((l.length:Int)-1)).toNat) default).At_Y2) ((l.getD ((aB ((l.length:Int)-1)).toNat) default).Low) ((l.getD ((aB ((l.length:Int)-1)).toNat) default).High))).length)/\Q ((l.set ((aB ((l.length:Int)-1)).toNat) (Lin.mk ((l.getD ((aB ((l.length:Int)-1)).toNat) default).At_X1) ((l.getD ((aB ((l.length:Int)-1)).toNat) default).At_Y1) f ((l.getD ((aB ((l.length:Int)-1)).toNat) default).At_Y2) ((l.getD ((aB ((l.length:Int)-1)).toNat) default).Low) ((l.getD ((aB ((l.length:Int)-1)).toNat) default).High))).set ((aB ((l.length:Int)-1)).toNat) (Lin.mk (((l.set ((aB ((l.length:Int)-1)).toNat) (Lin.mk ((l.getD ((aB ((l.length:Int)-1)).toNat) default).At_X1) ((l.getD ((aB ((l.length:Int)-1)).toNat) default).At_Y1) f ((l.getD ((aB ((l.length:Int)-1)).toNat) default).At_Y2) ((l.getD ((aB ((l.length:Int)-1)).toNat) default).Low) ((l.getD ((aB ((l.length:Int)-1)).toNat) default).High))).getD ((aB ((l.length:Int)-1)).toNat) default).At_X1) (((l.set ((aB ((l.length:Int)-1)).toNat) (Lin.mk ((l.getD ((aB ((l.length:Int)-1)).toNat) default).At_X1) ((l.getD ((aB ((l.length:Int)-1)).toNat) default).At_Y1) f ((l.getD ((aB ((l.length:Int)-1)).toNat) default).At_Y2) ((l.getD ((aB ((l.length:Int)-1)).toNat) default).Low) ((l.getD ((aB ((l.length:Int)-1)).toNat) default).High))).getD ((aB ((l.length:Int)-1)).toNat) default).At_Y1) (((l.set ((aB ((l.length:Int)-1)).toNat) (Lin.mk ((l.getD ((aB ((l.length:Int)-1)).toNat) default).At_X1) ((l.getD ((aB ((l.length:Int)-1)).toNat) default).At_Y1) f ((l.getD ((aB ((l.length:Int)-1)).toNat) default).At_Y2) ((l.getD ((aB ((l.length:Int)-1)).toNat) default).Low) ((l.getD ((aB ((l.length:Int)-1)).toNat) default).High))).getD ((aB ((l.length:Int)-1)).toNat) default).At_X2) r (((l.set ((aB ((l.length:Int)-1)).toNat) (Lin.mk ((l.getD ((aB ((l.length:Int)-1)).toNat) default).At_X1) ((l.getD ((aB ((l.length:Int)-1)).toNat) default).At_Y1) f ((l.getD ((aB ((l.length:Int)-1)).toNat) default).At_Y2) ((l.getD ((aB ((l.length:Int)-1)).toNat) default).Low) ((l.getD ((aB ((l.length:Int)-1)).toNat) default).High))).getD ((aB ((l.length:Int)-1)).toNat) default).Low) (((l.set ((aB ((l.length:Int)-1)).toNat) (Lin.mk ((l.getD ((aB ((l.length:Int)-1)).toNat) default).At_X1) ((l.getD ((aB ((l.length:Int)-1)).toNat) default).At_Y1) f ((l.getD ((aB ((l.length:Int)-1)).toNat) default).At_Y2) ((l.getD ((aB ((l.length:Int)-1)).toNat) default).Low) ((l.getD ((aB ((l.length:Int)-1)).toNat) default).High))).getD ((aB ((l.length:Int)-1)).toNat) default).High)))))) (((0<=(aB ((l.length:Int)-1))/\(aB ((l.length:Int)-1))<l.length)/\(let L:=(l.getD ((aB ((l.length:Int)-1)).toNat) default).At_X1;cond (L==f) (((0<=(aB ((l.length:Int)-1))/\(aB ((l.length:Int)-1))<l.length)/\((0<=(aB ((l.length:Int)-1))/\(aB ((l.length:Int)-1))<(l.set ((aB ((l.length:Int)-1)).toNat) (Lin.mk ((l.getD ((aB ((l.length:Int)-1)).toNat) default).At_X1) ((l.getD ((aB ((l.length:Int)-1)).toNat) default).At_Y1) f ((l.getD ((aB ((l.length:Int)-1)).toNat) default).At_Y2) ((l.getD ((aB ((l.length:Int)-1)).toNat) default).Low) ((l.getD ((aB ((l.length:Int)-1)).toNat) default).High))).length)/\Q ((l.set ((aB ((l.length:Int)-1)).toNat) (Lin.mk ((l.getD ((aB ((l.length:Int)-1)).toNat) default).At_X1) ((l.getD ((aB ((l.length:Int)-1)).toNat) default).At_Y1) f ((l.getD ((aB ((l.length:Int)-1)).toNat) default).At_Y2) ((l.getD ((aB ((l.length:Int)-1)).toNat) default).Low) ((l.getD ((aB ((l.length:Int)-1)).toNat) default).High))).set ((aB ((l.length:Int)-1)).toNat) (Lin.mk (((l.set ((aB ((l.length:Int)-1)).toNat) (Lin.mk ((l.getD ((aB ((l.length:Int)-1)).toNat) default).At_X1) ((l.getD ((aB ((l.length:Int)-1)).toNat) default).At_Y1) f ((l.getD ((aB ((l.length:Int)-1)).toNat) default).At_Y2) ((l.getD ((aB ((l.length:Int)-1)).toNat) default).Low) ((l.getD ((aB ((l.length:Int)-1)).toNat) default).High))).getD ((aB ((l.length:Int)-1)).toNat) default).At_X1) (((l.set ((aB ((l.length:Int)-1)).toNat) (Lin.mk ((l.getD ((aB ((l.length:Int)-1)).toNat) default).At_X1) ((l.getD ((aB ((l.length:Int)-1)).toNat) default).At_Y1) f ((l.getD ((aB ((l.length:Int)-1)).toNat) default).At_Y2) ((l.getD ((aB ((l.length:Int)-1)).toNat) default).Low) ((l.getD ((aB ((l.length:Int)-1)).toNat) default).High))).getD ((aB ((l.length:Int)-1)).toNat) default).At_Y1) (((l.set ((aB ((l.length:Int)-1)).toNat) (Lin.mk ((l.getD ((aB ((l.length:Int)-1)).toNat) default).At_X1) ((l.getD ((aB ((l.length:Int)-1)).toNat) default).At_Y1) f ((l.getD ((aB ((l.length:Int)-1)).toNat) default).At_Y2) ((l.getD ((aB ((l.length:Int)-1)).toNat) default).Low) ((l.getD ((aB ((l.length:Int)-1)).toNat) default).High))).getD ((aB ((l.length:Int)-1)).toNat) default).At_X2) r (((l.set ((aB ((l.length:Int)-1)).toNat) (Lin.mk ((l.getD ((aB ((l.length:Int)-1)).toNat) default).At_X1) ((l.getD ((aB ((l.length:Int)-1)).toNat) default).At_Y1) f ((l.getD ((aB ((l.length:Int)-1)).toNat) default).At_Y2) ((l.getD ((aB ((l.length:Int)-1)).toNat) default).Low) ((l.getD ((aB ((l.length:Int)-1)).toNat) default).High))).getD ((aB ((l.length:Int)-1)).toNat) default).Low) (((l.set ((aB ((l.length:Int)-1)).toNat) (Lin.mk ((l.getD ((aB ((l.length:Int)-1)).toNat) default).At_X1) ((l.getD ((aB ((l.length:Int)-1)).toNat) default).At_Y1) f ((l.getD ((aB ((l.length:Int)-1)).toNat) default).At_Y2) ((l.getD ((aB ((l.length:Int)-1)).toNat) default).Low) ((l.getD ((aB ((l.length:Int)-1)).toNat) default).High))).getD ((aB ((l.length:Int)-1)).toNat) default).High)))))) ((((l.length+([(Lin.mk J I f r G u)]).length)*48<=140737488355328)/\Q (l++([(Lin.mk J I f r G u)])))))))))) ((((l.length+([(Lin.mk J I f r G u)]).length)*48<=140737488355328)/\Q (l++([(Lin.mk J I f r G u)]))))))) ((((l.length+([(Lin.mk J I f r G u)]).length)*48<=140737488355328)/\Q (l++([(Lin.mk J I f r G u)]))))))) ((((l.length+([(Lin.mk J I f r G u)]).length)*48<=140737488355328)/\Q (l++([(Lin.mk J I f r G u)]))))))) ((((l.length+([(Lin.mk J I f r G u)]).length)*48<=140737488355328)/\Q (l++([(Lin.mk J I f r G u)]))))))) ((((l.length+([(Lin.mk J I f r G u)]).length)*48<=140737488355328)/\Q (l++([(Lin.mk J I f r G u)])))))
def aQ5 (F:Nat) (l:List Lin) (r f J u I G:Int) (Q:List Lin->Prop):Prop:=aPB l r f J u I G Q
def nG (z x:Lin):Bool:=cond (z.Low==x.Low) (cond (z.High==x.High) (cond (z.At_X2==x.At_X1) (cond (z.At_Y2==x.At_Y1) (cond (z.At_Y1==x.At_Y2) true (z.At_X1==x.At_X2)) false) false) false) false
def aJa (z x:Lin):Lin:=Lin.mk z.At_X1 z.At_Y1 x.At_X2 x.At_Y2 z.Low z.High
def kG (l:List Lin) (x:Lin):List Lin:=cond (x.Low==x.High) l (match l.getLast? with
 |none=>[x]
 |some z=>cond (nG z x) (l.dropLast++[aJa z x]) (l++[x]))
theorem aXu (x:Lin):kG [] x=cond (x.Low==x.High) [] [x]:=rfl
theorem aOh (m:List Lin) (z x:Lin):kG (m++[z]) x=cond (x.Low==x.High) (m++[z]) (cond (nG z x) (m++[aJa z x]) (m++[z]++[x])):=by
 unfold kG;rw[List.getLast?_concat,List.dropLast_concat]
theorem aMK {α:Type} (l:List α):l=[]\/∃m z,l=m++[z]:=by
 rcases List.eq_nil_or_concat l with h|⟨m,z,h⟩
 ·exact .inl h
 ·exact .inr ⟨m,z,by rw[h,List.concat_eq_append]⟩
theorem aOi (l:List Lin) (x:Lin):(kG l x).length<=l.length+1:=by
 rcases aMK l with rfl|⟨m,z,rfl⟩
 ·rw[aXu];cases x.Low==x.High<;>simp
 ·rw[aOh];cases x.Low==x.High<;>cases nG z x<;>simp
def aCL (l:List Lin) (X1 Y1 X2 Y2 f hi:Int):Prop:=l.length<=1000000000000
def aBn (l:List Lin) (X1 Y1 X2 Y2 f hi:Int):List Lin:=kG l (Lin.mk X1 Y1 X2 Y2 f hi)
theorem bLI (l:List Lin) (I G L J u r:Int) (h:aCL l I G L J u r):∃F,∀Q:List Lin->Prop,Q (aBn l I G L J u r)->aQ5 F l I G L J u r Q:=by
 have V:l.length<=1000000000000:=h;refine⟨0,fun Q f=>?_⟩;show aPB l I G L J u r Q;unfold aPB;unfold aBn at f;rcases aMK l with rfl|⟨m,z,rfl⟩
 ·rw[aXu] at f;cases hb:u==r with
  |true=>
   rw[show ((Lin.mk I G L J u r).Low==(Lin.mk I G L J u r).High)=true from hb] at f;exact f
  |false=>
   rw[show ((Lin.mk I G L J u r).Low==(Lin.mk I G L J u r).High)=false from hb] at f;rw[QJ,show decide (0<=aB ((([]:List Lin).length:Int)-1))=false from by decide,QJ];exact⟨XU,f⟩
 ·rw[aOh] at f;have hk:aB (((m++[z]).length:Int)-1)=(m.length:Int):=by
   rw[QH,QD] at V ⊢;rw[dW XY XY];omega
  have hg:∀y:Lin,(m++[y]).getD m.length default=y:=fun y=>aJU m y []
  have hs:∀x y:Lin,(m++[x]).set m.length y=m++[y]:=fun x y=>aCC m x y []
  have O:∀y:Lin,0<=(m.length:Int)/\(m.length:Int)<((m++[y]).length:Int):=fun y=>by
   rw[QH,QD];omega
  have S:((m++[z]).length+[Lin.mk I G L J u r].length)*48<=140737488355328:=by
   rw[QH,QD,QD];rw[QH,QD] at V;omega
  simp only[hk,QV,hg,hs];rw[bN (show (0:Int)<=(m.length:Int) by omega)];unfold nG aJa at f;dsimp only at f;cases b0:u==r with
  |true=>rw[b0] at f;exact f
  |false=>
  rw[b0,QJ] at f;rw[QJ,QX];refine⟨O _,?_⟩;cases b1:z.Low==u with
  |false=>rw[b1] at f;exact⟨S,f⟩
  |true=>
  rw[b1,QX] at f;refine⟨O _,?_⟩;cases b2:z.High==r with
  |false=>rw[b2] at f;exact⟨S,f⟩
  |true=>
  rw[b2,QX] at f;refine⟨O _,?_⟩;cases b3:z.At_X2==I with
  |false=>rw[b3] at f;exact⟨S,f⟩
  |true=>
  rw[b3,QX] at f;refine⟨O _,?_⟩;cases b4:z.At_Y2==G with
  |false=>rw[b4] at f;exact⟨S,f⟩
  |true=>
  rw[b4,QX] at f;refine⟨O _,?_⟩;cases b5:z.At_Y1==J with
  |true=>
   rw[b5,QX] at f;exact⟨O _,O _,f⟩
  |false=>
   rw[b5,QJ] at f;refine⟨O _,?_⟩;cases Z:z.At_X1==L with
   |true=>
    rw[Z] at f;exact⟨O _,O _,f⟩
   |false=>
    rw[Z] at f;exact⟨S,f⟩
def jH:Nat->Nat->Nat->Canon UU:=fun o b r=>cond (Nat.beq o 0&&Nat.beq b 0) ⟨[0,3,4],[],[(.tmp 3,137,.rect)],[],[]⟩ (cond (Nat.beq o 34000&&Nat.beq b 0) ⟨[0,1,2,7,8,1000005,1000006],[101728,101729],[(.tmp 7,34076,.ints)],[],[]⟩ (cond (Nat.beq o 34000&&Nat.beq b 2) ⟨[0,1,2,7,8,9,1000005,1000006],[34025,34076,101728,101729],[],[],[]⟩ (cond (Nat.beq o 0&&Nat.beq b 2) ⟨[5,6,7,8,9],[],[(.tmp 5,137,.int),(.tmp 6,138,.int),(.tmp 7,139,.ints),(.tmp 8,140,.lin)],[],[]⟩ (cond (Nat.beq o 0&&Nat.beq b 4) ⟨[5,6,7,8,9,10],[],[(.tmp 5,137,.int),(.tmp 6,138,.int),(.tmp 7,139,.ints),(.tmp 8,140,.lin)],[],[]⟩ (cond (Nat.beq o 0&&Nat.beq b 6) ⟨[5,6,7,8,11],[],[(.tmp 5,137,.int),(.tmp 6,138,.int),(.tmp 7,139,.ints),(.tmp 8,140,.lin)],[],[]⟩ (cond (Nat.beq o 0&&Nat.beq b 8) ⟨[5,6,7,8,11,12],[],[(.tmp 5,137,.int),(.tmp 6,138,.int),(.tmp 7,139,.ints),(.tmp 8,140,.lin)],[],[]⟩ (⟨[],[],[],[],[]⟩)))))))
def aYe (r:List (List aA)) (Q:List Lin->Prop) (f:List (List aA)->Int->List aA->Prop):Prop:=f r 0 ([])
def aYd (G:List (List aA)->Int->List aA->Prop) (I:List (List aA)->Int->List aA->Prop) (r:List (List aA)) (f:Int) (u:List aA):Prop:=cond (decide (f<(r.length:Int))) ((let e0:=(r.getD f.toNat default);(((0<=f/\f<r.length)/\((u.length+e0.length)*32<=140737488355328))/\G r (aB (f+1)) (u++e0)))) (I r f u)
def aYh (Q:List Lin->Prop) (u:List (List aA)) (I:Int) (r:List aA) (G:List (List aA)->Int->zzI->zzI->zzZ->Prop):Prop:=(let f:=(iW r);((aHl r)/\((0<=(aB ((f.1.length:Int)+1))/\(aB ((f.1.length:Int)+1))=(aB ((f.1.length:Int)+1))/\(aB ((f.1.length:Int)+1))*24<=140737488355328)/\G u 0 f.1 f.2 (List.replicate ((aB ((f.1.length:Int)+1)).toNat) ([]:zzI)))))
def aYc (O:List (List aA)->Int->zzI->zzI->zzZ->Prop) (J:List (List aA)->Int->zzI->zzI->zzZ->Prop) (I:List (List aA)) (G:Int) (u f:zzI) (r:zzZ) (L:List (List aA)->Int->Int->zzI->zzZ->Nat->zzI->zzI->Prop):Prop:=cond (decide (G<=(u.length:Int))) ((((0<=(aB ((f.length:Int)+1))/\(aB ((f.length:Int)+1))=(aB ((f.length:Int)+1))/\(aB ((f.length:Int)+1))*8<=140737488355328)/\(0<=G/\G<r.length))/\L I G 0 (List.replicate ((aB ((f.length:Int)+1)).toNat) (0:Int)) r G.toNat u f)) (J I G u f r)
def aYg (Q:List Lin->Prop) (J:List (List aA)) (I:Int) (u r:zzI) (f:zzZ) (G:Int->zzI->zzI->zzZ->List Lin->Prop):Prop:=G 0 u r f ([])
def aYb (S:List (List aA)->Int->Int->zzI->zzZ->Nat->zzI->zzI->Prop) (x0:List (List aA)->Int->Int->zzI->zzZ->Nat->zzI->zzI->Prop) (L:List (List aA)) (u f:Int) (J:zzI) (I:zzZ) (O:Nat) (G r:zzI):Prop:=cond (decide (f<=(r.length:Int))) ((((0<=u/\u<I.length)/\((u.toNat=O)/\(0<=f/\f<J.length)))/\cond ((((decide (0<u))&&(decide (0<f)))&&(decide (u<(G.length:Int))))&&(decide (f<(r.length:Int)))) (((0<=u/\u<I.length)/\((u.toNat=O)/\((0<=(aB (u-1))/\(aB (u-1))<G.length)/\(let Z:=(G.getD ((aB (u-1)).toNat) default);((0<=(aB (f-1))/\(aB (f-1))<r.length)/\(let V:=(r.getD ((aB (f-1)).toNat) default);((aMq L Z V)/\((0<=f/\f<(J.set f.toNat (-1)).length)/\S L u (aB (f+1)) ((J.set f.toNat (-1)).set f.toNat (aHQ L Z V)) I O G r))))))))) (S L u (aB (f+1)) (J.set f.toNat (-1)) I O G r))) (x0 L u f J I O G r)
def bPc (f:List (List aA)->Int->zzI->zzI->zzZ->Prop) (S:List (List aA)->Int->zzI->zzI->zzZ->Prop) (L:List (List aA)) (J V:Int) (u:zzI) (r:zzZ) (O:Nat) (I G:zzI):Prop:=f L (aB (J+1)) I G (r.set O u)
def aYa (O:Int->zzI->zzI->zzZ->List Lin->Prop) (J:Int->zzI->zzI->zzZ->List Lin->Prop) (f:Int) (I r:zzI) (G:zzZ) (u:List Lin) (L:Int->Int->zzI->zzI->zzZ->List Lin->Prop):Prop:=cond (decide (f<(r.length:Int))) (L f 0 I r G u) (J f I r G u)
def aYf (Q:List Lin->Prop) (J:Int) (I G:zzI) (u:zzZ) (r:List Lin) (f:Int->zzI->zzI->zzZ->List Lin->Prop):Prop:=f 0 I G u r
def aY9 (L:Int->Int->zzI->zzI->zzZ->List Lin->Prop) (O:Int->Int->zzI->zzI->zzZ->List Lin->Prop) (r f:Int) (u I:zzI) (G:zzZ) (J:List Lin):Prop:=cond (decide ((aB (f+1))<(u.length:Int))) (((0<=f/\f<u.length)/\((0<=r/\r<I.length)/\((0<=(aB (f+1))/\(aB (f+1))<u.length)/\((0<=r/\r<I.length)/\((0<=(aB (f+1))/\(aB (f+1))<G.length)/\(let e0:=((G.getD ((aB (f+1)).toNat) default).getD r.toNat default);((0<=r/\r<(G.getD ((aB (f+1)).toNat) default).length)/\((0<=(aB (f+1))/\(aB (f+1))<G.length)/\(let e1:=((G.getD ((aB (f+1)).toNat) default).getD ((aB (r+1)).toNat) default);((0<=(aB (r+1))/\(aB (r+1))<(G.getD ((aB (f+1)).toNat) default).length)/\((aCL J (u.getD f.toNat default) (I.getD r.toNat default) (u.getD ((aB (f+1)).toNat) default) (I.getD r.toNat default) e0 e1)/\L r (aB (f+1)) u I G (aBn J (u.getD f.toNat default) (I.getD r.toNat default) (u.getD ((aB (f+1)).toNat) default) (I.getD r.toNat default) e0 e1))))))))))))) (O r f u I G J)
def bPb (f:Int->zzI->zzI->zzZ->List Lin->Prop) (O:Int->zzI->zzI->zzZ->List Lin->Prop) (r L:Int) (J I:zzI) (G:zzZ) (u:List Lin):Prop:=f (aB (r+1)) J I G u
def aY8 (O:Int->zzI->zzI->zzZ->List Lin->Prop) (J:Int->zzI->zzI->zzZ->List Lin->Prop) (f:Int) (r I:zzI) (G:zzZ) (u:List Lin) (L:Int->Int->zzI->zzI->zzZ->List Lin->Prop):Prop:=cond (decide (f<(r.length:Int))) (L f 0 r I G u) (J f r I G u)
def bPa (Q:List Lin->Prop) (r:Int) (I G:zzI) (u:zzZ) (f:List Lin):Prop:=Q f
def aY7 (L:Int->Int->zzI->zzI->zzZ->List Lin->Prop) (O:Int->Int->zzI->zzI->zzZ->List Lin->Prop) (f r:Int) (I u:zzI) (G:zzZ) (J:List Lin):Prop:=cond (decide ((aB (r+1))<(u.length:Int))) (((0<=f/\f<I.length)/\((0<=r/\r<u.length)/\((0<=f/\f<I.length)/\((0<=(aB (r+1))/\(aB (r+1))<u.length)/\((0<=f/\f<G.length)/\(let e0:=((G.getD f.toNat default).getD ((aB (r+1)).toNat) default);((0<=(aB (r+1))/\(aB (r+1))<(G.getD f.toNat default).length)/\((0<=(aB (f+1))/\(aB (f+1))<G.length)/\(let e1:=((G.getD ((aB (f+1)).toNat) default).getD ((aB (r+1)).toNat) default);((0<=(aB (r+1))/\(aB (r+1))<(G.getD ((aB (f+1)).toNat) default).length)/\((aCL J (I.getD f.toNat default) (u.getD r.toNat default) (I.getD f.toNat default) (u.getD ((aB (r+1)).toNat) default) e0 e1)/\L f (aB (r+1)) I u G (aBn J (I.getD f.toNat default) (u.getD r.toNat default) (I.getD f.toNat default) (u.getD ((aB (r+1)).toNat) default) e0 e1))))))))))))) (O f r I u G J)
def bP9 (r:Int->zzI->zzI->zzZ->List Lin->Prop) (O:Int->zzI->zzI->zzZ->List Lin->Prop) (f L:Int) (J I:zzI) (G:zzZ) (u:List Lin):Prop:=r (aB (f+1)) J I G u
def aGS (F:Nat) (I:List (List aA)->Int->Int->zzI->zzZ->Nat->zzI->zzI->Prop):Nat->List (List aA)->Int->Int->zzI->zzZ->Nat->zzI->zzI->Prop
 |0,_,_,_,_,_,_,_,_=>False
 |n+1,O,L,J,r,f,S,G,u=>aYb (aGS F I n) I O L J r f S G u
def aNG (F:Nat) (S:List (List aA)->Int->zzI->zzI->zzZ->Prop) (V:List (List aA)->Int->zzI->zzI->zzZ->Prop) (L:List (List aA)) (J I:Int) (r:zzI) (f:zzZ) (O:Nat) (G u:zzI):Prop:=aGS F (fun L J I r f O G u=>bPc S V L J I r f O G u) F L J I r f O G u
def aGR (F:Nat) (r:Int->Int->zzI->zzI->zzZ->List Lin->Prop):Nat->Int->Int->zzI->zzI->zzZ->List Lin->Prop
 |0,_,_,_,_,_,_=>False
 |n+1,u,f,L,J,I,G=>aY9 (aGR F r n) r u f L J I G
def aNF (F:Nat) (L:Int->zzI->zzI->zzZ->List Lin->Prop) (O:Int->zzI->zzI->zzZ->List Lin->Prop) (r f:Int) (J I:zzI) (G:zzZ) (u:List Lin):Prop:=aGR F (fun r f J I G u=>bPb L O r f J I G u) F r f J I G u
def aGQ (F:Nat) (u:Int->Int->zzI->zzI->zzZ->List Lin->Prop):Nat->Int->Int->zzI->zzI->zzZ->List Lin->Prop
 |0,_,_,_,_,_,_=>False
 |n+1,r,f,L,J,I,G=>aY7 (aGQ F u n) u r f L J I G
def aNE (F:Nat) (L:Int->zzI->zzI->zzZ->List Lin->Prop) (O:Int->zzI->zzI->zzZ->List Lin->Prop) (r f:Int) (J I:zzI) (G:zzZ) (u:List Lin):Prop:=aGQ F (fun r f J I G u=>bP9 L O r f J I G u) F r f J I G u
def zU (F:Nat) (f:Int->zzI->zzI->zzZ->List Lin->Prop):Nat->Int->zzI->zzI->zzZ->List Lin->Prop
 |0,_,_,_,_,_=>False
 |n+1,r,J,I,G,u=>aY8 (zU F f n) f r J I G u (aNE F (zU F f n) f)
def aII (F:Nat) (Q:List Lin->Prop) (f:Int) (I G:zzI) (u:zzZ) (r:List Lin):Prop:=zU F (fun f I G u r=>bPa Q f I G u r) F f I G u r
def wZ (F:Nat) (f:Int->zzI->zzI->zzZ->List Lin->Prop):Nat->Int->zzI->zzI->zzZ->List Lin->Prop
 |0,_,_,_,_,_=>False
 |n+1,r,J,I,G,u=>aYa (wZ F f n) f r J I G u (aNF F (wZ F f n) f)
def aIJ (F:Nat) (Q:List Lin->Prop) (f:Int) (I G:zzI) (u:zzZ) (r:List Lin):Prop:=wZ F (fun f I G u r=>aYf Q f I G u r (aII F Q)) F f I G u r
def xB (F:Nat) (f:List (List aA)->Int->zzI->zzI->zzZ->Prop):Nat->List (List aA)->Int->zzI->zzI->zzZ->Prop
 |0,_,_,_,_,_=>False
 |n+1,J,I,G,u,r=>aYc (xB F f n) f J I G u r (aNG F (xB F f n) f)
def aIK (F:Nat) (Q:List Lin->Prop) (I:List (List aA)) (G:Int) (u r:zzI) (f:zzZ):Prop:=xB F (fun I G u r f=>aYg Q I G u r f (aIJ F Q)) F I G u r f
def aDH (F:Nat) (f:List (List aA)->Int->List aA->Prop):Nat->List (List aA)->Int->List aA->Prop
 |0,_,_,_=>False
 |n+1,u,r,G=>aYd (aDH F f n) f u r G
def aIL (F:Nat) (Q:List Lin->Prop) (r:List (List aA)) (f:Int) (u:List aA):Prop:=aDH F (fun r f u=>aYh Q r f u (aIK F Q)) F r f u
def aQI (F:Nat) (f:List (List aA)) (Q:List Lin->Prop):Prop:=aYe f Q (aIL F Q)
end
end Go.Proofs.YtjjbojomlfgjlaaGreatDoor
namespace Go.Proofs.YtjjbojomlfgjlaaGreatDoor
open Go.Vm Go.RowKit
set_option linter.unusedVariables false
noncomputable section
theorem bBR {α:Type} (len:Nat) (g:Nat->α) (P:Prop) (W:Nat->Int->List α->Prop) (G:∀n (i:Nat) (s:List α),i<len->s.length=len->W n ((i+1:Nat):Int) (s.set i (g i))->W (n+1) i s)
  (I:∀n,P->W (n+1) len ((List.range len).map g)):∀(n i:Nat) (t:List α),i+t.length=len->len<n+i->P->W n i ((List.range i).map g++t):=by
 intro n
 induction n with
 |zero=>intro i t f J;omega
 |succ n u=>
  intro i t f J r;cases t with
  |nil=>
   rw[JZ] at f;obtain rfl:i=len:=XY;rw[KJ];exact I n r
  |cons x t=>
   rw[QT] at f;refine G n i _ XY (by simp;omega) ?_;have e:=aCC ((List.range i).map g) x (g i) t;rw[KO,List.length_range] at e;rw[e];have L:(List.range i).map g++g i::t=(List.range (i+1)).map g++t:=by
    rw[List.range_succ,List.map_append,KP];rfl
   rw[L];exact u (i+1) t XY XY r
def eB (rs:List (List aA)) (xs ys:zzI) (i j:Nat):Int:=cond ((((decide (0<(i:Int)))&&(decide (0<(j:Int))))&&(decide ((i:Int)<(xs.length:Int))))&&(decide ((j:Int)<(ys.length:Int)))) (uR (xs.getD (i-1) default) (ys.getD (j-1) default) rs 0) (-1)
def oW (rs:List (List aA)) (xs ys:zzI):zzZ:=(List.range (xs.length+1)).map fun i=>(List.range (ys.length+1)).map fun j=>eB rs xs ys i j
def lnX (c:Nat->Nat->Int) (xs ys:zzI) (j i:Nat):Lin:=Lin.mk (xs.getD i default) (ys.getD j default) (xs.getD (i+1) default) (ys.getD j default) (c (i+1) j) (c (i+1) (j+1))
def lnY (c:Nat->Nat->Int) (xs ys:zzI) (i j:Nat):Lin:=Lin.mk (xs.getD i default) (ys.getD j default) (xs.getD i default) (ys.getD (j+1) default) (c i (j+1)) (c (i+1) (j+1))
def rG (c:Nat->Nat->Int) (xs ys:zzI) (m:List Lin) (j:Nat):List Lin:=(List.range' 0 (xs.length-1)).foldl (fun m i=>kG m (lnX c xs ys j i)) m
def rF (c:Nat->Nat->Int) (xs ys:zzI) (m:List Lin) (i:Nat):List Lin:=(List.range' 0 (ys.length-1)).foldl (fun m j=>kG m (lnY c xs ys i j)) m
def yY (c:Nat->Nat->Int) (xs ys:zzI):List Lin:=(List.range' 0 xs.length).foldl (rF c xs ys) ((List.range' 0 ys.length).foldl (rG c xs ys) [])
def yX (rs:List (List aA)):List Lin:=yY (eB rs (iW (rs.foldl (fun m r=>m++r) [])).1 (iW (rs.foldl (fun m r=>m++r) [])).2) (iW (rs.foldl (fun m r=>m++r) [])).1 (iW (rs.foldl (fun m r=>m++r) [])).2
theorem bBI {f:Nat->Lin}:∀(l:List Nat) (m:List Lin),(l.foldl (fun m i=>kG m (f i)) m).length<=m.length+l.length:=by
 intro l
 induction l with
 |nil=>intro m;simp
 |cons x l r=>
  intro m;have G:=r (kG m (f x));have u:=aOi m (f x);rw[QI,QT];omega
theorem aRU (c:Nat->Nat->Int) (xs ys:zzI) (m:List Lin) (j:Nat):(rG c xs ys m j).length<=m.length+xs.length:=by
 have:=bBI (f:=lnX c xs ys j) (List.range' 0 (xs.length-1)) m;rw[KE] at this;unfold rG;omega
theorem aRT (c:Nat->Nat->Int) (xs ys:zzI) (m:List Lin) (j:Nat):(rF c xs ys m j).length<=m.length+ys.length:=by
 have:=bBI (f:=lnY c xs ys j) (List.range' 0 (ys.length-1)) m;rw[KE] at this;unfold rF;omega
theorem aYM:∀(l:List aA) (s:zzI×zzI),(l.foldl qT s).1.length<=s.1.length+2*l.length/\(l.foldl qT s).2.length<=s.2.length+2*l.length:=by
 intro l
 induction l with
 |nil=>intro s;simp
 |cons r l G=>
  intro s;have O:=sW s.1 r.X;have L:=sW (kO s.1 r.X) (aB (r.X+r.W));have J:=sW s.2 r.Y;have I:=sW (kO s.2 r.Y) (aB (r.Y+r.H));obtain⟨u,f⟩:=G (qT s r);rw[QI,QT];unfold qT at u f ⊢;dsimp only at u f;omega
theorem bTq:∀(rs:List (List aA)) (m:List aA) (b:Nat),(∀r∈rs,r.length<=b)->(rs.foldl (fun m r=>m++r) m).length<=m.length+rs.length*b:=by
 intro rs
 induction rs with
 |nil=>intro m b _;simp
 |cons r rs f=>
  intro m b h;have u:=f (m++r) b (fun x hx=>h x (QE _ hx));have G:=h r (JJ ..);rw[QI,QT];rw[QH] at u;rw[Nat.add_mul];omega
theorem bCA (rs:List (List aA)) (xs ys:zzI) (i:Nat) (hi:i<=xs.length):(oW rs xs ys).getD i default=(List.range (ys.length+1)).map fun j=>eB rs xs ys i j:=by
 unfold oW;rw[QG,KM,XK XY];rfl
theorem aJn (rs:List (List aA)) (xs ys:zzI) (i j:Nat) (hi:i<=xs.length) (f:j<=ys.length):((oW rs xs ys).getD i default).getD j default=eB rs xs ys i j:=by
 rw[bCA rs xs ys i hi,QG,KM,XK XY];rfl
theorem bBz (rs:List (List aA)) (xs ys:zzI):(oW rs xs ys).length=xs.length+1:=by unfold oW;simp
theorem aPd (rs:List (List aA)) (xs ys:zzI) (i:Nat) (hi:i<=xs.length):((oW rs xs ys).getD i default).length=ys.length+1:=by
 rw[bCA rs xs ys i hi];simp
def aMf (rs:List (List aA)):Prop:=rs.length<=100/\∀r∈rs,r.length<=100
def aHI (rs:List (List aA)):List Lin:=yX rs
section
variable (F:Nat) (Q:List Lin->Prop) (rs:List (List aA)) (xs ys:zzI) (hF:100000<F) (hx:xs.length<=20000) (hy:ys.length<=20000)
include hF hx hy
theorem bVT (m:List Lin) (hm:m.length<=400000000) (J:Q ((List.range' 0 xs.length).foldl (rF (eB rs xs ys) xs ys) m)):aII F Q 0 xs ys (oW rs xs ys) m:=by
 unfold aII;refine sN xs.length (rF (eB rs xs ys) xs ys) (fun i k=>k.length<=400000000+i*20000) Q (fun n i k=>zU F _ n i xs ys (oW rs xs ys) k) (fun k i hi G=>?_) (fun n i k hi G f=>?_) (fun n k G r=>?_) F 0 m XY XY XY J
 ·have:=aRT (eB rs xs ys) xs ys k i;omega
 ·show cond (decide ((i:Int)<(xs.length:Int))) _ _;rw[bN XY,QX];unfold aNE;refine sN (ys.length-1) (fun m j=>kG m (lnY (eB rs xs ys) xs ys i j)) (fun j t=>t.length<=k.length+j) (fun t=>zU F _ n ((i+1:Nat):Int) xs ys (oW rs xs ys) t) (fun n j t=>aGQ F _ n i j xs ys (oW rs xs ys) t) (fun t j I u=>?_) (fun n j t I u f=>?_) (fun n t u r=>?_) F 0 k XY XY XY f
  ·have:=aOi t (lnY (eB rs xs ys) xs ys i j);omega
  ·show cond (decide (aB ((j:Int)+1)<(ys.length:Int))) _ _;have e1:aB ((j:Int)+1)=((j+1:Nat):Int):=cO (show j<ys.length by omega) XY;have L:aB ((i:Int)+1)=((i+1:Nat):Int):=cO hi XY;rw[e1,L,bN XY,QX,bBz,QV,QV,QV,QV,aPd rs xs ys i XY,aPd rs xs ys (i+1) XY,aJn rs xs ys i (j+1) XY XY,aJn rs xs ys (i+1) (j+1) XY XY];refine⟨⟨XY,XY⟩,⟨XY,XY⟩,⟨XY,XY⟩,⟨XY,XY⟩,⟨XY,XY⟩,⟨XY,XY⟩,⟨XY,XY⟩,⟨XY,XY⟩,?_,f⟩;unfold aCL;omega
  ·show cond (decide (aB ((((ys.length-1:Nat)):Int)+1)<(ys.length:Int))) _ _;have e1:aB ((((ys.length-1:Nat)):Int)+1)=((ys.length-1+1:Nat):Int):=by rw[dW XY XY];omega
   rw[e1,bV XY,QJ];show zU _ _ _ (aB ((i:Int)+1)) _ _ _ _;rw[cO hi XY];exact r
 ·show cond (decide ((xs.length:Int)<(xs.length:Int))) _ _;rw[bV XY,QJ];exact r
theorem bVU (J:Q (yY (eB rs xs ys) xs ys)):aIJ F Q 0 xs ys (oW rs xs ys) []:=by
 unfold aIJ;refine sN ys.length (rG (eB rs xs ys) xs ys) (fun i k=>k.length<=i*20000) (fun m=>Q ((List.range' 0 xs.length).foldl (rF (eB rs xs ys) xs ys) m)) (fun n i k=>wZ F _ n i xs ys (oW rs xs ys) k) (fun k i hi G=>?_) (fun n i k hi G f=>?_) (fun n k G r=>?_) F 0 [] XY XY XU J
 ·have:=aRU (eB rs xs ys) xs ys k i;omega
 ·show cond (decide ((i:Int)<(ys.length:Int))) _ _;rw[bN XY,QX];unfold aNF;refine sN (xs.length-1) (fun m j=>kG m (lnX (eB rs xs ys) xs ys i j)) (fun j t=>t.length<=k.length+j) (fun t=>wZ F _ n ((i+1:Nat):Int) xs ys (oW rs xs ys) t) (fun n j t=>aGR F _ n i j xs ys (oW rs xs ys) t) (fun t j I u=>?_) (fun n j t I u f=>?_) (fun n t u r=>?_) F 0 k XY XY XY f
  ·have:=aOi t (lnX (eB rs xs ys) xs ys i j);omega
  ·show cond (decide (aB ((j:Int)+1)<(xs.length:Int))) _ _;have e1:aB ((j:Int)+1)=((j+1:Nat):Int):=cO (show j<xs.length by omega) XY;have L:aB ((i:Int)+1)=((i+1:Nat):Int):=cO hi XY;rw[e1,L,bN XY,QX,bBz,QV,QV,QV,QV,aPd rs xs ys (j+1) XY,aJn rs xs ys (j+1) i XY XY,aJn rs xs ys (j+1) (i+1) XY XY];refine⟨⟨XY,XY⟩,⟨XY,XY⟩,⟨XY,XY⟩,⟨XY,XY⟩,⟨XY,XY⟩,⟨XY,XY⟩,⟨XY,XY⟩,⟨XY,XY⟩,?_,f⟩;unfold aCL;omega
  ·show cond (decide (aB ((((xs.length-1:Nat)):Int)+1)<(xs.length:Int))) _ _;have e1:aB ((((xs.length-1:Nat)):Int)+1)=((xs.length-1+1:Nat):Int):=by rw[dW XY XY];omega
   rw[e1,bV XY,QJ];show wZ _ _ _ (aB ((i:Int)+1)) _ _ _ _;rw[cO hi XY];exact r
 ·show cond (decide ((ys.length:Int)<(ys.length:Int))) _ _;rw[bV XY,QJ];exact bVT F Q rs xs ys hF hx hy k XY r
theorem bVV (I:rs.length<=2000000/\∀r∈rs,r.length<=2000000) (L:Q (yY (eB rs xs ys) xs ys)):aIK F Q rs 0 xs ys (List.replicate (xs.length+1) []):=by
 unfold aIK;refine bBR (xs.length+1) (fun i=>(List.range (ys.length+1)).map fun j=>eB rs xs ys i j) (Q (yY (eB rs xs ys) xs ys)) (fun n i s=>xB F _ n rs i xs ys s) (fun n i s hi hs u=>?_) (fun n G=>?_) F 0 (List.replicate (xs.length+1) []) XU XY L
 ·show cond (decide ((i:Int)<=(xs.length:Int))) _ _;have Z:aB ((ys.length:Int)+1)=((ys.length+1:Nat):Int):=by rw[dW XY XY];omega
  rw[bN XY,QX,Z,QV,QV];refine⟨⟨⟨XY,rfl,XY⟩,⟨XY,XY⟩⟩,?_⟩;unfold aNG;refine bBR (ys.length+1) (fun j=>eB rs xs ys i j) (xB F _ n rs ((i+1:Nat):Int) xs ys (s.set i ((List.range (ys.length+1)).map fun j=>eB rs xs ys i j))) (fun n j t=>aGS F _ n rs i j t s i xs ys) (fun n j t J ht u=>?_) (fun n G=>?_) F 0 (List.replicate (ys.length+1) 0) XU XY u
  ·show cond (decide ((j:Int)<=(ys.length:Int))) _ _;rw[bN XY,QX,QV,QV];refine⟨⟨⟨XY,XY⟩,rfl,⟨XY,XY⟩⟩,?_⟩;have V:aB ((j:Int)+1)=((j+1:Nat):Int):=cO J XY;rw[V];cases hb:(((decide (0<(i:Int)))&&(decide (0<(j:Int))))&&(decide ((i:Int)<(xs.length:Int))))&&(decide ((j:Int)<(ys.length:Int))) with
   |true=>
    rw[QX];have f:=u;unfold eB at f;rw[hb,QX] at f;simp only[QU,JN] at hb;obtain⟨⟨⟨h1,h2⟩,h3⟩,h4⟩:=hb;have S:aB ((i:Int)-1)=((i-1:Nat):Int):=by rw[dW XY XY];omega
    have O:aB ((j:Int)-1)=((j-1:Nat):Int):=by rw[dW XY XY];omega
    rw[S,O,QV,QV];refine⟨⟨XY,XY⟩,rfl,⟨XY,XY⟩,⟨XY,XY⟩,I,⟨XY,by rw[JM];omega⟩,?_⟩;rw[List.set_set];exact f
   |false=>
    rw[QJ];unfold eB at u;rw[hb,QJ] at u;exact u
  ·show cond (decide (((ys.length+1:Nat):Int)<=(ys.length:Int))) _ _;rw[bV XY,QJ];show xB _ _ _ _ (aB ((i:Int)+1)) _ _ _;rw[cO hi XY];exact G
 ·show cond (decide (((xs.length+1:Nat):Int)<=(xs.length:Int))) _ _;rw[bV XY,QJ];exact bVU F Q rs xs ys hF hx hy G
end
theorem bKi (f:List (List aA)) (h:aMf f):∃F,∀Q:List Lin->Prop,Q (aHI f)->aQI F f Q:=by
 obtain⟨Z,u⟩:=h;obtain⟨F,hF⟩:∃F:Nat,100000<F:=⟨100001,XY⟩;refine⟨F,fun Q L=>?_⟩;show aIL F Q f 0 [];unfold aIL;unfold aHI yX at L;refine qV f (fun m r=>m++r) (fun i m=>m.length<=i*100) (fun m=>Q (yY (eB f (iW m).1 (iW m).2) (iW m).1 (iW m).2)) (fun n i m=>aDH F _ n f i m) (fun i m hi hm=>?_) (fun n i m hi hm O=>?_) (fun n m hm V=>?_) F 0 [] XY XY XU L
 ·have:=u _ (fJ hi);rw[QH];omega
 ·have:=u _ (fJ hi);show cond (decide ((i:Int)<(f.length:Int))) _ _;rw[bN XY,QX,QV,cO hi XY];exact⟨⟨⟨XY,XY⟩,XY⟩,O⟩
 ·show cond (decide ((f.length:Int)<(f.length:Int))) _ _;rw[bV XY,QJ];have J:=aYM m ([],[]);have I:(iW m).1.length<=20000:=by
   have:=J.1;unfold iW;rw[JZ] at this;omega
  have G:(iW m).2.length<=20000:=by
   have:=J.2;unfold iW;rw[JZ] at this;omega
  have e1:aB (((iW m).1.length:Int)+1)=(((iW m).1.length+1:Nat):Int):=by rw[dW XY XY];omega
  refine⟨?_,?_,?_⟩
  ·unfold aHl;omega
  ·rw[e1];exact⟨XY,rfl,XY⟩
  ·rw[e1,QV];exact bVV F Q f _ _ hF I G ⟨XY,fun r S=>by have:=u r S;omega⟩ V
end
end Go.Proofs.YtjjbojomlfgjlaaGreatDoor
namespace Go.Proofs.YtjjbojomlfgjlaaGreatDoor
open Go.Vm Go.RowKit
set_option linter.unusedVariables false
noncomputable section
def zO:Nat->Nat->Nat->Canon UU:=fun o b r=>cond (Nat.beq b 0) ⟨[1,3,4],[1],[(.tmp 3,72,.rects)],[],[]⟩ (cond (Nat.beq b 2) ⟨[5,6,7],[],[(.tmp 5,72,.lin),(.tmp 6,73,.edge)],[],[]⟩ (⟨[],[],[],[],[]⟩))
def bAR (S O:ByteArray) (L J I G:Int) (u r:List aA) (f:List Pce) (Q:List Edg->Prop) (V:Int->ByteArray->ByteArray->Int->Int->Int->Int->List aA->List aA->List Pce->List (List aA)->Prop):Prop:=V 0 S O L J I G u r f ([])
def bAQ (G:Int->ByteArray->ByteArray->Int->Int->Int->Int->List aA->List aA->List Pce->List (List aA)->Prop) (x0:Int->ByteArray->ByteArray->Int->Int->Int->Int->List aA->List aA->List Pce->List (List aA)->Prop) (f:Int) (J L:ByteArray) (O S aD Z:Int) (V I:List aA) (r:List Pce) (u:List (List aA)):Prop:=cond (decide (f<(r.length:Int))) ((let e0:=(r.getD f.toNat default);(((0<=f/\f<r.length)/\((u.length+([e0.Rects]).length)*24<=140737488355328))/\G (aB (f+1)) J L O S aD Z V I r (u++([e0.Rects]))))) (x0 f J L O S aD Z V I r u)
def bAS (Q:List Edg->Prop) (u:Int) (J L:ByteArray) (O S aD Z:Int) (V G:List aA) (I:List Pce) (f:List (List aA)) (r:Int->List Lin->List Edg->Prop):Prop:=((aMf f)/\r 0 (aHI f) ([]))
def bAP (I:Int->List Lin->List Edg->Prop) (L:Int->List Lin->List Edg->Prop) (f:Int) (r:List Lin) (G:List Edg):Prop:=cond (decide (f<(r.length:Int))) (((0<=f/\f<r.length)/\((0<=f/\f<r.length)/\(let u:=mi ((r.getD f.toNat default).Low) ((r.getD f.toNat default).High);((0<=f/\f<r.length)/\((0<=f/\f<r.length)/\(let J:=ma ((r.getD f.toNat default).Low) ((r.getD f.toNat default).High);cond (decide (u<0)) ((((0<=f/\f<r.length)/\((G.length+([(Edg.mk ((r.getD f.toNat default).At_X1) ((r.getD f.toNat default).At_Y1) ((r.getD f.toNat default).At_X2) ((r.getD f.toNat default).At_Y2) J u)]).length)*48<=140737488355328))/\I (aB (f+1)) r (G++([(Edg.mk ((r.getD f.toNat default).At_X1) ((r.getD f.toNat default).At_Y1) ((r.getD f.toNat default).At_X2) ((r.getD f.toNat default).At_Y2) J u)])))) ((((0<=f/\f<r.length)/\((G.length+([(Edg.mk ((r.getD f.toNat default).At_X1) ((r.getD f.toNat default).At_Y1) ((r.getD f.toNat default).At_X2) ((r.getD f.toNat default).At_Y2) u J)]).length)*48<=140737488355328))/\I (aB (f+1)) r (G++([(Edg.mk ((r.getD f.toNat default).At_X1) ((r.getD f.toNat default).At_Y1) ((r.getD f.toNat default).At_X2) ((r.getD f.toNat default).At_Y2) u J)]))))))))))) (L f r G)
def bQU (Q:List Edg->Prop) (r:Int) (u:List Lin) (f:List Edg):Prop:=Q f
def aGn (F:Nat) (f:Int->List Lin->List Edg->Prop):Nat->Int->List Lin->List Edg->Prop
 |0,_,_,_=>False
 |n+1,r,G,u=>bAP (aGn F f n) f r G u
def aI7 (F:Nat) (Q:List Edg->Prop) (f:Int) (u:List Lin) (r:List Edg):Prop:=aGn F (fun f u r=>bQU Q f u r) F f u r
def aDW (F:Nat) (f:Int->ByteArray->ByteArray->Int->Int->Int->Int->List aA->List aA->List Pce->List (List aA)->Prop):Nat->Int->ByteArray->ByteArray->Int->Int->Int->Int->List aA->List aA->List Pce->List (List aA)->Prop
 |0,_,_,_,_,_,_,_,_,_,_,_=>False
 |n+1,r,J,L,O,S,aD,Z,V,G,I,u=>bAQ (aDW F f n) f r J L O S aD Z V G I u
def aI8 (F:Nat) (Q:List Edg->Prop) (f:Int) (I J:ByteArray) (L O Z V:Int) (S u:List aA) (G:List Pce) (r:List (List aA)):Prop:=aDW F (fun f I J L O Z V S u G r=>bAS Q f I J L O Z V S u G r (aI7 F Q)) F f I J L O Z V S u G r
def aQc (F:Nat) (S O:ByteArray) (L J I G:Int) (u r:List aA) (f:List Pce) (Q:List Edg->Prop):Prop:=bAR S O L J I G u r f Q (aI8 F Q)
def oT (z:Lin):Edg:=cond (decide (mi z.Low z.High<0)) (Edg.mk z.At_X1 z.At_Y1 z.At_X2 z.At_Y2 (ma z.Low z.High) (mi z.Low z.High)) (Edg.mk z.At_X1 z.At_Y1 z.At_X2 z.At_Y2 (mi z.Low z.High) (ma z.Low z.High))
def jT (ps:List Pce):List Edg:=(yX (ps.map Pce.Rects)).map oT
theorem aRQ {f:List Lin->Nat->List Lin} {b:Nat} (u:∀m i,(f m i).length<=m.length+b):∀(l:List Nat) (m:List Lin),(l.foldl f m).length<=m.length+l.length*b:=by
 intro l
 induction l with
 |nil=>intro m;simp
 |cons i l r=>
  intro m;have I:=r (f m i);have G:=u m i;rw[QI,QT,Nat.add_mul];omega
theorem bVS (c:Nat->Nat->Int) (xs ys:zzI):(yY c xs ys).length<=ys.length*xs.length+xs.length*ys.length:=by
 unfold yY;have u:=aRQ (f:=rF c xs ys) (b:=ys.length) (fun m i=>aRT c xs ys m i) (List.range' 0 xs.length) ((List.range' 0 ys.length).foldl (rG c xs ys) []);have r:=aRQ (f:=rG c xs ys) (b:=xs.length) (fun m i=>aRU c xs ys m i) (List.range' 0 ys.length) [];rw[KE] at u r;rw[JZ] at r;omega
theorem bCH (ps:List Pce) (h:aCe ps):(yX (ps.map Pce.Rects)).length<=800000000:=by
 obtain⟨Z,O⟩:=h;have G:=bTq (ps.map Pce.Rects) [] 100 (fun r L=>by
  obtain⟨p,hp,rfl⟩:=KY.1 L;exact O p hp)
 rw[JZ,KO] at G;unfold yX;generalize (ps.map Pce.Rects).foldl (fun m r=>m++r) []=f at G ⊢;have u:=aYM f ([],[]);have J:(iW f).1.length<=20000:=by
  have:=u.1;rw[JZ] at this;unfold iW;omega
 have I:(iW f).2.length<=20000:=by
  have:=u.2;rw[JZ] at this;unfold iW;omega
 have:=bVS (eB (ps.map Pce.Rects) (iW f).1 (iW f).2) (iW f).1 (iW f).2;have V:=Nat.mul_le_mul I J;have S:=Nat.mul_le_mul J I;omega
def aCM (S O:ByteArray) (L J I G:Int) (u r:List aA) (f:List Pce):Prop:=aCe f
def k8 (S O:ByteArray) (L J I G:Int) (u r:List aA) (f:List Pce):List Edg:=jT f
theorem bLR (Z V:ByteArray) (S O L J:Int) (I G:List aA) (f:List Pce) (h:aCM Z V S O L J I G f):∃F,∀Q:List Edg->Prop,Q (k8 Z V S O L J I G f)->aQc F Z V S O L J I G f Q:=by
 have hlen:=bCH f h;obtain⟨h1,h2⟩:=h;obtain⟨F,hF⟩:∃F:Nat,900000000<F:=⟨900000001,XY⟩;refine⟨F,fun Q hQ=>?_⟩;unfold k8 jT at hQ;show aI8 F Q 0 Z V S O L J I G f [];unfold aI8;refine aA1 f Pce.Rects (fun m=>m=f.map Pce.Rects) (fun n i m=>aDW F _ n i Z V S O L J I G f m) (fun n i m hm hi u=>?_) (fun n m hm=>?_) F 0 [] rfl XY XY XU
 ·show cond (decide ((i:Int)<(f.length:Int))) _ _;rw[bN XY,QX,QV,cO hi XY];exact⟨⟨⟨XY,XY⟩,by simp only[QT,JZ];omega⟩,u⟩
 ·subst hm;show cond (decide ((f.length:Int)<(f.length:Int))) _ _;rw[bV XY,QJ];refine⟨⟨by rw[KO];exact h1,fun r hr=>?_⟩,?_⟩
  ·obtain⟨p,hp,rfl⟩:=KY.1 hr;exact h2 p hp
  ·show aI7 F Q 0 (yX (f.map Pce.Rects)) [];generalize yX (f.map Pce.Rects)=l at hQ hlen ⊢;unfold aI7;refine aA1 l oT Q (fun n i m=>aGn F _ n i l m) (fun n i m hm hi u=>?_) (fun n m hq=>?_) F 0 [] rfl XY XY (by simpa using hQ)
   ·show cond (decide ((i:Int)<(l.length:Int))) _ _;have hb:0<=(i:Int)/\(i:Int)<l.length:=⟨XY,XY⟩;have ei:aB ((i:Int)+1)=((i+1:Nat):Int):=by rw[dW XY XY];omega
    rw[bN XY,QX,QV,ei];have h48:(m.length+1)*48<=140737488355328:=XY;refine⟨hb,hb,hb,hb,?_⟩;unfold oT at u;show cond (decide (mi (l.getD i default).Low (l.getD i default).High<0)) _ _;cases hd:decide (mi (l.getD i default).Low (l.getD i default).High<0) with
    |true=>
     rw[hd] at u;exact⟨⟨hb,h48⟩,u⟩
    |false=>
     rw[hd] at u;exact⟨⟨hb,h48⟩,u⟩
   ·show cond (decide ((l.length:Int)<(l.length:Int))) _ _;rw[bV XY,QJ];exact hq
def aDz (S O:ByteArray) (L J I G:Int) (u r:List aA) (f:List Pce):Prop:=(aCK S O L J I G u r f)/\(cond ((mG S O L J I G u r f) !=0) (True) ((aCM S O L J I G u r f)))
def nR (S O:ByteArray) (L J I G:Int) (u r:List aA) (f:List Pce):(List Edg)×Int:=cond ((mG S O L J I G u r f) !=0) (([],(mG S O L J I G u r f))) (((k8 S O L J I G u r f),0))
def aBR:Nat->Nat->Nat->Canon UU:=fun o b r=>cond (Nat.beq b 0) ⟨[1,2,3,4,5],[1,2,4],[(.cell 4 0,39,.bool),(.cell 4 2,40,.bool),(.cell 4 3,41,.int),(.cell 4 4,42,.bool),(.cell 4 1,43,.bools)],[],[43]⟩ (⟨[],[],[],[],[]⟩)
def bAN (V S:ByteArray) (O L J I:Int) (G u:List aA) (f:List Pce) (Q:List Bool->zzB->List Bool->zzI->List Bool->Prop) (Z:Int->Int->ByteArray->ByteArray->Int->Int->Int->Int->List aA->List aA->List Pce->List Bool->List Bool->zzI->List Bool->zzB->Prop):Prop:=((aCM V S O L J I G u f)/\(let r:=((k8 V S O L J I G u f).length:Int);((0<=r/\r=r/\r*1<=140737488355328)/\((0<=(f.length:Int)/\(f.length:Int)=(f.length:Int)/\(f.length:Int)*1<=140737488355328)/\((0<=(f.length:Int)/\(f.length:Int)=(f.length:Int)/\(f.length:Int)*8<=140737488355328)/\((0<=(f.length:Int)/\(f.length:Int)=(f.length:Int)/\(f.length:Int)*1<=140737488355328)/\Z (f.length:Int) 0 V S O L J I G u f (List.replicate r.toNat (false:Bool)) (List.replicate ((f.length:Int).toNat) (false:Bool)) (List.replicate ((f.length:Int).toNat) (0:Int)) (List.replicate ((f.length:Int).toNat) (false:Bool)) ([])))))))
def bAM (I:Int->Int->ByteArray->ByteArray->Int->Int->Int->Int->List aA->List aA->List Pce->List Bool->List Bool->zzI->List Bool->zzB->Prop) (x0:Int->Int->ByteArray->ByteArray->Int->Int->Int->Int->List aA->List aA->List Pce->List Bool->List Bool->zzI->List Bool->zzB->Prop) (u f:Int) (Z aI:ByteArray) (aH aG aD aE:Int) (aF V:List aA) (r:List Pce) (J L:List Bool) (O:zzI) (S:List Bool) (G:zzB):Prop:=cond (decide (f<u)) ((let e0:=(r.getD f.toNat default);((0<=f/\f<r.length)/\((0<=(e0.Cuts.length:Int)/\(e0.Cuts.length:Int)=(e0.Cuts.length:Int)/\(e0.Cuts.length:Int)*1<=140737488355328)/\(((G.length+1)*24<=140737488355328)/\I u (aB (f+1)) Z aI aH aG aD aE aF V r J L O S (G++[(List.replicate ((e0.Cuts.length:Int).toNat) (false:Bool))])))))) (x0 u f Z aI aH aG aD aE aF V r J L O S G)
def bQT (Q:List Bool->zzB->List Bool->zzI->List Bool->Prop) (L J:Int) (V Z:ByteArray) (aH aG aD aE:Int) (aF O:List aA) (S:List Pce) (f r:List Bool) (u:zzI) (G:List Bool) (I:zzB):Prop:=Q f I r u G
def aGm (F:Nat) (f:Int->Int->ByteArray->ByteArray->Int->Int->Int->Int->List aA->List aA->List Pce->List Bool->List Bool->zzI->List Bool->zzB->Prop):Nat->Int->Int->ByteArray->ByteArray->Int->Int->Int->Int->List aA->List aA->List Pce->List Bool->List Bool->zzI->List Bool->zzB->Prop
 |0,_,_,_,_,_,_,_,_,_,_,_,_,_,_,_,_=>False
 |n+1,u,r,Z,aI,aH,aG,aD,aE,aF,S,V,G,I,J,L,O=>bAM (aGm F f n) f u r Z aI aH aG aD aE aF S V G I J L O
def aI6 (F:Nat) (Q:List Bool->zzB->List Bool->zzI->List Bool->Prop) (r f:Int) (V Z:ByteArray) (aH aG aD aE:Int) (aF O:List aA) (S:List Pce) (u G:List Bool) (I:zzI) (J:List Bool) (L:zzB):Prop:=aGm F (fun r f V Z aH aG aD aE aF O S u G I J L=>bQT Q r f V Z aH aG aD aE aF O S u G I J L) F r f V Z aH aG aD aE aF O S u G I J L
def aQb (F:Nat) (S O:ByteArray) (L J I G:Int) (u r:List aA) (f:List Pce) (Q:List Bool->zzB->List Bool->zzI->List Bool->Prop):Prop:=bAN S O L J I G u r f Q (aI6 F Q)
def aBK:Nat->Nat->Nat->Canon UU:=fun o b r=>cond (Nat.beq b 0) ⟨[3,4,6,7,8],[3,4],[],[],[]⟩ (⟨[],[],[],[],[]⟩)
def aZq (y0 y1:ByteArray) (y2 Z V S:Int) (O L:List aA) (f:List Pce) (J:List Bool) (I:zzB) (G:List Bool) (u:zzI) (r:List Bool) (a2:Int) (Q:Bool->Prop) (i0:Bool->Int->Int->ByteArray->ByteArray->Int->Int->Int->Int->List aA->List aA->List Pce->List Bool->zzB->List Bool->zzI->List Bool->Prop):Prop:=cond ((((((J.length:Int) !=a2)||((I.length:Int) !=(f.length:Int)))||((G.length:Int) !=(f.length:Int)))||((u.length:Int) !=(f.length:Int)))||((r.length:Int) !=(f.length:Int))) (Q false) (i0 false (f.length:Int) 0 y0 y1 y2 Z V S O L f J I G u r)
def aZp (rec:Bool->Int->Int->ByteArray->ByteArray->Int->Int->Int->Int->List aA->List aA->List Pce->List Bool->zzB->List Bool->zzI->List Bool->Prop) (x0:Bool->Int->Int->ByteArray->ByteArray->Int->Int->Int->Int->List aA->List aA->List Pce->List Bool->zzB->List Bool->zzI->List Bool->Prop) (x1:Bool->Int->Int->ByteArray->ByteArray->Int->Int->Int->Int->List aA->List aA->List Pce->List Bool->zzB->List Bool->zzI->List Bool->Prop) (t6:Bool) (G f:Int) (bQ bP:ByteArray) (bR bS O I:Int) (J L:List aA) (r:List Pce) (bX:List Bool) (u:zzB) (S:List Bool) (V:zzI) (Z:List Bool):Prop:=cond (decide (f<G)) ((let e0:=(u.getD f.toNat default);((0<=f/\f<u.length)/\(let e1:=(r.getD f.toNat default);((0<=f/\f<r.length)/\cond ((e0.length:Int) !=(e1.Cuts.length:Int)) (x0 false G f bQ bP bR bS O I J L r bX u S V Z) (rec t6 G (aB (f+1)) bQ bP bR bS O I J L r bX u S V Z)))))) (x1 t6 G f bQ bP bR bS O I J L r bX u S V Z)
def bQI (Q:Bool->Prop) (f:Bool) (u r:Int) (bQ bP:ByteArray) (bR bS O G:Int) (I J:List aA) (L:List Pce) (bX:List Bool) (bY:zzB) (S:List Bool) (V:zzI) (Z:List Bool):Prop:=Q f
def bQH (Q:Bool->Prop) (u:Bool) (r f:Int) (bQ bP:ByteArray) (bR bS O G:Int) (I J:List aA) (L:List Pce) (bX:List Bool) (bY:zzB) (S:List Bool) (V:zzI) (Z:List Bool):Prop:=Q true
def aGe (F:Nat) (r:Bool->Int->Int->ByteArray->ByteArray->Int->Int->Int->Int->List aA->List aA->List Pce->List Bool->zzB->List Bool->zzI->List Bool->Prop) (f:Bool->Int->Int->ByteArray->ByteArray->Int->Int->Int->Int->List aA->List aA->List Pce->List Bool->zzB->List Bool->zzI->List Bool->Prop):Nat->Bool->Int->Int->ByteArray->ByteArray->Int->Int->Int->Int->List aA->List aA->List Pce->List Bool->zzB->List Bool->zzI->List Bool->Prop
 |0,_,_,_,_,_,_,_,_,_,_,_,_,_,_,_,_,_=>False
 |n+1,I,G,u,bQ,bP,bR,bS,V,J,L,O,S,bX,bY,Z,cC,bZ=>aZp (aGe F r f n) r f I G u bQ bP bR bS V J L O S bX bY Z cC bZ
def aNZ (F:Nat) (Q:Bool->Prop) (u:Bool) (r f:Int) (bQ bP:ByteArray) (bR bS O G:Int) (I J:List aA) (L:List Pce) (bX:List Bool) (bY:zzB) (S:List Bool) (V:zzI) (Z:List Bool):Prop:=aGe F (fun u r f bQ bP bR bS O G I J L bX bY S V Z=>bQI Q u r f bQ bP bR bS O G I J L bX bY S V Z) (fun u r f bQ bP bR bS O G I J L bX bY S V Z=>bQH Q u r f bQ bP bR bS O G I J L bX bY S V Z) F u r f bQ bP bR bS O G I J L bX bY S V Z
def aQ2 (F:Nat) (y0 y1:ByteArray) (Z V S O:Int) (L J:List aA) (I:List Pce) (qy:List Bool) (G:zzB) (u:List Bool) (r:zzI) (f:List Bool) (a2:Int) (Q:Bool->Prop):Prop:=aZq y0 y1 Z V S O L J I qy G u r f a2 Q (aNZ F Q)
def aBO:Nat->Nat->Nat->Canon UU:=fun o b r=>cond (Nat.beq b 0) ⟨[0,2,4,6,7],[4],[],[],[]⟩ (⟨[],[],[],[],[]⟩)
def bAI (O:List Edg) (I:List Bool) (G:zzB) (u:List Bool) (r:zzI) (f:List Bool) (L:Int) (Q:Bool->Prop) (J:List Edg->Int->Bool->Int->List Bool->zzB->List Bool->zzI->List Bool->Prop):Prop:=J O L false 0 I G u r f
def bAH (S:List Edg->Int->Bool->Int->List Bool->zzB->List Bool->zzI->List Bool->Prop) (x0:List Edg->Int->Bool->Int->List Bool->zzB->List Bool->zzI->List Bool->Prop) (Z:List Edg->Int->Bool->Int->List Bool->zzB->List Bool->zzI->List Bool->Prop) (u:List Edg) (r:Int) (V:Bool) (f:Int) (G:List Bool) (O:zzB) (I:List Bool) (J:zzI) (L:List Bool):Prop:=cond (decide (f<(u.length:Int))) ((let e0:=(u.getD f.toNat default);(let e1:=(G.getD f.toNat default);(((0<=f/\f<u.length)/\(((e0.A==r)=false->0<=f/\f<u.length)/\(((e0.A==r)||(e0.B==r))=true->0<=f/\f<G.length)))/\cond (((e0.A==r)||(e0.B==r))&&(!e1)) (x0 u r false f G O I J L) (S u r V (aB (f+1)) G O I J L))))) (Z u r V f G O I J L)
def bQO (Q:Bool->Prop) (G:List Edg) (u:Int) (f:Bool) (r:Int) (S:List Bool) (O:zzB) (I:List Bool) (J:zzI) (L:List Bool):Prop:=Q f
def bQN (Q:Bool->Prop) (G:List Edg) (u:Int) (r:Bool) (f:Int) (S:List Bool) (O:zzB) (I:List Bool) (J:zzI) (L:List Bool):Prop:=Q true
def aGj (F:Nat) (r:List Edg->Int->Bool->Int->List Bool->zzB->List Bool->zzI->List Bool->Prop) (f:List Edg->Int->Bool->Int->List Bool->zzB->List Bool->zzI->List Bool->Prop):Nat->List Edg->Int->Bool->Int->List Bool->zzB->List Bool->zzI->List Bool->Prop
 |0,_,_,_,_,_,_,_,_,_=>False
 |n+1,J,I,G,u,Z,V,L,O,S=>bAH (aGj F r f n) r f J I G u Z V L O S
def aI4 (F:Nat) (Q:Bool->Prop) (G:List Edg) (u:Int) (r:Bool) (f:Int) (S:List Bool) (O:zzB) (I:List Bool) (J:zzI) (L:List Bool):Prop:=aGj F (fun G u r f S O I J L=>bQO Q G u r f S O I J L) (fun G u r f S O I J L=>bQN Q G u r f S O I J L) F G u r f S O I J L
def aQ9 (F:Nat) (L:List Edg) (I:List Bool) (G:zzB) (u:List Bool) (r:zzI) (f:List Bool) (J:Int) (Q:Bool->Prop):Prop:=bAI L I G u r f J Q (aI4 F Q)
def aBI:Nat->Nat->Nat->Canon UU:=fun o b r=>cond (Nat.beq b 0) ⟨[0,2,3],[],[],[],[]⟩ (⟨[],[],[],[],[]⟩)
def aZm (r:List Bool) (Q:Bool->Prop) (f:List Bool->Bool->Int->Prop):Prop:=f r false 0
def aZl (u:List Bool->Bool->Int->Prop) (J:List Bool->Bool->Int->Prop) (I:List Bool->Bool->Int->Prop) (r:List Bool) (G:Bool) (f:Int):Prop:=cond (decide (f<(r.length:Int))) ((let e0:=(r.getD f.toNat default);((0<=f/\f<r.length)/\cond (!e0) (J r false f) (u r G (aB (f+1)))))) (I r G f)
def bQG (Q:Bool->Prop) (u:List Bool) (f:Bool) (r:Int):Prop:=Q f
def bQF (Q:Bool->Prop) (u:List Bool) (r:Bool) (f:Int):Prop:=Q true
def aGc (F:Nat) (r:List Bool->Bool->Int->Prop) (f:List Bool->Bool->Int->Prop):Nat->List Bool->Bool->Int->Prop
 |0,_,_,_=>False
 |n+1,I,G,u=>aZl (aGc F r f n) r f I G u
def aIY (F:Nat) (Q:Bool->Prop) (u:List Bool) (r:Bool) (f:Int):Prop:=aGc F (fun u r f=>bQG Q u r f) (fun u r f=>bQF Q u r f) F u r f
def aQ0 (F:Nat) (f:List Bool) (Q:Bool->Prop):Prop:=aZm f Q (aIY F Q)
def aBV:Nat->Nat->Nat->Canon UU:=fun o b r=>cond (Nat.beq b 0) ⟨[1,3,4,5,6,7,8],[1],[],[],[]⟩ (⟨[],[],[],[],[]⟩)
def bA5 (J I:ByteArray) (G u:Int) (L r f:List aA) (Q:Bool->Prop) (O:Bool->Int->Int->Int->Int->Int->ByteArray->ByteArray->Int->Int->List aA->List aA->List aA->Prop):Prop:=O false 0 0 0 0 0 J I G u L r f
def bA4 (u:Bool->Int->Int->Int->Int->Int->ByteArray->ByteArray->Int->Int->List aA->List aA->List aA->Prop) (x0:Bool->Int->Int->Int->Int->Int->ByteArray->ByteArray->Int->Int->List aA->List aA->List aA->Prop) (G:Bool) (t4 t5 t6 Z f:Int) (I J:ByteArray) (L O:Int) (r V S:List aA):Prop:=cond (decide (f<(r.length:Int))) ((let e0:=(r.getD f.toNat default);((0<=f/\f<r.length)/\cond (!(jE e0.X e0.Y e0.W e0.H)) (u G t4 t5 t6 Z (aB (f+1)) I J L O r V S) (cond (!G) (u true (mi e0.X e0.X) (mi e0.Y e0.Y) (ma (aB (e0.X+e0.W)) (aB (e0.X+e0.W))) (ma (aB (e0.Y+e0.H)) (aB (e0.Y+e0.H))) (aB (f+1)) I J L O r V S) (u G (mi t4 e0.X) (mi t5 e0.Y) (ma t6 (aB (e0.X+e0.W))) (ma Z (aB (e0.Y+e0.H))) (aB (f+1)) I J L O r V S))))) (x0 G t4 t5 t6 Z f I J L O r V S)
def bQX (Q:Bool->Prop) (I:Bool) (G u r f J:Int) (L O:ByteArray) (S V:Int) (aD aE Z:List aA):Prop:=Q ((!I)||(decide ((mi (aB (r-G)) (aB (f-u)))<7200)))
def aGs (F:Nat) (f:Bool->Int->Int->Int->Int->Int->ByteArray->ByteArray->Int->Int->List aA->List aA->List aA->Prop):Nat->Bool->Int->Int->Int->Int->Int->ByteArray->ByteArray->Int->Int->List aA->List aA->List aA->Prop
 |0,_,_,_,_,_,_,_,_,_,_,_,_,_=>False
 |n+1,L,J,I,G,u,r,O,S,V,Z,aD,aE,aF=>bA4 (aGs F f n) f L J I G u r O S V Z aD aE aF
def aIc (F:Nat) (Q:Bool->Prop) (J:Bool) (I G u r f:Int) (L O:ByteArray) (S V:Int) (aD aE Z:List aA):Prop:=aGs F (fun J I G u r f L O S V aD aE Z=>bQX Q J I G u r f L O S V aD aE Z) F J I G u r f L O S V aD aE Z
def aQh (F:Nat) (J I:ByteArray) (G u:Int) (L r f:List aA) (Q:Bool->Prop):Prop:=bA5 J I G u L r f Q (aIc F Q)
def aBX:Nat->Nat->Nat->Canon UU:=fun o b r=>cond (Nat.beq b 0) ⟨[0,1,2,6,7],[],[],[],[]⟩ (⟨[],[],[],[],[]⟩)
def bAf (G:List aA) (u r:Int) (Q:Bool->Prop) (f:List aA->Int->Int->Bool->Int->Prop):Prop:=f G u r false 0
def bAe (G:List aA->Int->Int->Bool->Int->Prop) (L:List aA->Int->Int->Bool->Int->Prop) (J:List aA->Int->Int->Bool->Int->Prop) (r:List aA) (t1 u:Int) (I:Bool) (f:Int):Prop:=cond (decide (f<(r.length:Int))) ((let e0:=(r.getD f.toNat default);(let O:=(oJ t1 u 1 1 e0.X e0.Y e0.W e0.H);((0<=f/\f<r.length)/\cond O (L r t1 u true f) (G r t1 u I (aB (f+1))))))) (J r t1 u I f)
def bQ1 (Q:Bool->Prop) (G:List aA) (t1 u:Int) (f:Bool) (r:Int):Prop:=Q f
def bQ0 (Q:Bool->Prop) (G:List aA) (t1 u:Int) (r:Bool) (f:Int):Prop:=Q false
def aGw (F:Nat) (r:List aA->Int->Int->Bool->Int->Prop) (f:List aA->Int->Int->Bool->Int->Prop):Nat->List aA->Int->Int->Bool->Int->Prop
 |0,_,_,_,_,_=>False
 |n+1,L,J,I,G,u=>bAe (aGw F r f n) r f L J I G u
def aIe (F:Nat) (Q:Bool->Prop) (G:List aA) (t1 u:Int) (r:Bool) (f:Int):Prop:=aGw F (fun G t1 u r f=>bQ1 Q G t1 u r f) (fun G t1 u r f=>bQ0 Q G t1 u r f) F G t1 u r f
def aQj (F:Nat) (u:List aA) (r f:Int) (Q:Bool->Prop):Prop:=bAf u r f Q (aIe F Q)
abbrev aPw:=List Bool×zzB×List Bool×zzI×List Bool
def aDy (S O:ByteArray) (L J I G:Int) (u r:List aA) (f:List Pce):Prop:=aCe f/\∀p∈f,p.Cuts.length<=2000000
def jD (S O:ByteArray) (L J I G:Int) (u r:List aA) (f:List Pce):aPw:=
 (List.replicate (jT f).length false,f.map aAC,List.replicate f.length false,List.replicate f.length 0,List.replicate f.length false)
theorem bLP (S O:ByteArray) (L J I G:Int) (u r:List aA) (f:List Pce) (h:aDy S O L J I G u r f):∃F,∀Q:List Bool->zzB->List Bool->zzI->List Bool->Prop,Q ((jD S O L J I G u r f).1) ((jD S O L J I G u r f).2.1) ((jD S O L J I G u r f).2.2.1) ((jD S O L J I G u r f).2.2.2.1) ((jD S O L J I G u r f).2.2.2.2)->aQb F S O L J I G u r f Q:=by
 obtain⟨Z,h2⟩:=h;have V:=bCH f Z;have hlen2:(jT f).length<=800000000:=by unfold jT;rw[KO];exact V
 have h8:=Z.1;refine⟨f.length+1,fun Q hQ=>?_⟩;refine⟨Z,⟨XY,rfl,?_⟩,⟨XY,rfl,XY⟩,⟨XY,rfl,XY⟩,⟨XY,rfl,XY⟩,?_⟩
 ·show ((jT f).length:Int)*1<=_;omega
 ·rw[QV,QV];show aI6 (f.length+1) Q (f.length:Int) 0 S O L J I G u r f (List.replicate (jT f).length false) (List.replicate f.length false) (List.replicate f.length 0) (List.replicate f.length false) [];unfold aI6;refine aA1 f aAC (fun m=>Q (List.replicate (jT f).length false) m (List.replicate f.length false) (List.replicate f.length 0) (List.replicate f.length false)) (fun n i m=>aGm (f.length+1) _ n (f.length:Int) i S O L J I G u r f (List.replicate (jT f).length false) (List.replicate f.length false) (List.replicate f.length 0) (List.replicate f.length false) m) (fun n i m hm hi hw=>?_) (fun n m hq=>?_) (f.length+1) 0 [] rfl XY XY hQ
  ·show cond (decide ((i:Int)<(f.length:Int))) _ _;rw[bN XY,QX,QV,cO hi XY];have:=h2 _ (fJ hi);refine⟨⟨XY,XY⟩,⟨XY,rfl,XY⟩,XY,?_⟩;rw[QV];exact hw
  ·show cond (decide ((f.length:Int)<(f.length:Int))) _ _;rw[bV XY,QJ];exact hq
def aHk (y0 y1:ByteArray) (Z V S O:Int) (L J:List aA) (f:List Pce) (qy:List Bool) (I:zzB) (G:List Bool) (u:zzI) (r:List Bool) (a2:Int):Prop:=f.length<=2000000
def sH (y0 y1:ByteArray) (y2 y3 Z V:Int) (S O:List aA) (I:List Pce) (J:List Bool) (G:zzB) (u:List Bool) (r:zzI) (f:List Bool) (L:Int):Bool:=lX J G u r f I L
theorem bLF (y0 y1:ByteArray) (y2 y3 Z V:Int) (S O:List aA) (f:List Pce) (L:List Bool) (r:zzB) (I:List Bool) (G:zzI) (u:List Bool) (a2:Int) (h:aHk y0 y1 y2 y3 Z V S O f L r I G u a2):∃F,∀Q:Bool->Prop,Q (sH y0 y1 y2 y3 Z V S O f L r I G u a2)->aQ2 F y0 y1 y2 y3 Z V S O f L r I G u a2 Q:=by
 have hl:f.length<=2000000:=h;refine⟨f.length+1,fun Q J=>?_⟩;unfold sH lX at J;show cond _ _ _;cases hb:(((((L.length:Int) !=a2)||((r.length:Int) !=(f.length:Int)))||((I.length:Int) !=(f.length:Int)))||((G.length:Int) !=(f.length:Int)))||((u.length:Int) !=(f.length:Int)) with
 |true=>
  rw[hb] at J;exact J
 |false=>
  rw[hb,QJ] at J;rw[QJ];have hh:r.length=f.length:=by
   simp only[QC,bne_eq_false_iff_eq] at hb;have:=hb.1.1.1.2;omega
  unfold aNZ;refine kP f.length (fun i=>((r.getD i default).length:Int) !=((f.getD i default).Cuts.length:Int)) (Q false) (Q true) (fun n i=>aGe (f.length+1) _ _ n false (f.length:Int) i y0 y1 y2 y3 Z V S O f L r I G u) (fun n i hi hx hw=>?_) (fun n hy=>?_) (f.length+1) XY (fun q=>?_) (fun q=>?_)
  ·show cond (decide ((i:Int)<(f.length:Int))) _ _;rw[bN XY,QX,QV,cO hi XY];refine⟨⟨XY,XY⟩,⟨XY,XY⟩,?_⟩;cases hb:((r.getD i default).length:Int) !=((f.getD i default).Cuts.length:Int) with
   |true=>exact hx hb
   |false=>exact hw hb
  ·show cond (decide ((f.length:Int)<(f.length:Int))) _ _;rw[bV XY,QJ];exact hy
  ·unfold yQ at J;rw[q] at J;exact J
  ·unfold yQ at J;rw[q] at J;exact J
def yB (f:List Edg) (r:List Bool) (J:zzB) (I:List Bool) (G:zzI) (u:List Bool) (L:Int):Prop:=f.length<=1000000000000/\r.length=f.length
def oE (u:List Edg) (f:List Bool) (L:zzB) (J:List Bool) (I:zzI) (G:List Bool) (r:Int):Bool:=yO f u r
theorem bLM (f:List Edg) (J:List Bool) (I:zzB) (G:List Bool) (u:zzI) (r:List Bool) (L:Int) (h:yB f J I G u r L):∃F,∀Q:Bool->Prop,Q (oE f J I G u r L)->aQ9 F f J I G u r L Q:=by
 obtain⟨Z,hc⟩:=h;refine⟨f.length+1,fun Q O=>?_⟩;unfold oE yO at O;show aI4 (f.length+1) Q f L false 0 J I G u r;unfold aI4;refine kP f.length (yH J f L) (Q false) (Q true) (fun n i=>aGj (f.length+1) _ _ n f L false i J I G u r) (fun n i hi hx S=>?_) (fun n hy=>?_) (f.length+1) XY (fun q=>by rw[q] at O;exact O) (fun q=>by rw[q] at O;exact O)
 ·show cond (decide ((i:Int)<(f.length:Int))) _ _;rw[bN XY,QX,QV];have V:aB ((i:Int)+1)=((i+1:Nat):Int):=by rw[dW XY XY];omega
  rw[V];refine⟨⟨⟨XY,XY⟩,fun _=>⟨XY,XY⟩,fun _=>⟨XY,XY⟩⟩,?_⟩;show cond (yH J f L i) _ _;cases hb:yH J f L i with
  |true=>exact hx hb
  |false=>exact S hb
 ·show cond (decide ((f.length:Int)<(f.length:Int))) _ _;rw[bV XY,QJ];exact hy
def uH (l:List Bool):Prop:=l.length<=2000000
def iJ (l:List Bool):Bool:=!(l.any fun b=>!b)
theorem bLD (f:List Bool) (h:uH f):∃F,∀Q:Bool->Prop,Q (iJ f)->aQ0 F f Q:=by
 have G:f.length<=2000000:=h;refine⟨f.length+1,fun Q r=>?_⟩;unfold iJ at r;show aIY (f.length+1) Q f false 0;unfold aIY;refine mH f (fun b=>!b) (Q false) (Q true) (fun n i=>aGc (f.length+1) _ _ n f false i) (fun n i hi hx u=>?_) (fun n hy=>?_) (f.length+1) XY (fun q=>by rw[q] at r;exact r) (fun q=>by rw[q] at r;exact r)
 ·show cond (decide ((i:Int)<(f.length:Int))) _ _;rw[bN XY,QX,QV,cO hi XY];refine⟨⟨XY,XY⟩,?_⟩;cases hb:!(f.getD i default) with
  |true=>exact hx hb
  |false=>exact u hb
 ·show cond (decide ((f.length:Int)<(f.length:Int))) _ _;rw[bV XY,QJ];exact hy
abbrev aCx:=Bool×Int×Int×Int×Int
def o5 (s:aCx) (r:aA):aCx:=cond (!(jE r.X r.Y r.W r.H)) s (cond (!s.1) (true,mi r.X r.X,mi r.Y r.Y,ma (aB (r.X+r.W)) (aB (r.X+r.W)),ma (aB (r.Y+r.H)) (aB (r.Y+r.H)))
 (s.1,mi s.2.1 r.X,mi s.2.2.1 r.Y,ma s.2.2.2.1 (aB (r.X+r.W)),ma s.2.2.2.2 (aB (r.Y+r.H))))
def aML (s:aCx):Bool:=(!s.1)||(decide ((mi (aB (s.2.2.2.1-s.2.1)) (aB (s.2.2.2.2-s.2.2.1)))<7200))
def aH1 (l:List aA):Bool:=aML (l.foldl o5 (false,0,0,0,0))
def w9 (L J:ByteArray) (I G:Int) (f u r:List aA):Prop:=f.length<=2000000
def rB (L J:ByteArray) (I G:Int) (f u r:List aA):Bool:=aH1 f
theorem bLW (S O:ByteArray) (L J:Int) (f I G:List aA) (h:w9 S O L J f I G):∃F,∀Q:Bool->Prop,Q (rB S O L J f I G)->aQh F S O L J f I G Q:=by
 have hl:f.length<=2000000:=h;refine⟨f.length+1,fun Q hQ=>?_⟩;show aIc (f.length+1) Q false 0 0 0 0 0 S O L J f I G;unfold aIc;refine aCa f o5 (fun s=>Q (aML s)) (fun n i s=>aGs (f.length+1) _ n s.1 s.2.1 s.2.2.1 s.2.2.2.1 s.2.2.2.2 i S O L J f I G) (fun n i s hi u=>?_) (fun n s hq=>?_) (f.length+1) 0 (false,0,0,0,0) XY XY hQ
 ·show cond (decide ((i:Int)<(f.length:Int))) _ _;rw[bN XY,QX,QV,cO hi XY];refine⟨⟨XY,XY⟩,?_⟩;generalize f.getD i default=r at u ⊢;unfold o5 at u;cases Z:!(jE r.X r.Y r.W r.H) with
  |true=>
   rw[Z] at u;exact u
  |false=>
   rw[Z,QJ] at u;rw[QJ];cases V:!s.1 with
   |true=>
    rw[V] at u;exact u
   |false=>
    rw[V] at u;exact u
 ·show cond (decide ((f.length:Int)<(f.length:Int))) _ _;rw[bV XY,QJ];exact hq
def aBk (x y:Int) (r:aA):Bool:=oJ x y 1 1 r.X r.Y r.W r.H
def sR (l:List aA) (x y:Int):Prop:=l.length<=2000000
def iC (l:List aA) (x y:Int):Bool:=l.any (aBk x y)
theorem bLZ (f:List aA) (u r:Int) (h:sR f u r):∃F,∀Q:Bool->Prop,Q (iC f u r)->aQj F f u r Q:=by
 have J:f.length<=2000000:=h;refine⟨f.length+1,fun Q G=>?_⟩;unfold iC at G;show aIe (f.length+1) Q f u r false 0;unfold aIe;refine mH f (aBk u r) (Q true) (Q false) (fun n i=>aGw (f.length+1) _ _ n f u r false i) (fun n i hi hx I=>?_) (fun n hy=>?_) (f.length+1) XY (fun q=>by rw[q] at G;exact G) (fun q=>by rw[q] at G;exact G)
 ·show cond (decide ((i:Int)<(f.length:Int))) _ _;rw[bN XY,QX,QV,cO hi XY];refine⟨⟨XY,XY⟩,?_⟩;show cond (aBk u r (f.getD i default)) _ _;cases hb:aBk u r (f.getD i default) with
  |true=>exact hx hb
  |false=>exact I hb
 ·show cond (decide ((f.length:Int)<(f.length:Int))) _ _;rw[bV XY,QJ];exact hy
def aH2 (s:Int×Int×Int×Int) (t:aCx):Prop:=(s=(0,0,0,0)/\t.1=false)\/(t.1=true/\s.1=t.2.1/\s.2.1=t.2.2.1/\s.2.2.1=t.2.2.2.1-t.2.1/\s.2.2.2=t.2.2.2.2-t.2.2.1/\ -1048576<=t.2.1/\t.2.1<t.2.2.2.1/\t.2.2.2.1<=1048576/\ -1048576<=t.2.2.1/\t.2.2.1<t.2.2.2.2/\t.2.2.2.2<=1048576)
theorem bFh {s:Int×Int×Int×Int} {t:aCx} (h:aH2 s t) (r:aA):aH2 (xY s r) (o5 t r):=by
 unfold xY o5;rw[pI];cases J:jE r.X r.Y r.W r.H with
 |false=>exact h
 |true=>
  have p:=o7 J;rw[KC,QJ,QJ,dW (n:=r.X+r.W) XY XY,dW (n:=r.Y+r.H) XY XY];rcases h with ⟨rfl,h⟩|⟨h,e1,G,u,f,b1,Z,V,S,O,L⟩
  ·rw[h];right;show true=true/\r.X=mi r.X r.X/\r.Y=mi r.Y r.Y/\r.W=ma (r.X+r.W) (r.X+r.W)-mi r.X r.X/\r.H=ma (r.Y+r.H) (r.Y+r.H)-mi r.Y r.Y/\ -1048576<=mi r.X r.X/\mi r.X r.X<ma (r.X+r.W) (r.X+r.W)/\ma (r.X+r.W) (r.X+r.W)<=1048576/\ -1048576<=mi r.Y r.Y/\mi r.Y r.Y<ma (r.Y+r.H) (r.Y+r.H)/\ma (r.Y+r.H) (r.Y+r.H)<=1048576;refine⟨rfl,?_⟩;simp only[maE,miE];omega
  ·obtain⟨t1,a,b,c,d⟩:=t;obtain⟨x,y,w,hh⟩:=s;simp only at h e1 G u f b1 Z V S O L;subst h e1 G u f;have I:((c-x)==0)=false:=by
    rw[JT];omega
   dsimp only;rw[I,QJ,KC,QJ];right;show true=true/\mi x r.X=mi x r.X/\mi y r.Y=mi y r.Y/\aB (ma (aB (x+(c-x))) (r.X+r.W)-mi x r.X)=ma c (r.X+r.W)-mi x r.X/\aB (ma (aB (y+(d-y))) (r.Y+r.H)-mi y r.Y)=ma d (r.Y+r.H)-mi y r.Y/\ -1048576<=mi x r.X/\mi x r.X<ma c (r.X+r.W)/\ma c (r.X+r.W)<=1048576/\ -1048576<=mi y r.Y/\mi y r.Y<ma d (r.Y+r.H)/\ma d (r.Y+r.H)<=1048576;refine⟨rfl,rfl,rfl,?_⟩;simp only[maE,miE];rw[show x+(c-x)=c by omega,show y+(d-y)=d by omega,dW (n:=c) XY XY,dW (n:=d) XY XY,dW (n:=max c (r.X+r.W)-min x r.X) XY XY,dW (n:=max d (r.Y+r.H)-min y r.Y) XY XY];omega
theorem bFi:∀(l:List aA) {s:Int×Int×Int×Int} {t:aCx},aH2 s t->aH2 (l.foldl xY s) (l.foldl o5 t):=by
 intro l
 induction l with
 |nil=>intro s t h;exact h
 |cons r l f=>intro s t h;exact f (bFh h r)
theorem bFj (l:List aA):aH1 l=aBy l:=by
 have h:=bFi l (s:=(0,0,0,0)) (t:=(false,0,0,0,0)) (.inl ⟨rfl,rfl⟩);unfold aBy aH1;generalize l.foldl xY (0,0,0,0)=s at h ⊢;generalize l.foldl o5 (false,0,0,0,0)=t at h ⊢;unfold aML;rcases h with ⟨rfl,h⟩|⟨h,e1,u,r,f,S,O,L,J,I,G⟩
 ·rw[h];rfl
 ·rw[h,dW XY XY,dW XY XY,r,f];rfl
def x7 (u:List aA) (f r:Int):Prop:=(cond ((((decide (f<=(-1048576)))||(decide (1048576<=f)))||(decide (r<=(-1048576))))||(decide (1048576<=r))) (True) ((sR u f r)/\((iC u f r)=true->sR u (aB (f-1)) r)/\(((iC u f r)&&(iC u (aB (f-1)) r))=true->sR u f (aB (r-1)))/\((((iC u f r)&&(iC u (aB (f-1)) r))&&(iC u f (aB (r-1))))=true->sR u (aB (f-1)) (aB (r-1)))))
def oH (u:List aA) (f r:Int):Bool:=cond ((((decide (f<=(-1048576)))||(decide (1048576<=f)))||(decide (r<=(-1048576))))||(decide (1048576<=r))) (false) (((((iC u f r)&&(iC u (aB (f-1)) r))&&(iC u f (aB (r-1))))&&(iC u (aB (f-1)) (aB (r-1)))))
def xV (I J G u r f:Int):Int:=ma (ma (ma (ma 0 (aB (G-I))) (aB (I-r))) (aB (u-J))) (aB (J-f))
def zP:Nat->Nat->Nat->Canon UU:=fun o b r=>cond (Nat.beq b 0) ⟨[1,3,5,7,9,10,11],[5,7,9],[],[],[]⟩ (cond (Nat.beq b 2) ⟨[1,3,7,9,10,12],[7,9],[],[],[]⟩ (⟨[],[],[],[],[]⟩))
def bAX (y0 Z:ByteArray) (V S I G:Int) (u O:List aA) (L:List Pce) (a1:List Edg) (J:List Bool) (qo:zzB) (qt:List Bool) (qm:zzI) (qq:List Bool) (a3 f r:Int) (Q:Bool->Prop) (i0:List Edg->Int->Bool->Int->ByteArray->ByteArray->Int->Int->Int->Int->List aA->List aA->List Pce->List Bool->zzB->List Bool->zzI->List Bool->Int->Int->Prop):Prop:=((((((decide (f<0))||(decide (r<0)))||(decide (I<f)))||(decide (G<r)))=false->x7 u f r)/\cond (((((decide (f<0))||(decide (r<0)))||(decide (I<f)))||(decide (G<r)))||(oH u f r)) (Q false) (i0 a1 a3 false 0 y0 Z V S I G u O L J qo qt qm qq f r))
def bAW (rec:List Edg->Int->Bool->Int->ByteArray->ByteArray->Int->Int->Int->Int->List aA->List aA->List Pce->List Bool->zzB->List Bool->zzI->List Bool->Int->Int->Prop) (x0:List Edg->Int->Bool->Int->ByteArray->ByteArray->Int->Int->Int->Int->List aA->List aA->List Pce->List Bool->zzB->List Bool->zzI->List Bool->Int->Int->Prop) (x1:List Edg->Int->Bool->Int->ByteArray->ByteArray->Int->Int->Int->Int->List aA->List aA->List Pce->List Bool->zzB->List Bool->zzI->List Bool->Int->Int->Prop) (t1:List Edg) (J:Int) (I:Bool) (f:Int) (cU cX:ByteArray) (dB V Z L:Int) (O S:List aA) (r:List Pce) (aX:List Bool) (bE:zzB) (bG:List Bool) (bH:zzI) (bW:List Bool) (G u:Int):Prop:=cond (decide (f<(r.length:Int))) ((let e0:=(r.getD f.toNat default);((0<=f/\f<r.length)/\((x7 e0.Rects G u)/\cond (oH e0.Rects G u) (x0 t1 J false f cU cX dB V Z L O S r aX bE bG bH bW G u) (rec t1 J I (aB (f+1)) cU cX dB V Z L O S r aX bE bG bH bW G u))))) (x1 t1 J I f cU cX dB V Z L O S r aX bE bG bH bW G u)
def bAZ (Q:Bool->Prop) (t1:List Edg) (u:Int) (f:Bool) (r:Int) (cU Z:ByteArray) (V O S G:Int) (I J:List aA) (L:List Pce) (aX:List Bool) (bE:zzB) (bG:List Bool) (bH:zzI) (bW:List Bool) (aP aT:Int):Prop:=Q f
def bAY (Q:Bool->Prop) (t1:List Edg) (r:Int) (f:Bool) (Z:Int) (cU cX:ByteArray) (dB dG dF kT:Int) (kS kR:List aA) (jU:List Pce) (O:List Bool) (L:zzB) (J:List Bool) (I:zzI) (G:List Bool) (V S:Int) (u:List Edg->Int->Bool->Int->List Bool->zzB->List Bool->zzI->List Bool->Int->Int->Prop):Prop:=u t1 r f 0 O L J I G V S
def bAV (G:List Edg->Int->Bool->Int->List Bool->zzB->List Bool->zzI->List Bool->Int->Int->Prop) (x0:List Edg->Int->Bool->Int->List Bool->zzB->List Bool->zzI->List Bool->Int->Int->Prop) (x1:List Edg->Int->Bool->Int->List Bool->zzB->List Bool->zzI->List Bool->Int->Int->Prop) (t1:List Edg) (I:Int) (r:Bool) (f:Int) (u:List Bool) (Z:zzB) (V:List Bool) (S:zzI) (O:List Bool) (L J:Int):Prop:=cond (decide (f<(t1.length:Int))) ((let e0:=(t1.getD f.toNat default);((0<=f/\f<t1.length)/\cond (e0.A==I) ((let e1:=(u.getD f.toNat default);((0<=f/\f<u.length)/\cond (!e1) ((let e2:=(t1.getD f.toNat default);((0<=f/\f<t1.length)/\(let r3:=(xV L J e2.qaq e2.qau e2.qar e2.qav);cond (decide (r3<=7200)) (x0 t1 I true f u Z V S O L J) (G t1 I r (aB (f+1)) u Z V S O L J))))) (G t1 I r (aB (f+1)) u Z V S O L J)))) ((let e4:=(t1.getD f.toNat default);((0<=f/\f<t1.length)/\cond (e4.B==I) ((let e5:=(u.getD f.toNat default);((0<=f/\f<u.length)/\cond (!e5) ((let e6:=(t1.getD f.toNat default);((0<=f/\f<t1.length)/\(let r7:=(xV L J e6.qaq e6.qau e6.qar e6.qav);cond (decide (r7<=7200)) (x0 t1 I true f u Z V S O L J) (G t1 I r (aB (f+1)) u Z V S O L J))))) (G t1 I r (aB (f+1)) u Z V S O L J)))) (G t1 I r (aB (f+1)) u Z V S O L J))))))) (x1 t1 I r f u Z V S O L J)
def bQW (Q:Bool->Prop) (t1:List Edg) (u:Int) (f:Bool) (r:Int) (O:List Bool) (L:zzB) (J:List Bool) (I:zzI) (G:List Bool) (V S:Int):Prop:=Q f
def bQV (Q:Bool->Prop) (t1:List Edg) (u:Int) (r:Bool) (f:Int) (O:List Bool) (L:zzB) (J:List Bool) (I:zzI) (G:List Bool) (V S:Int):Prop:=Q false
def aGp (F:Nat) (G:List Edg->Int->Bool->Int->List Bool->zzB->List Bool->zzI->List Bool->Int->Int->Prop) (u:List Edg->Int->Bool->Int->List Bool->zzB->List Bool->zzI->List Bool->Int->Int->Prop):Nat->List Edg->Int->Bool->Int->List Bool->zzB->List Bool->zzI->List Bool->Int->Int->Prop
 |0,_,_,_,_,_,_,_,_,_,_,_=>False
 |n+1,J,I,r,f,Z,V,S,O,L,aP,aT=>bAV (aGp F G u n) G u J I r f Z V S O L aP aT
def aI9 (F:Nat) (Q:Bool->Prop) (t1:List Edg) (u:Int) (r:Bool) (f:Int) (O:List Bool) (L:zzB) (J:List Bool) (I:zzI) (G:List Bool) (V S:Int):Prop:=aGp F (fun t1 u r f O L J I G V S=>bQW Q t1 u r f O L J I G V S) (fun t1 u r f O L J I G V S=>bQV Q t1 u r f O L J I G V S) F t1 u r f O L J I G V S
def aDX (F:Nat) (G:List Edg->Int->Bool->Int->ByteArray->ByteArray->Int->Int->Int->Int->List aA->List aA->List Pce->List Bool->zzB->List Bool->zzI->List Bool->Int->Int->Prop) (u:List Edg->Int->Bool->Int->ByteArray->ByteArray->Int->Int->Int->Int->List aA->List aA->List Pce->List Bool->zzB->List Bool->zzI->List Bool->Int->Int->Prop):Nat->List Edg->Int->Bool->Int->ByteArray->ByteArray->Int->Int->Int->Int->List aA->List aA->List Pce->List Bool->zzB->List Bool->zzI->List Bool->Int->Int->Prop
 |0,_,_,_,_,_,_,_,_,_,_,_,_,_,_,_,_,_,_,_,_=>False
 |n+1,J,I,r,f,cU,cX,dB,Z,dF,L,O,S,V,aX,bE,bG,bH,bW,aP,aT=>bAW (aDX F G u n) G u J I r f cU cX dB Z dF L O S V aX bE bG bH bW aP aT
def aN4 (F:Nat) (Q:Bool->Prop) (t1:List Edg) (u:Int) (r:Bool) (f:Int) (cU Z:ByteArray) (V O S G:Int) (I J:List aA) (L:List Pce) (aX:List Bool) (bE:zzB) (bG:List Bool) (bH:zzI) (bW:List Bool) (aP aT:Int):Prop:=aDX F (fun t1 u r f cU Z V O S G I J L aX bE bG bH bW aP aT=>bAZ Q t1 u r f cU Z V O S G I J L aX bE bG bH bW aP aT) (fun t1 u r f cU Z V O S G I J L aX bE bG bH bW aP aT=>bAY Q t1 u r f cU Z V O S G I J L aX bE bG bH bW aP aT (aI9 F Q)) F t1 u r f cU Z V O S G I J L aX bE bG bH bW aP aT
def aQe (F:Nat) (V S:ByteArray) (O L J I:Int) (G u:List aA) (r:List Pce) (a1:List Edg) (f:List Bool) (qo:zzB) (Z:List Bool) (qm:zzI) (qq:List Bool) (a3 fG fF:Int) (Q:Bool->Prop):Prop:=bAX V S O L J I G u r a1 f qo Z qm qq a3 fG fF Q (aN4 F Q)
theorem aRd (l:List aA) (x y:Int) (h:l.length<=2000000):x7 l x y:=by
 unfold x7;cases (((decide (x<=(-1048576)))||(decide (1048576<=x)))||(decide (y<=(-1048576))))||(decide (1048576<=y)) with
 |true=>trivial
 |false=>exact⟨h,fun _=>h,fun _=>h,fun _=>h⟩
def aEQ (w h:Int) (cl:List aA) (ps:List Pce) (es:List Edg) (f:List Bool) (p x y:Int):Bool:=
 cond (((((decide (x<0))||(decide (y<0)))||(decide (w<x)))||(decide (h<y)))||(oH cl x y)) false (cond (ps.any fun q=>oH q.Rects x y) false ((List.range es.length).any (uM f es p x y)))
def w8 (Z V:ByteArray) (S O L J:Int) (G I:List aA) (r:List Pce) (u:List Edg) (f:List Bool) (qo:zzB) (qt:List Bool) (qm:zzI) (qq:List Bool) (a3 fG fF:Int):Prop:=
 G.length<=2000000/\r.length<=2000000/\(∀p∈r,p.Rects.length<=2000000)/\u.length<=2000000/\f.length=u.length
def xR (y0 y1:ByteArray) (y2 Z I G:Int) (u V:List aA) (r:List Pce) (S:List Edg) (f:List Bool) (qo:zzB) (qt:List Bool) (qm:zzI) (qq:List Bool) (O J L:Int):Bool:=aEQ I G u r S f O J L
theorem bLT (y0 y1:ByteArray) (y2 y3 y4 y5:Int) (y6 y7:List aA) (L:List Pce) (f:List Edg) (r:List Bool) (Z:zzB) (S:List Bool) (qm:zzI) (V:List Bool) (J u G:Int) (h:w8 y0 y1 y2 y3 y4 y5 y6 y7 L f r Z S qm V J u G):
  ∃F,∀Q:Bool->Prop,Q (xR y0 y1 y2 y3 y4 y5 y6 y7 L f r Z S qm V J u G)->aQe F y0 y1 y2 y3 y4 y5 y6 y7 L f r Z S qm V J u G Q:=by
 obtain⟨h1,h2,h3,h4,h5⟩:=h;obtain⟨F,hF⟩:∃F:Nat,4000000<F:=⟨4000001,XY⟩;refine⟨F,fun Q O=>?_⟩;unfold xR aEQ at O;refine⟨fun _=>aRd _ _ _ h1,?_⟩;cases hb:((((decide (u<0))||(decide (G<0)))||(decide (y4<u)))||(decide (y5<G)))||(oH y6 u G) with
 |true=>
  rw[hb] at O;exact O
 |false=>
 rw[hb,QJ] at O;rw[QJ];unfold aN4;refine mH L (fun q=>oH q.Rects u G) (Q false) (Q ((List.range f.length).any (uM r f J u G))) (fun n i=>aDX F _ _ n f J false i y0 y1 y2 y3 y4 y5 y6 y7 L r Z S qm V u G) (fun n i hi hx I=>?_) (fun n hy=>?_) F XY (fun q=>by rw[q] at O;exact O) (fun q=>by rw[q] at O;exact O)
 ·show cond (decide ((i:Int)<(L.length:Int))) _ _;rw[bN XY,QX,QV,cO hi XY];refine⟨⟨XY,XY⟩,aRd _ _ _ (h3 _ (fJ hi)),?_⟩;cases hb:oH (L.getD i default).Rects u G with
  |true=>exact hx hb
  |false=>exact I hb
 ·show cond (decide ((L.length:Int)<(L.length:Int))) _ _;rw[bV XY,QJ];show aI9 F Q f J false 0 r Z S qm V u G;unfold aI9;refine kP f.length (uM r f J u G) (Q true) (Q false) (fun n i=>aGp F _ _ n f J false i r Z S qm V u G) (fun n i hi hx I=>?_) (fun n hy2=>?_) F XY (fun q=>by rw[q] at hy;exact hy) (fun q=>by rw[q] at hy;exact hy)
  ·show cond (decide ((i:Int)<(f.length:Int))) _ _;have cQ:0<=(i:Int)/\(i:Int)<f.length:=⟨XY,XY⟩;have dE:0<=(i:Int)/\(i:Int)<r.length:=⟨XY,XY⟩;rw[bN XY,QX,QV,cO hi XY];refine⟨cQ,?_⟩;have e:uM r f J u G i=((((f.getD i default).A==J)||((f.getD i default).B==J))&&!(r.getD i default)&&decide ((xV u G (f.getD i default).qaq (f.getD i default).qau (f.getD i default).qar (f.getD i default).qav)<=7200)):=rfl;rw[e] at hx I;cases c1:(f.getD i default).A==J with
   |true=>
    refine⟨dE,?_⟩;rw[c1] at hx I;cases c2:!(r.getD i default) with
    |false=>
     rw[c2] at I;exact I rfl
    |true=>
     rw[c2] at hx I;refine⟨cQ,?_⟩;show cond (decide ((xV u G (f.getD i default).qaq (f.getD i default).qau (f.getD i default).qar (f.getD i default).qav)<=7200)) _ _;cases c3:decide ((xV u G (f.getD i default).qaq (f.getD i default).qau (f.getD i default).qar (f.getD i default).qav)<=7200) with
     |true=>
      rw[c3] at hx;exact hx rfl
     |false=>
      rw[c3] at I;exact I rfl
   |false=>
    refine⟨cQ,?_⟩;rw[c1] at hx I;cases c4:(f.getD i default).B==J with
    |false=>
     rw[c4] at I;exact I rfl
    |true=>
     rw[c4] at hx I;refine⟨dE,?_⟩;cases c2:!(r.getD i default) with
     |false=>
      rw[c2] at I;exact I rfl
     |true=>
      rw[c2] at hx I;refine⟨cQ,?_⟩;show cond (decide ((xV u G (f.getD i default).qaq (f.getD i default).qau (f.getD i default).qar (f.getD i default).qav)<=7200)) _ _;cases c3:decide ((xV u G (f.getD i default).qaq (f.getD i default).qau (f.getD i default).qar (f.getD i default).qav)<=7200) with
      |true=>
       rw[c3] at hx;exact hx rfl
      |false=>
       rw[c3] at I;exact I rfl
  ·show cond (decide ((f.length:Int)<(f.length:Int))) _ _;rw[bV XY,QJ];exact hy2
def aCP (y0 y1:ByteArray) (y2 y3 y4 y5:Int) (y6 Z:List aA) (r:List Pce) (V:List Edg) (I:List Bool) (G:zzB) (J:List Bool) (S:zzI) (u:List Bool) (f L O qu qv:Int):Prop:=(aHk y0 y1 y2 y3 y4 y5 y6 Z r I G J S u (V.length:Int))/\(cond (!(sH y0 y1 y2 y3 y4 y5 y6 Z r I G J S u (V.length:Int))) (True) ((cond (decide (f<0)) (True) ((cond (decide ((r.length:Int)<=f)) (True) ((cond (decide (L<(-1))) (True) ((0<=f/\f<r.length)/\(cond (decide ((((r.getD f.toNat default).Cuts).length:Int)<=L)) (True) ((cond (decide (O<0)) (True) ((cond (decide (4<O)) (True) ((cond (decide (0<=L)) ((cond (O !=0) (True) ((0<=f/\f<r.length)/\(cond (decide (0<=L)) ((0<=f/\f<u.length)/\(cond (u.getD f.toNat default) (True) ((0<=f/\f<G.length)/\(0<=L/\L<(G.getD f.toNat default).length)/\(cond ((G.getD f.toNat default).getD L.toNat default) (True) ((0<=L/\L<((r.getD f.toNat default).Cuts).length)))))) ((0<=f/\f<u.length)/\((u.getD f.toNat default)=false->0<=f/\f<J.length)/\(((u.getD f.toNat default)||(J.getD f.toNat default))=false->((0<=f/\f<G.length)/\uH (G.getD f.toNat default)))/\((((u.getD f.toNat default)||(J.getD f.toNat default))||(!(iJ (G.getD f.toNat default))))=false->yB V I G J S u f)/\(cond ((((u.getD f.toNat default)||(J.getD f.toNat default))||(!(iJ (G.getD f.toNat default))))||(oE V I G J S u f)) (True) (((O==0)=true->w9 ((r.getD f.toNat default).Name) ((r.getD f.toNat default).Material) ((r.getD f.toNat default).Gauge) ((r.getD f.toNat default).Grain) ((r.getD f.toNat default).Rects) ((r.getD f.toNat default).Cuts) ((r.getD f.toNat default).Forms))/\(cond ((O==0)&&(rB ((r.getD f.toNat default).Name) ((r.getD f.toNat default).Material) ((r.getD f.toNat default).Gauge) ((r.getD f.toNat default).Grain) ((r.getD f.toNat default).Rects) ((r.getD f.toNat default).Cuts) ((r.getD f.toNat default).Forms))) (True) ((w8 y0 y1 y2 y3 y4 y5 y6 Z r V I G J S u f qu qv)))))))))) ((0<=f/\f<r.length)/\(cond (decide (0<=L)) ((0<=f/\f<u.length)/\(cond (u.getD f.toNat default) (True) ((0<=f/\f<G.length)/\(0<=L/\L<(G.getD f.toNat default).length)/\(cond ((G.getD f.toNat default).getD L.toNat default) (True) ((0<=L/\L<((r.getD f.toNat default).Cuts).length)))))) ((0<=f/\f<u.length)/\((u.getD f.toNat default)=false->0<=f/\f<J.length)/\(((u.getD f.toNat default)||(J.getD f.toNat default))=false->((0<=f/\f<G.length)/\uH (G.getD f.toNat default)))/\((((u.getD f.toNat default)||(J.getD f.toNat default))||(!(iJ (G.getD f.toNat default))))=false->yB V I G J S u f)/\(cond ((((u.getD f.toNat default)||(J.getD f.toNat default))||(!(iJ (G.getD f.toNat default))))||(oE V I G J S u f)) (True) (((O==0)=true->w9 ((r.getD f.toNat default).Name) ((r.getD f.toNat default).Material) ((r.getD f.toNat default).Gauge) ((r.getD f.toNat default).Grain) ((r.getD f.toNat default).Rects) ((r.getD f.toNat default).Cuts) ((r.getD f.toNat default).Forms))/\(cond ((O==0)&&(rB ((r.getD f.toNat default).Name) ((r.getD f.toNat default).Material) ((r.getD f.toNat default).Gauge) ((r.getD f.toNat default).Grain) ((r.getD f.toNat default).Rects) ((r.getD f.toNat default).Cuts) ((r.getD f.toNat default).Forms))) (True) ((w8 y0 y1 y2 y3 y4 y5 y6 Z r V I G J S u f qu qv)))))))))))))))))))))))
def lI (y0 y1:ByteArray) (y2 y3 y4 y5:Int) (y6 y7:List aA) (r:List Pce) (a1:List Edg) (I:List Bool) (L:zzB) (O:List Bool) (Z:zzI) (J:List Bool) (f u G V S:Int):Int:=cond (!(sH y0 y1 y2 y3 y4 y5 y6 y7 r I L O Z J (a1.length:Int))) (1) (cond (decide (f<0)) (1) (cond (decide ((r.length:Int)<=f)) (1) (cond (decide (u<(-1))) (1) (cond (decide ((((r.getD f.toNat default).Cuts).length:Int)<=u)) (1) (cond (decide (G<0)) (1) (cond (decide (4<G)) (1) (cond (decide (0<=u)) (cond (G !=0) (1) (cond (decide (0<=u)) (cond (J.getD f.toNat default) (12) (cond ((L.getD f.toNat default).getD u.toNat default) (12) (cond ((((decide (V<=((((r.getD f.toNat default).Cuts).getD u.toNat default).X)))||(decide ((aB (((((r.getD f.toNat default).Cuts).getD u.toNat default).X)+((((r.getD f.toNat default).Cuts).getD u.toNat default).W)))<=V)))||(decide (S<=((((r.getD f.toNat default).Cuts).getD u.toNat default).Y))))||(decide ((aB (((((r.getD f.toNat default).Cuts).getD u.toNat default).Y)+((((r.getD f.toNat default).Cuts).getD u.toNat default).H)))<=S))) (14) (0)))) (cond ((((J.getD f.toNat default)||(O.getD f.toNat default))||(!(iJ (L.getD f.toNat default))))||(oE a1 I L O Z J f)) (12) (cond ((G==0)&&(rB ((r.getD f.toNat default).Name) ((r.getD f.toNat default).Material) ((r.getD f.toNat default).Gauge) ((r.getD f.toNat default).Grain) ((r.getD f.toNat default).Rects) ((r.getD f.toNat default).Cuts) ((r.getD f.toNat default).Forms))) (15) (cond (!(xR y0 y1 y2 y3 y4 y5 y6 y7 r a1 I L O Z J f V S)) (14) (0)))))) (cond (decide (0<=u)) (cond (J.getD f.toNat default) (12) (cond ((L.getD f.toNat default).getD u.toNat default) (12) (cond ((((decide (V<=((((r.getD f.toNat default).Cuts).getD u.toNat default).X)))||(decide ((aB (((((r.getD f.toNat default).Cuts).getD u.toNat default).X)+((((r.getD f.toNat default).Cuts).getD u.toNat default).W)))<=V)))||(decide (S<=((((r.getD f.toNat default).Cuts).getD u.toNat default).Y))))||(decide ((aB (((((r.getD f.toNat default).Cuts).getD u.toNat default).Y)+((((r.getD f.toNat default).Cuts).getD u.toNat default).H)))<=S))) (14) (0)))) (cond ((((J.getD f.toNat default)||(O.getD f.toNat default))||(!(iJ (L.getD f.toNat default))))||(oE a1 I L O Z J f)) (12) (cond ((G==0)&&(rB ((r.getD f.toNat default).Name) ((r.getD f.toNat default).Material) ((r.getD f.toNat default).Gauge) ((r.getD f.toNat default).Grain) ((r.getD f.toNat default).Rects) ((r.getD f.toNat default).Cuts) ((r.getD f.toNat default).Forms))) (15) (cond (!(xR y0 y1 y2 y3 y4 y5 y6 y7 r a1 I L O Z J f V S)) (14) (0))))))))))))
def pG:Nat->Nat->Nat->Canon UU:=fun o b r=>cond (Nat.beq o 12000&&Nat.beq b 0) ⟨[1,2,3,4,1000000,1000005,1000006],[5,6,12001,12002,12003],[(.cell 12003 0,12042,.bool),(.cell 12003 2,12043,.bool),(.cell 12003 3,12044,.int),(.cell 12003 4,12045,.bool),(.cell 12003 1,12046,.bools)],[],[12046]⟩ (cond (Nat.beq o 0&&Nat.beq b 2) ⟨[0,6,7,9],[6,7],[(.cell 7 0,96,.bool),(.cell 7 1,97,.bools),(.cell 7 2,98,.bool),(.cell 7 3,99,.int),(.cell 7 4,100,.bool)],[],[97]⟩ (cond (Nat.beq o 0&&Nat.beq b 0) ⟨[0,5,6,7,8],[5,6,7],[(.cell 7 0,96,.bool),(.cell 7 1,97,.bools),(.cell 7 2,98,.bool),(.cell 7 3,99,.int),(.cell 7 4,100,.bool)],[],[97]⟩ (⟨[],[],[],[],[]⟩)))
def aZw (a0:List Edg) (G:List Bool) (O:zzB) (u:List Bool) (r:zzI) (f:List Bool) (S L V J I:Int) (Q:List Bool->zzB->List Bool->zzI->List Bool->Prop) (Z:Int->List Edg->Int->Int->Int->Int->Int->List Bool->zzB->List Bool->zzI->List Bool->List Bool->List Bool->zzI->List Bool->zzB->Prop):Prop:=(((([]:List Bool).length+G.length)*1<=140737488355328)/\(((([]:List Bool).length+u.length)*1<=140737488355328)/\(((([]:zzI).length+r.length)*8<=140737488355328)/\(((([]:List Bool).length+f.length)*1<=140737488355328)/\Z 0 a0 S L V J I G O u r f (([]:List Bool)++G) (([]:List Bool)++u) (([]:zzI)++r) (([]:List Bool)++f) ([])))))
def aZv (rec:Int->List Edg->Int->Int->Int->Int->Int->List Bool->zzB->List Bool->zzI->List Bool->List Bool->List Bool->zzI->List Bool->zzB->Prop) (x0:Int->List Edg->Int->Int->Int->Int->Int->List Bool->zzB->List Bool->zzI->List Bool->List Bool->List Bool->zzI->List Bool->zzB->Prop) (u:Int) (G:List Edg) (cU cX dB dG dF:Int) (qbh:List Bool) (f:zzB) (Z:List Bool) (V:zzI) (S O L:List Bool) (J:zzI) (I:List Bool) (r:zzB):Prop:=cond (decide (u<(f.length:Int))) ((let e0:=(f.getD u.toNat default);((0<=u/\u<f.length)/\(((([]:List Bool).length+e0.length)*1<=140737488355328)/\(((r.length+1)*24<=140737488355328)/\rec (aB (u+1)) G cU cX dB dG dF qbh f Z V S O L J I (r++[(([]:List Bool)++e0)])))))) (x0 u G cU cX dB dG dF qbh f Z V S O L J I r)
def aZy (Q:List Bool->zzB->List Bool->zzI->List Bool->Prop) (t4:Int) (J:List Edg) (f I S dG dF:Int) (qbh:List Bool) (qbi:zzB) (qbj:List Bool) (qbk:zzI) (qbl O G:List Bool) (u:zzI) (L:List Bool) (r:zzB) (Z:List Edg->Int->List Bool->zzB->List Bool->zzI->List Bool->Prop) (V:List Edg->Int->Int->Int->Int->Int->Int->List Bool->zzB->List Bool->zzI->List Bool->Prop):Prop:=cond (decide (0<=I)) (((0<=f/\f<r.length)/\((0<=I/\I<(r.getD f.toNat default).length)/\Z J 0 O (r.set f.toNat ((r.getD f.toNat default).set I.toNat true)) G u L))) (((0<=f/\f<G.length)/\((0<=f/\f<u.length)/\V J 0 f I S dG dF O r (G.set f.toNat true) (u.set f.toNat S) L)))
def aZu (O:List Edg->Int->List Bool->zzB->List Bool->zzI->List Bool->Prop) (S:List Edg->Int->List Bool->zzB->List Bool->zzI->List Bool->Prop) (I:List Edg) (f:Int) (L:List Bool) (J:zzB) (r:List Bool) (G:zzI) (u:List Bool):Prop:=cond (decide (f<(u.length:Int))) (((yB I L J r G u f)/\(((oE I L J r G u f)=true->((0<=f/\f<r.length)/\((r.getD f.toNat default)=true->0<=f/\f<G.length)))/\cond ((oE I L J r G u f)&&(!((r.getD f.toNat default)&&(decide (0<(G.getD f.toNat default)))))) (((0<=f/\f<u.length)/\O I (aB (f+1)) L J r G (u.set f.toNat true))) (O I (aB (f+1)) L J r G u)))) (S I f L J r G u)
def bQK (Q:List Bool->zzB->List Bool->zzI->List Bool->Prop) (L:List Edg) (J:Int) (u:List Bool) (f:zzB) (I:List Bool) (G:zzI) (r:List Bool):Prop:=Q u f I G r
def aZt (u:List Edg->Int->Int->Int->Int->Int->Int->List Bool->zzB->List Bool->zzI->List Bool->Prop) (x0:List Edg->Int->Int->Int->Int->Int->Int->List Bool->zzB->List Bool->zzI->List Bool->Prop) (r:List Edg) (f I cX dB V Z:Int) (G:List Bool) (J:zzB) (S:List Bool) (O:zzI) (L:List Bool):Prop:=cond (decide (f<(r.length:Int))) ((let e0:=(r.getD f.toNat default);((0<=f/\f<r.length)/\cond (e0.A==I) (((0<=f/\f<G.length)/\u r (aB (f+1)) I cX dB V Z (G.set f.toNat true) J S O L)) ((let e1:=(r.getD f.toNat default);((0<=f/\f<r.length)/\cond (e1.B==I) (((0<=f/\f<G.length)/\u r (aB (f+1)) I cX dB V Z (G.set f.toNat true) J S O L)) (u r (aB (f+1)) I cX dB V Z G J S O L))))))) (x0 r f I cX dB V Z G J S O L)
def aZx (Q:List Bool->zzB->List Bool->zzI->List Bool->Prop) (f:List Edg) (O cU cX Z S V:Int) (I:List Bool) (u:zzB) (L:List Bool) (J:zzI) (G:List Bool) (r:List Edg->Int->List Bool->zzB->List Bool->zzI->List Bool->Prop):Prop:=r f 0 I u L J G
def aGg (F:Nat) (f:List Edg->Int->List Bool->zzB->List Bool->zzI->List Bool->Prop):Nat->List Edg->Int->List Bool->zzB->List Bool->zzI->List Bool->Prop
 |0,_,_,_,_,_,_,_=>False
 |n+1,u,r,J,G,O,L,I=>aZu (aGg F f n) f u r J G O L I
def aEM (F:Nat) (Q:List Bool->zzB->List Bool->zzI->List Bool->Prop) (r:List Edg) (f:Int) (I:List Bool) (u:zzB) (L:List Bool) (J:zzI) (G:List Bool):Prop:=aGg F (fun r f I u L J G=>bQK Q r f I u L J G) F r f I u L J G
def aDS (F:Nat) (f:List Edg->Int->Int->Int->Int->Int->Int->List Bool->zzB->List Bool->zzI->List Bool->Prop):Nat->List Edg->Int->Int->Int->Int->Int->Int->List Bool->zzB->List Bool->zzI->List Bool->Prop
 |0,_,_,_,_,_,_,_,_,_,_,_,_=>False
 |n+1,u,r,cU,cX,Z,S,V,J,G,O,L,I=>aZt (aDS F f n) f u r cU cX Z S V J G O L I
def aI1 (F:Nat) (Q:List Bool->zzB->List Bool->zzI->List Bool->Prop) (r:List Edg) (f cU Z V O S:Int) (I:List Bool) (u:zzB) (L:List Bool) (J:zzI) (G:List Bool):Prop:=aDS F (fun r f cU Z V O S I u L J G=>aZx Q r f cU Z V O S I u L J G (aEM F Q)) F r f cU Z V O S I u L J G
def aDT (F:Nat) (x0:Int->List Edg->Int->Int->Int->Int->Int->List Bool->zzB->List Bool->zzI->List Bool->List Bool->List Bool->zzI->List Bool->zzB->Prop):Nat->Int->List Edg->Int->Int->Int->Int->Int->List Bool->zzB->List Bool->zzI->List Bool->List Bool->List Bool->zzI->List Bool->zzB->Prop
 |0,_,_,_,_,_,_,_,_,_,_,_,_,_,_,_,_,_=>False
 |n+1,t4,f,cU,cX,dB,dG,dF,Z,V,S,O,L,J,I,G,u,r=>aZv (aDT F x0 n) x0 t4 f cU cX dB dG dF Z V S O L J I G u r
def aI2 (F:Nat) (Q:List Bool->zzB->List Bool->zzI->List Bool->Prop) (t4:Int) (f:List Edg) (cU cX dB dG dF:Int) (Z:List Bool) (V:zzB) (S:List Bool) (O:zzI) (L J I:List Bool) (G:zzI) (u:List Bool) (r:zzB):Prop:=aDT F (fun t4 f cU cX dB dG dF Z V S O L J I G u r=>aZy Q t4 f cU cX dB dG dF Z V S O L J I G u r (aEM F Q) (aI1 F Q)) F t4 f cU cX dB dG dF Z V S O L J I G u r
def aQ4 (F:Nat) (Z:List Edg) (S:List Bool) (L:zzB) (J:List Bool) (I:zzI) (G:List Bool) (O u V r f:Int) (Q:List Bool->zzB->List Bool->zzI->List Bool->Prop):Prop:=aZw Z S L J I G O u V r f Q (aI2 F Q)
end
end Go.Proofs.YtjjbojomlfgjlaaGreatDoor
namespace Go.Proofs.YtjjbojomlfgjlaaGreatDoor
open Go.Vm Go.RowKit
set_option linter.unusedVariables false
noncomputable section
def bBM (s:eS):aPw:=(s.1,s.2.1,s.2.2.1,s.2.2.2.1,s.2.2.2.2.1)
def aMn (es:List Edg) (J:List Bool) (u:zzB) (I:List Bool) (G:zzI) (f:List Bool) (p k j x y:Int):Prop:=
 es.length<=2000000/\J.length=es.length/\f.length<=2000000/\u.length=f.length/\(∀r∈u,r.length<=2000000)/\I.length=f.length/\G.length=f.length/\(0<=p/\p<f.length)/\(0<=k->k<(u.getD p.toNat default).length)
def qG (es:List Edg) (I:List Bool) (u:zzB) (G:List Bool) (r:zzI) (f:List Bool) (p k j x y:Int):aPw:=bBM (kD es f.length I u G r f p k j)
section
variable (F:Nat) (Q:List Bool->zzB->List Bool->zzI->List Bool->Prop) (hF:4000000<F) (es:List Edg) (he:es.length<=2000000)
include hF he
theorem dn1 (n:Nat) (hn:n<=2000000) (G:List Bool) (J:zzB) (u:List Bool) (r:zzI) (O:List Bool) (h1:G.length=es.length) (h2:u.length=n) (h3:r.length=n) (Z:O.length=n)
  (V:Q G J u r (yU es n G u r O)):aEM F Q es 0 G J u r O:=by
 unfold aEM;refine sN n (aAR es G u r) (fun _ f=>f.length=n) (fun f=>Q G J u r f) (fun m i f=>aGg F _ m es i G J u r f) (fun f i hi L=>?_) (fun m i f hi L I=>?_) (fun m f L S=>?_) F 0 O XY XY Z V
 ·unfold aAR;cases aAS es G u r i with
  |true=>rw[QX,JM];exact L
  |false=>exact L
 ·show cond (decide ((i:Int)<(f.length:Int))) _ _;rw[bN XY,QX,QV,cO hi XY];refine⟨⟨XY,h1⟩,fun _=>⟨⟨XY,XY⟩,fun _=>⟨XY,XY⟩⟩,?_⟩;show cond (aAS es G u r i) _ _;unfold aAR at I;cases hb:aAS es G u r i with
  |true=>
   rw[hb,QX] at I;exact⟨⟨XY,XY⟩,I⟩
  |false=>
   rw[hb,QJ] at I;exact I
 ·show cond (decide ((n:Int)<(f.length:Int))) _ _;rw[bV XY,QJ];exact S
theorem dn2 (n:Nat) (p k j x y:Int) (hn:n<=2000000) (L:List Bool) (I:zzB) (u:List Bool) (r:zzI) (G:List Bool) (h1:L.length=es.length) (h2:u.length=n) (h3:r.length=n) (h4:G.length=n)
  (hQ:Q (sV es p L) I u r (yU es n (sV es p L) u r G)):aI1 F Q es 0 p k j x y L I u r G:=by
 unfold aI1;refine sN es.length (oQ es p) (fun _ c=>c.length=es.length) (fun c=>Q c I u r (yU es n c u r G)) (fun m i c=>aDS F _ m es i p k j x y c I u r G) (fun c i hi J=>?_) (fun m i c hi J f=>?_) (fun m c J hq=>?_) F 0 L XY XY h1 hQ
 ·unfold oQ;cases ofB (es.getD i default) p with
  |true=>rw[QX,JM];exact J
  |false=>exact J
 ·show cond (decide ((i:Int)<(es.length:Int))) _ _;have S:0<=(i:Int)/\(i:Int)<es.length:=⟨XY,XY⟩;have O:0<=(i:Int)/\(i:Int)<c.length:=⟨XY,XY⟩;rw[bN XY,QX,QV,cO hi XY];refine⟨S,?_⟩;unfold oQ at f;have e:ofB (es.getD i default) p=(((es.getD i default).A==p)||((es.getD i default).B==p)):=rfl;rw[e] at f;cases Z:(es.getD i default).A==p with
  |true=>
   rw[Z] at f;exact⟨O,f⟩
  |false=>
   rw[Z] at f;refine⟨S,?_⟩;cases V:(es.getD i default).B==p with
   |true=>
    rw[V] at f;exact⟨O,f⟩
   |false=>
    rw[V] at f;exact f
 ·show cond (decide ((es.length:Int)<(es.length:Int))) _ _;rw[bV XY,QJ];exact dn1 F Q hF es he n hn c I u r G J h2 h3 h4 hq
end
theorem bLH (L:List Edg) (u:List Bool) (I:zzB) (J:List Bool) (G:zzI) (f:List Bool) (p k j x y:Int) (h:aMn L u I J G f p k j x y):∃F,∀Q:List Bool->zzB->List Bool->zzI->List Bool->Prop,Q ((qG L u I J G f p k j x y).1) ((qG L u I J G f p k j x y).2.1) ((qG L u I J G f p k j x y).2.2.1) ((qG L u I J G f p k j x y).2.2.2.1) ((qG L u I J G f p k j x y).2.2.2.2)->aQ4 F L u I J G f p k j x y Q:=by
 obtain⟨h1,h2,Z,h4,h5,h6,h7,h8,h9⟩:=h;obtain⟨F,hF⟩:∃F:Nat,4000000<F:=⟨4000001,XY⟩;refine⟨F,fun Q O=>?_⟩;refine⟨by simp only[JZ];omega,by simp only[JZ];omega,by simp only[JZ];omega,by simp only[JZ];omega,?_⟩;show aI2 F Q 0 L p k j x y u I J G f u J G f [];unfold aI2;refine aA1 I (fun r=>r) (fun m=>m=I) (fun n i m=>aDT F _ n i L p k j x y u I J G f u J G f m) (fun n i m hm hi hw=>?_) (fun n m hm=>?_) F 0 [] rfl XY XY XU
 ·show cond (decide ((i:Int)<(I.length:Int))) _ _;rw[bN XY,QX,QV,cO hi XY];have:=h5 _ (fJ hi);exact⟨⟨XY,XY⟩,by simp only[JZ];omega,XY,hw⟩
 ·subst hm;show cond (decide ((m.length:Int)<(m.length:Int))) _ _;rw[bV XY,QJ];unfold qG bBM kD at O;show cond (decide (0<=k)) _ _;cases V:decide (0<=k) with
  |true=>
   have S:=JC V;rw[V,QX] at O;rw[QX];exact⟨⟨h8.1,XY⟩,⟨S,h9 S⟩,dn1 F Q hF L h1 f.length Z u _ J G f h2 h6 h7 rfl O⟩
  |false=>
   rw[V,QJ] at O;rw[QJ];exact⟨⟨h8.1,XY⟩,⟨h8.1,XY⟩,dn2 F Q hF L h1 f.length p k j x y Z u m _ _ f h2 (by rw[JM];exact h6) (by rw[JM];exact h7) rfl O⟩
end
end Go.Proofs.YtjjbojomlfgjlaaGreatDoor
namespace Go.Proofs.YtjjbojomlfgjlaaGreatDoor
open Go.Vm Go.RowKit
set_option linter.unusedVariables false
noncomputable section
def aBW:Nat->Nat->Nat->Canon UU:=fun o b r=>cond (Nat.beq b 0) ⟨[1,2,4,5,6,7,8,9,10],[2,8],[(.tmp 9,46,.st)],[],[]⟩ (⟨[],[],[],[],[]⟩)
def bA7 (S O:ByteArray) (L J I G:Int) (u r:List aA) (f:List Pce) (a1:List Itm) (Q:List Sta->Int->Int->Prop) (Z:List Itm->Int->Int->List Edg->Int->ByteArray->ByteArray->Int->Int->Int->Int->List aA->List aA->List Pce->List Bool->zzB->List Bool->zzI->List Bool->List Sta->Prop):Prop:=((aCM S O L J I G u r f)/\(let V:=(jD S O L J I G u r f);((aDy S O L J I G u r f)/\Z a1 0 0 (k8 S O L J I G u r f) 0 S O L J I G u r f V.1 V.2.1 V.2.2.1 V.2.2.2.1 V.2.2.2.2 ([]))))
def bA6 (rec:List Itm->Int->Int->List Edg->Int->ByteArray->ByteArray->Int->Int->Int->Int->List aA->List aA->List Pce->List Bool->zzB->List Bool->zzI->List Bool->List Sta->Prop) (x0:List Itm->Int->Int->List Edg->Int->ByteArray->ByteArray->Int->Int->Int->Int->List aA->List aA->List Pce->List Bool->zzB->List Bool->zzI->List Bool->List Sta->Prop) (x1:List Itm->Int->Int->List Edg->Int->ByteArray->ByteArray->Int->Int->Int->Int->List aA->List aA->List Pce->List Bool->zzB->List Bool->zzI->List Bool->List Sta->Prop) (t1:List Itm) (t5 t6:Int) (G:List Edg) (f:Int) (aR aQ:ByteArray) (aV aU bB bA:Int) (Z bC:List aA) (V:List Pce) (J:List Bool) (L:zzB) (O:List Bool) (S:zzI) (I:List Bool) (lL:List Sta):Prop:=cond (decide (f<(t1.length:Int))) ((let e0:=(t1.getD f.toNat default);((0<=f/\f<t1.length)/\(let r1:=(lI aR aQ aV aU bB bA Z bC V G J L O S I e0.Piece e0.Hole e0.Joints e0.Lead_X e0.Lead_Y);((aCP aR aQ aV aU bB bA Z bC V G J L O S I e0.Piece e0.Hole e0.Joints e0.Lead_X e0.Lead_Y)/\cond (r1 !=0) (x0 t1 f r1 G f aR aQ aV aU bB bA Z bC V J L O S I lL) ((let u:=(t1.getD f.toNat default);((0<=f/\f<t1.length)/\(let r:=(qG G J L O S I u.Piece u.Hole u.Joints u.Lead_X u.Lead_Y);((aMn G J L O S I u.Piece u.Hole u.Joints u.Lead_X u.Lead_Y)/\(let v4:=[(Sta.mk r.1 r.2.1 r.2.2.1 r.2.2.2.1 r.2.2.2.2)];(((lL.length+v4.length)*120<=140737488355328)/\rec t1 t5 t6 G (aB (f+1)) aR aQ aV aU bB bA Z bC V r.1 r.2.1 r.2.2.1 r.2.2.2.1 r.2.2.2.2 (lL++v4))))))))))))) (x1 t1 t5 t6 G f aR aQ aV aU bB bA Z bC V J L O S I lL)
def bQZ (Q:List Sta->Int->Int->Prop) (t1:List Itm) (r f:Int) (G:List Edg) (u:Int) (aR aQ:ByteArray) (aV aU bB bA:Int) (bD bC:List aA) (Z:List Pce) (L:List Bool) (O:zzB) (S:List Bool) (V:zzI) (J:List Bool) (I:List Sta):Prop:=Q ([]) r f
def bQY (Q:List Sta->Int->Int->Prop) (t1:List Itm) (I G:Int) (u:List Edg) (r:Int) (aR aQ:ByteArray) (aV aU bB bA:Int) (bD bC:List aA) (Z:List Pce) (L:List Bool) (O:zzB) (S:List Bool) (V:zzI) (J:List Bool) (f:List Sta):Prop:=Q f 0 0
def aGt (F:Nat) (u:List Itm->Int->Int->List Edg->Int->ByteArray->ByteArray->Int->Int->Int->Int->List aA->List aA->List Pce->List Bool->zzB->List Bool->zzI->List Bool->List Sta->Prop) (r:List Itm->Int->Int->List Edg->Int->ByteArray->ByteArray->Int->Int->Int->Int->List aA->List aA->List Pce->List Bool->zzB->List Bool->zzI->List Bool->List Sta->Prop):Nat->List Itm->Int->Int->List Edg->Int->ByteArray->ByteArray->Int->Int->Int->Int->List aA->List aA->List Pce->List Bool->zzB->List Bool->zzI->List Bool->List Sta->Prop
 |0,_,_,_,_,_,_,_,_,_,_,_,_,_,_,_,_,_,_,_,_=>False
 |n+1,L,J,I,G,f,aR,aQ,aV,aU,bB,bA,bD,bC,bI,V,Z,iR,iQ,S,O=>bA6 (aGt F u r n) u r L J I G f aR aQ aV aU bB bA bD bC bI V Z iR iQ S O
def aId (F:Nat) (Q:List Sta->Int->Int->Prop) (t1:List Itm) (G u:Int) (r:List Edg) (f:Int) (aR aQ:ByteArray) (aV aU bB bA:Int) (bD bC:List aA) (Z:List Pce) (L:List Bool) (O:zzB) (S:List Bool) (V:zzI) (J:List Bool) (I:List Sta):Prop:=aGt F (fun t1 G u r f aR aQ aV aU bB bA bD bC Z L O S V J I=>bQZ Q t1 G u r f aR aQ aV aU bB bA bD bC Z L O S V J I) (fun t1 G u r f aR aQ aV aU bB bA bD bC Z L O S V J I=>bQY Q t1 G u r f aR aQ aV aU bB bA bD bC Z L O S V J I) F t1 G u r f aR aQ aV aU bB bA bD bC Z L O S V J I
def aQi (F:Nat) (S O:ByteArray) (L J I G:Int) (u r:List aA) (f:List Pce) (V:List Itm) (Q:List Sta->Int->Int->Prop):Prop:=bA7 S O L J I G u r f V Q (aId F Q)
def aHF (s:eS):Sta:=Sta.mk s.1 s.2.1 s.2.2.1 s.2.2.2.1 s.2.2.2.2.1
theorem bJm (y0 y1:ByteArray) (y2 y3 y4 y5:Int) (O Z:List aA) (f:List Pce) (es:List Edg) (J:List Bool) (r:zzB) (G:List Bool) (I:zzI) (u:List Bool) (p k j x y:Int)
  (h1:f.length<=2000000) (h2:∀q∈f,q.Rects.length<=2000000/\q.Cuts.length<=2000000) (h3:O.length<=2000000) (h4:es.length<=2000000):aCP y0 y1 y2 y3 y4 y5 O Z f es J r G I u p k j x y:=by
 unfold aCP;refine⟨h1,?_⟩;show cond (!(lX J r G I u f es.length)) _ _;cases c1:lX J r G I u f es.length with
 |false=>trivial
 |true=>
 rw[KC,QJ];obtain⟨f1,f2,f3,f4,f5,f6⟩:=aAQ c1;cases c2:decide (p<0) with
 |true=>trivial
 |false=>
 cases c3:decide ((f.length:Int)<=p) with
 |true=>trivial
 |false=>
 have g2:=JR c2;have g3:=JR c3;have hp:p.toNat<f.length:=XY;have S:=h2 _ (fJ hp);have hl:=f6 p.toNat hp;cases c4:decide (k<(-1)) with
 |true=>trivial
 |false=>
 have L:0<=p/\p<(f.length:Int):=⟨XY,XY⟩;refine⟨L,?_⟩;cases c5:decide ((((f.getD p.toNat default).Cuts).length:Int)<=k) with
 |true=>trivial
 |false=>
 have g5:=JR c5;cases c6:decide (j<0) with
 |true=>trivial
 |false=>
 cases c7:decide (4<j) with
 |true=>trivial
 |false=>
 have out:(0<=p/\p<(u.length:Int))/\((u.getD p.toNat default)=false->0<=p/\p<(G.length:Int))/\(((u.getD p.toNat default)||(G.getD p.toNat default))=false->((0<=p/\p<(r.length:Int))/\uH (r.getD p.toNat default)))/\((((u.getD p.toNat default)||(G.getD p.toNat default))||(!(iJ (r.getD p.toNat default))))=false->yB es J r G I u p)/\(cond ((((u.getD p.toNat default)||(G.getD p.toNat default))||(!(iJ (r.getD p.toNat default))))||(oE es J r G I u p)) (True) (((j==0)=true->w9 ((f.getD p.toNat default).Name) ((f.getD p.toNat default).Material) ((f.getD p.toNat default).Gauge) ((f.getD p.toNat default).Grain) ((f.getD p.toNat default).Rects) ((f.getD p.toNat default).Cuts) ((f.getD p.toNat default).Forms))/\(cond ((j==0)&&(rB ((f.getD p.toNat default).Name) ((f.getD p.toNat default).Material) ((f.getD p.toNat default).Gauge) ((f.getD p.toNat default).Grain) ((f.getD p.toNat default).Rects) ((f.getD p.toNat default).Cuts) ((f.getD p.toNat default).Forms))) (True) ((w8 y0 y1 y2 y3 y4 y5 O Z f es J r G I u p x y))))):=by
  refine⟨⟨XY,XY⟩,fun _=>⟨XY,XY⟩,fun _=>⟨⟨XY,XY⟩,show (r.getD p.toNat default).length<=2000000 by omega⟩,fun _=>⟨XY,f1⟩,?_⟩;cases (((u.getD p.toNat default)||(G.getD p.toNat default))||(!(iJ (r.getD p.toNat default))))||(oE es J r G I u p) with
  |true=>trivial
  |false=>
   refine⟨fun _=>S.1,?_⟩;cases (j==0)&&(rB ((f.getD p.toNat default).Name) ((f.getD p.toNat default).Material) ((f.getD p.toNat default).Gauge) ((f.getD p.toNat default).Grain) ((f.getD p.toNat default).Rects) ((f.getD p.toNat default).Cuts) ((f.getD p.toNat default).Forms)) with
   |true=>trivial
   |false=>exact⟨h3,h1,fun q S=>(h2 q S).1,h4,f1⟩
 have V:0<=k->(0<=p/\p<(u.length:Int))/\(cond (u.getD p.toNat default) (True) ((0<=p/\p<(r.length:Int))/\(0<=k/\k<((r.getD p.toNat default).length:Int))/\(cond ((r.getD p.toNat default).getD k.toNat default) (True) ((0<=k/\k<(((f.getD p.toNat default).Cuts).length:Int)))))):=fun hk=>by
  refine⟨⟨XY,XY⟩,?_⟩;cases u.getD p.toNat default with
  |true=>trivial
  |false=>
   refine⟨⟨XY,XY⟩,⟨hk,XY⟩,?_⟩;cases (r.getD p.toNat default).getD k.toNat default with
   |true=>trivial
   |false=>exact⟨hk,XY⟩
 cases c8:decide (0<=k) with
 |true=>
  have g8:=JC c8;cases c9:j !=0 with
  |true=>trivial
  |false=>exact⟨L,V g8⟩
 |false=>exact⟨L,out⟩
def aHE (O L:ByteArray) (J I G u:Int) (r f:List aA) (ps:List Pce) (es:List Edg) (s:eS) (x:Itm):eS:=
 cond ((lI O L J I G u r f ps es s.1 s.2.1 s.2.2.1 s.2.2.2.1 s.2.2.2.2.1 x.Piece x.Hole x.Joints x.Lead_X x.Lead_Y) !=0) (iZ (lI O L J I G u r f ps es s.1 s.2.1 s.2.2.1 s.2.2.2.1 s.2.2.2.2.1 x.Piece x.Hole x.Joints x.Lead_X x.Lead_Y))
  (kD es s.2.2.2.2.1.length s.1 s.2.1 s.2.2.1 s.2.2.2.1 s.2.2.2.2.1 x.Piece x.Hole x.Joints)
abbrev aPt:=List Sta×Int×Int
def mF (D:eS->Itm->eS):List Itm->Nat->eS->List Sta->aPt
 |[],_,_,m=>(m,0,0)
 |x::r,i,s,m=>cond ((D s x).2.2.2.2.2 !=0) ([],(i:Int),(D s x).2.2.2.2.2) (mF D r (i+1) (D s x) (m++[aHF (D s x)]))
theorem bF5 (D:eS->Itm->eS) (l:List Itm) (Q:aPt->Prop) (W:Nat->Int->eS->List Sta->Prop) (G:∀n (i:Nat) s m,i<l.length->m.length=i->cond ((D s (l.getD i default)).2.2.2.2.2 !=0) (Q ([],(i:Int),(D s (l.getD i default)).2.2.2.2.2)) (W n ((i+1:Nat):Int) (D s (l.getD i default)) (m++[aHF (D s (l.getD i default))]))->W (n+1) i s m)
  (I:∀n s m,Q (m,0,0)->W (n+1) l.length s m):∀(n i:Nat) (s:eS) (m:List Sta),m.length=i->i<=l.length->l.length<n+i->Q (mF D (l.drop i) i s m)->W n i s m:=by
 intro n
 induction n with
 |zero=>intro i s m r L J;omega
 |succ n u=>
  intro i s m r L J f
  by_cases h:i<l.length
  ·rw[mX l i h] at f;refine G n i s m h r ?_;unfold mF at f;cases hb:(D s (l.getD i default)).2.2.2.2.2 !=0 with
   |true=>
    rw[hb] at f;exact f
   |false=>
    rw[hb] at f;exact u (i+1) _ _ (by rw[QH,QD,r]) XY XY f
  ·obtain rfl:i=l.length:=XY;rw[KX] at f;exact I n s m f
def aHm (V S:ByteArray) (O L J I:Int) (r G:List aA) (f:List Pce) (u:List Itm):Prop:=
 aCe f/\(∀q∈f,q.Cuts.length<=2000000)/\r.length<=2000000/\(jT f).length<=2000000/\u.length<=1000
def fA (S O:ByteArray) (L J I G:Int) (u r:List aA) (f:List Pce) (V:List Itm):aPt:=mF (aHE S O L J I G u r f (jT f)) V 0 (iI f (jT f)) []
theorem bI5 {y0 y1:ByteArray} {y2 Z V S:Int} {O L:List aA} {ps:List Pce} {es:List Edg} {J:List Bool} {u:zzB} {I:List Bool} {r:zzI} {G:List Bool} {p k j x y:Int} (hz:(lI y0 y1 y2 Z V S O L ps es J u I r G p k j x y !=0)=false):
  lX J u I r G ps es.length=true/\0<=p/\p<ps.length/\ -1<=k/\k<(ps.getD p.toNat default).Cuts.length:=by
 have f:lI y0 y1 y2 Z V S O L ps es J u I r G p k j x y=0:=by simpa using hz
 unfold lI at f;have one:¬((1:Int)=0):=by decide
 cases c1:lX J u I r G ps es.length with
 |false=>
  rw[show sH y0 y1 y2 Z V S O L ps J u I r G (es.length:Int)=false from c1] at f;exact(one f).elim
 |true=>
 rw[show sH y0 y1 y2 Z V S O L ps J u I r G (es.length:Int)=true from c1,KC,QJ] at f;cases c2:decide (p<0) with
 |true=>rw[c2] at f;exact(one f).elim
 |false=>
 rw[c2,QJ] at f;cases c3:decide ((ps.length:Int)<=p) with
 |true=>rw[c3] at f;exact(one f).elim
 |false=>
 rw[c3,QJ] at f;cases c4:decide (k<(-1)) with
 |true=>rw[c4] at f;exact(one f).elim
 |false=>
 rw[c4,QJ] at f;cases c5:decide ((((ps.getD p.toNat default).Cuts).length:Int)<=k) with
 |true=>rw[c5] at f;exact(one f).elim
 |false=>
 have:=JR c2;have:=JR c3;have:=JR c4;have:=JR c5;exact⟨rfl,XY,XY,XY,XY⟩
theorem bFV (es:List Edg) (n:Nat) (I:List Bool) (r:zzB) (G:List Bool) (f:zzI) (u:List Bool) (p k j:Int):(kD es n I r G f u p k j).2.2.2.2.2=0:=by
 unfold kD;cases decide (0<=k)<;>rfl
theorem bLX (Z V:ByteArray) (S O L J:Int) (I G:List aA) (f:List Pce) (u:List Itm) (h:aHm Z V S O L J I G f u):∃F,∀Q:List Sta->Int->Int->Prop,Q ((fA Z V S O L J I G f u).1) ((fA Z V S O L J I G f u).2.1) ((fA Z V S O L J I G f u).2.2)->aQi F Z V S O L J I G f u Q:=by
 obtain⟨h1,h2,h3,h4,h5⟩:=h;have h1':=h1;obtain⟨g1,g2⟩:=h1';have hb:∀q∈f,q.Rects.length<=2000000/\q.Cuts.length<=2000000:=fun q hq=>⟨by have:=g2 q hq;omega,h2 q hq⟩
 refine⟨u.length+1,fun Q hQ=>?_⟩;refine⟨h1,⟨h1,fun p hp=>by have:=h2 p hp;omega⟩,?_⟩;show aId (u.length+1) Q u 0 0 (jT f) 0 Z V S O L J I G f (iI f (jT f)).1 (iI f (jT f)).2.1 (iI f (jT f)).2.2.1 (iI f (jT f)).2.2.2.1 (iI f (jT f)).2.2.2.2.1 [];unfold fA at hQ;generalize iI f (jT f)=s0 at hQ ⊢;generalize jT f=es at hQ h4 ⊢;unfold aId;refine bF5 (aHE Z V S O L J I G f es) u (fun t=>Q t.1 t.2.1 t.2.2) (fun n i s m=>aGt (u.length+1) _ _ n u 0 0 es i Z V S O L J I G f s.1 s.2.1 s.2.2.1 s.2.2.2.1 s.2.2.2.2.1 m) (fun n i s m hi hm hw=>?_) (fun n s m hq=>?_) (u.length+1) 0 s0 [] rfl XY XY hQ
 ·show cond (decide ((i:Int)<(u.length:Int))) _ _;rw[bN XY,QX,QV,cO hi XY];have hbi:0<=(i:Int)/\(i:Int)<u.length:=⟨XY,XY⟩;refine⟨hbi,bJm Z V S O L J I G f es _ _ _ _ _ _ _ _ _ _ XY hb h3 h4,?_⟩;generalize u.getD i default=x at hw ⊢;unfold aHE at hw;show cond ((lI Z V S O L J I G f es s.1 s.2.1 s.2.2.1 s.2.2.2.1 s.2.2.2.2.1 x.Piece x.Hole x.Joints x.Lead_X x.Lead_Y) !=0) _ _;cases hr:(lI Z V S O L J I G f es s.1 s.2.1 s.2.2.1 s.2.2.2.1 s.2.2.2.2.1 x.Piece x.Hole x.Joints x.Lead_X x.Lead_Y) !=0 with
  |true=>
   rw[hr,QX] at hw;rw[show ((iZ (lI Z V S O L J I G f es s.1 s.2.1 s.2.2.1 s.2.2.2.1 s.2.2.2.2.1 x.Piece x.Hole x.Joints x.Lead_X x.Lead_Y)).2.2.2.2.2 !=0)=true from hr] at hw;exact hw
  |false=>
   rw[hr,QJ,bFV] at hw;obtain⟨hfit,p1,p2,k1,k2⟩:=bI5 hr;obtain⟨f1,f2,f3,f4,f5,f6⟩:=aAQ hfit;rw[QJ];refine⟨hbi,⟨h4,f1,XY,XY,fun r hr=>?_,XY,XY,⟨p1,XY⟩,fun _=>?_⟩,?_,?_⟩
   ·obtain⟨a,ha,rfl⟩:=List.mem_iff_getElem.1 hr;have:=f6 a XY;rw[QG,QL ha,Option.getD_some] at this;have h:=(hb _ (fJ (show a<f.length by omega))).2;omega
   ·have:=f6 x.Piece.toNat XY;omega
   ·simp only[QT,JZ];omega
   ·exact hw
 ·show cond (decide ((u.length:Int)<(u.length:Int))) _ _;rw[bV XY,QJ];exact hq
def aCQ (S O:ByteArray) (L J I G:Int) (u r:List aA) (f:List Pce) (V:List Itm):Prop:=(aCK S O L J I G u r f)/\(cond ((mG S O L J I G u r f) !=0) (True) ((cond (decide (128<(V.length:Int))) (True) ((cond ((V.length:Int)==0) ((aDy S O L J I G u r f)) ((aHm S O L J I G u r f V)/\(cond (((fA S O L J I G u r f V).2.2) !=0) (True) ((0<=(aB ((((fA S O L J I G u r f V).1).length:Int)-1))/\(aB ((((fA S O L J I G u r f V).1).length:Int)-1))<((fA S O L J I G u r f V).1).length)))))))))
def iE (S O:ByteArray) (L J I G:Int) (u r:List aA) (f:List Pce) (V:List Itm):(List Bool)×(zzB)×(List Bool)×(zzI)×(List Bool)×Int×Int:=cond ((mG S O L J I G u r f) !=0) (([],[],[],[],[],0,(mG S O L J I G u r f))) (cond (decide (128<(V.length:Int))) (([],[],[],[],[],0,4)) (cond ((V.length:Int)==0) (((jD S O L J I G u r f).1,(jD S O L J I G u r f).2.1,(jD S O L J I G u r f).2.2.1,(jD S O L J I G u r f).2.2.2.1,(jD S O L J I G u r f).2.2.2.2,0,0)) (cond (((fA S O L J I G u r f V).2.2) !=0) (([],[],[],[],[],(fA S O L J I G u r f V).2.1,(fA S O L J I G u r f V).2.2)) (((((fA S O L J I G u r f V).1).getD ((aB ((((fA S O L J I G u r f V).1).length:Int)-1)).toNat) default).Cut,(((fA S O L J I G u r f V).1).getD ((aB ((((fA S O L J I G u r f V).1).length:Int)-1)).toNat) default).Holes,(((fA S O L J I G u r f V).1).getD ((aB ((((fA S O L J I G u r f V).1).length:Int)-1)).toNat) default).sA,(((fA S O L J I G u r f V).1).getD ((aB ((((fA S O L J I G u r f V).1).length:Int)-1)).toNat) default).Joints,(((fA S O L J I G u r f V).1).getD ((aB ((((fA S O L J I G u r f V).1).length:Int)-1)).toNat) default).Fallen,0,0)))))
def aBP:Nat->Nat->Nat->Canon UU:=fun o b r=>cond (Nat.beq b 0) ⟨[4,5,8],[5],[],[],[]⟩ (⟨[],[],[],[],[]⟩)
def aPE (V S:ByteArray) (O L J I:Int) (G u:List aA) (r:List Pce) (Z:List Itm) (Q:Int->Prop) (i0:Int->Int->List Bool->zzB->List Bool->zzI->List Bool->Prop):Prop:=(let f:=(iE V S O L J I G u r Z);((aCQ V S O L J I G u r Z)/\cond (f.2.2.2.2.2.2 !=0) (Q f.2.2.2.2.2.2) (((uH f.2.2.1)/\cond (!(iJ f.2.2.1)) (Q 12) (i0 0 0 f.1 f.2.1 f.2.2.1 f.2.2.2.1 f.2.2.2.2.1)))))
def bAJ (L:Int->Int->List Bool->zzB->List Bool->zzI->List Bool->Prop) (V:Int->Int->List Bool->zzB->List Bool->zzI->List Bool->Prop) (S:Int->Int->List Bool->zzB->List Bool->zzI->List Bool->Prop) (O f:Int) (J:List Bool) (r:zzB) (I:List Bool) (u:zzI) (G:List Bool):Prop:=cond (decide (f<(r.length:Int))) ((let e0:=(r.getD f.toNat default);(((0<=f/\f<r.length)/\(uH e0))/\cond (!(iJ e0)) (V 12 f J r I u G) (L O (aB (f+1)) J r I u G)))) (S O f J r I u G)
def bQQ (Q:Int->Prop) (f r:Int) (L:List Bool) (J:zzB) (I:List Bool) (u:zzI) (G:List Bool):Prop:=Q f
def bQP (Q:Int->Prop) (r f:Int) (L:List Bool) (J:zzB) (I:List Bool) (u:zzI) (G:List Bool):Prop:=Q 0
def aGk (F:Nat) (r:Int->Int->List Bool->zzB->List Bool->zzI->List Bool->Prop) (f:Int->Int->List Bool->zzB->List Bool->zzI->List Bool->Prop):Nat->Int->Int->List Bool->zzB->List Bool->zzI->List Bool->Prop
 |0,_,_,_,_,_,_,_=>False
 |n+1,G,u,S,O,L,I,J=>bAJ (aGk F r f n) r f G u S O L I J
def aN2 (F:Nat) (Q:Int->Prop) (r f:Int) (L:List Bool) (J:zzB) (I:List Bool) (u:zzI) (G:List Bool):Prop:=aGk F (fun r f L J I u G=>bQQ Q r f L J I u G) (fun r f L J I u G=>bQP Q r f L J I u G) F r f L J I u G
def aLt (F:Nat) (S O:ByteArray) (L J I G:Int) (u r:List aA) (f:List Pce) (V:List Itm) (Q:Int->Prop):Prop:=aPE S O L J I G u r f V Q (aN2 F Q)
def aJj (t:aAq):Int:=cond (t.2.2.2.2.2.2 !=0) t.2.2.2.2.2.2 (cond (!(iJ t.2.2.1)) 12 (cond (t.2.1.any fun r=>!(iJ r)) 12 0))
def aDx (V S:ByteArray) (O L J I:Int) (G u:List aA) (f:List Pce) (Z:List Itm):Prop:=
 aCQ V S O L J I G u f Z/\(((iE V S O L J I G u f Z).2.2.2.2.2.2 !=0)=false->(iE V S O L J I G u f Z).2.2.1.length<=2000000/\(iE V S O L J I G u f Z).2.1.length<=2000000/\∀r∈(iE V S O L J I G u f Z).2.1,r.length<=2000000)
def sI (S O:ByteArray) (L J I G:Int) (u r:List aA) (f:List Pce) (V:List Itm):Int:=aJj (iE S O L J I G u r f V)
theorem bLN (Z V:ByteArray) (S O L J:Int) (I G:List aA) (u:List Pce) (a1:List Itm) (h:aDx Z V S O L J I G u a1):∃F,∀Q:Int->Prop,Q (sI Z V S O L J I G u a1)->aLt F Z V S O L J I G u a1 Q:=by
 obtain⟨h1,h2⟩:=h;refine⟨2000000+1,fun Q f=>?_⟩;unfold sI aJj at f;unfold aLt aPE;dsimp only;refine⟨h1,?_⟩;generalize iE Z V S O L J I G u a1=t at h2 f ⊢;cases he:t.2.2.2.2.2.2 !=0 with
 |true=>
  rw[he] at f;exact f
 |false=>
 obtain⟨g1,g2,g3⟩:=h2 he;rw[he,QJ] at f;rw[QJ];refine⟨g1,?_⟩;cases hd:!(iJ t.2.2.1) with
 |true=>
  rw[hd] at f;exact f
 |false=>
 rw[hd,QJ] at f;rw[QJ];unfold aN2;refine mH t.2.1 (fun r=>!(iJ r)) (Q 12) (Q 0) (fun n i=>aGk (2000000+1) _ _ n 0 i t.1 t.2.1 t.2.2.1 t.2.2.2.1 t.2.2.2.2.1) (fun n i hi hx hw=>?_) (fun n hy=>?_) (2000000+1) XY (fun q=>by rw[q] at f;exact f) (fun q=>by rw[q] at f;exact f)
 ·show cond (decide ((i:Int)<(t.2.1.length:Int))) _ _;rw[bN XY,QX,QV,cO hi XY];refine⟨⟨⟨XY,XY⟩,g3 _ (fJ hi)⟩,?_⟩;cases hb:!(iJ (t.2.1.getD i default)) with
  |true=>exact hx hb
  |false=>exact hw hb
 ·show cond (decide ((t.2.1.length:Int)<(t.2.1.length:Int))) _ _;rw[bV XY,QJ];exact hy
theorem aJi (l:List aA) (a b:Int):aCl l (aA.mk a b 1 1)=iC l a b:=by
 show decide (0<=qR (aFD a b 1 1) l 0)=_;rw[aFF (aFD a b 1 1) l 0 XY];show l.any (aFD a b 1 1)=l.any (aBk a b);congr 1;funext r;exact aJN a b 1 1 r.X r.Y r.W r.H
theorem aMB {l:List aA} {a b:Int} (h:iC l a b=true): -1048576<=a/\a<=1048575/\ -1048576<=b/\b<=1048575:=by
 obtain⟨r,_,f⟩:=KH.1 h;unfold aBk oJ at f;simp only[QU] at f;have:=o7 f.1.1.1.1.1;omega
theorem aR1 (l:List aA) (x y:Int):rH l x y=oH l x y:=by
 unfold rH oH;have e:∀(u v s t:Bool),(!(!u||(!v||(!s||(!t||false)))))=(((t&&s)&&v)&&u):=fun u v s t=>by cases u<;>cases v<;>cases s<;>cases t<;>rfl
 have L:(!((four x y).any fun q=>!(aCl l q)))=(((iC l x y&&iC l (aB (x-1)) y)&&iC l x (aB (y-1)))&&iC l (aB (x-1)) (aB (y-1))):=by
  rw[<- aJi,<- aJi,<- aJi,<- aJi];exact e _ _ _ _
 rw[L];cases f:(((decide (x<=(-1048576)))||(decide (1048576<=x)))||(decide (y<=(-1048576))))||(decide (1048576<=y)) with
 |false=>
  simp only[QC,QF] at f;rw[bV (show ¬x < -4194304 by omega),bV (show ¬4194304<x by omega),bV (show ¬y < -4194304 by omega),bV (show ¬4194304<y by omega)];rfl
 |true=>
  rw[QX];cases J:(((decide (x<(-4194304)))||(decide (4194304<x)))||(decide (y<(-4194304))))||(decide (4194304<y)) with
  |true=>rfl
  |false=>
   rw[QJ];simp only[QC,QF] at J;simp only[Bool.or_eq_true,JN] at f;rw[dW (n:=x-1) XY XY,dW (n:=y-1) XY XY];cases I:iC l x y with
   |false=>rfl
   |true=>
   cases hb:iC l (x-1) y with
   |false=>rfl
   |true=>
   cases G:iC l x (y-1) with
   |false=>rfl
   |true=>
   have p:=aMB I;have q:=aMB hb;have r:=aMB G;omega
theorem bNl (w h:Int) (cl:List aA) (ps:List Pce) (es:List Edg) (f:List Bool) (p x y:Int):aIt w h cl ps es f p x y=aEQ w h cl ps es f p x y:=by
 unfold aIt aEQ;rw[aR1,show (fun q:Pce=>rH q.Rects x y)=fun q=>oH q.Rects x y from funext fun q=>aR1 _ _ _];have e:∀(a b c:Bool),((a||b)||c)=((a||c)||b):=fun a b c=>by cases a<;>cases b<;>cases c<;>rfl
 rw[e (decide (x<0)) (decide (w<x)) (decide (y<0))]
theorem aNw (l:List Bool):pO l false=!(iJ l):=by
 show decide (0<=qR (fun x=>false==x) l 0)=!(!(l.any fun b=>!b));rw[aFF (fun x=>false==x) l 0 XY,Bool.not_not];congr 1;funext b;cases b<;>rfl
theorem bNm (r:aA) (x y:Int):(!(aNu r x y))=((((decide (x<=r.X))||(decide (aB (r.X+r.W)<=x)))||(decide (y<=r.Y)))||(decide (aB (r.Y+r.H)<=y))):=by
 unfold aNu;rw[Bool.eq_iff_iff];simp only[JF,Bool.and_eq_false_imp,QU,Bool.or_eq_true,JN,QF];omega
theorem bBh (y0 y1:ByteArray) (y2 y3 w h:Int) (cl us:List aA) (ps:List Pce) (es:List Edg) (I:List Bool) (r:zzB) (J:List Bool) (L:zzI) (f:List Bool) (p k j x y:Int):
  doS w h cl ps es I r J L f p k j x y=cond ((lI y0 y1 y2 y3 w h cl us ps es I r J L f p k j x y) !=0) (iZ (lI y0 y1 y2 y3 w h cl us ps es I r J L f p k j x y)) (kD es f.length I r J L f p k j):=by
 obtain⟨G,O⟩:∃G:Int->eS,G=fun e=>cond (e !=0) (iZ e) (kD es f.length I r J L f p k j):=⟨_,rfl⟩
 show _=(fun e=>cond (e !=0) (iZ e) (kD es f.length I r J L f p k j)) (lI y0 y1 y2 y3 w h cl us ps es I r J L f p k j x y);rw[<- O];have hc:∀(b:Bool) (u v:Int),G (cond b u v)=cond b (G u) (G v):=fun b u v=>by cases b<;>rfl
 have g1:G 1=iZ 1:=by rw[O];rfl
 have g12:G 12=iZ 12:=by rw[O];rfl
 have Z:G 14=iZ 14:=by rw[O];rfl
 have V:G 15=iZ 15:=by rw[O];rfl
 have g0:G 0=kD es f.length I r J L f p k j:=by rw[O];rfl
 unfold lI;rw[show sH y0 y1 y2 y3 w h cl us ps I r J L f (es.length:Int)=lX I r J L f ps es.length from rfl];simp only[hc,g1,g12,Z,V,g0];clear hc g1 g12 Z V g0 O;unfold doS;cases c1:lX I r J L f ps es.length with
 |false=>rfl
 |true=>
 obtain⟨_,_,_,_,f5,_⟩:=aAQ c1;rw[f5];cases c2:decide (p<0) with
 |true=>rfl
 |false=>
 cases c3:decide ((ps.length:Int)<=p) with
 |true=>rfl
 |false=>
 cases c4:decide (k<(-1)) with
 |true=>rfl
 |false=>
 cases c5:decide (((ps.getD p.toNat default).Cuts.length:Int)<=k) with
 |true=>rfl
 |false=>
 cases c6:decide (j<0) with
 |true=>rfl
 |false=>
 cases c7:decide (4<j) with
 |true=>rfl
 |false=>
 simp only[KC,XV,QJ];unfold doT aC1 sM;generalize kD es ps.length I r J L f p k j=S;cases c8:decide (0<=k) with
 |true=>
  have c9:decide (k<0)=false:=KG (by have:=JC c8;omega);rw[c9];simp only[QX,Bool.false_and,QJ];rw[bNm];cases j !=0 with
  |true=>rfl
  |false=>
  cases f.getD p.toNat default with
  |true=>rfl
  |false=>
  cases (r.getD p.toNat default).getD k.toNat default<;>rfl
 |false=>
  have c9:decide (k<0)=true:=KS (by have:=JR c8;omega);rw[c9];simp only[QJ,KA];rw[aNw,bNl,<- bFj];show _=cond ((((f.getD p.toNat default)||(J.getD p.toNat default))||(!(iJ (r.getD p.toNat default))))||(yO I es p)) (iZ 12) (cond ((j==0)&&(aH1 (ps.getD p.toNat default).Rects)) (iZ 15) (cond (!(aEQ w h cl ps es I p x y)) (iZ 14) S));show cond (!(cond (f.getD p.toNat default) false (((!(J.getD p.toNat default))&&(!(!(iJ (r.getD p.toNat default)))))&&(!(yO I es p))))) _ _=_;cases f.getD p.toNat default with
  |true=>rfl
  |false=>
  cases J.getD p.toNat default with
  |true=>rfl
  |false=>
  cases iJ (r.getD p.toNat default) with
  |false=>rfl
  |true=>
  cases yO I es p<;>rfl
theorem aQx (G u:ByteArray) (r f w h:Int) (cl us:List aA) (ps:List Pce) (es:List Edg):aHE G u r f w h cl us ps es=eZ w h cl ps es:=by
 funext s x;exact(bBh G u r f w h cl us ps es s.1 s.2.1 s.2.2.1 s.2.2.2.1 s.2.2.2.2.1 x.Piece x.Hole x.Joints x.Lead_X x.Lead_Y).symm
theorem bTj (t:aAq):aJj t=aCm t:=by
 unfold aJj aCm;rw[show uQ t.2.2.1=!(iJ t.2.2.1) from aNw _,show t.2.1.any uQ=t.2.1.any fun r=>!(iJ r) from by
  congr 1;funext r;exact aNw r]
theorem aRM (D:eS->Itm->eS):∀(l:List Itm) (i:Nat) (s:eS) (m:List Sta),(mF D l i s m).2.2=(oM D l i s).2.2.2.2.2.2/\(((mF D l i s m).2.2 !=0)=true->oM D l i s=qH (iZ 0) (mF D l i s m).2.1 (mF D l i s m).2.2)/\
  ((mF D l i s m).1.length<=m.length+l.length)/\(((mF D l i s m).2.2 !=0)=false->∃f:eS,oM D l i s=qH f 0 0/\(l=[]/\f=s\/l≠[]/\(mF D l i s m).1.getLast?=some (aHF f))):=by
 intro l
 induction l with
 |nil=>
  intro i s m;exact⟨rfl,(fun h=>by cases h),JX _,fun _=>⟨s,rfl,.inl ⟨rfl,rfl⟩⟩⟩
 |cons x r I=>
  intro i s m;unfold mF oM;cases hb:(D s x).2.2.2.2.2 !=0 with
  |true=>
   refine⟨rfl,fun _=>rfl,Nat.zero_le _,fun h=>?_⟩;have G:((D s x).2.2.2.2.2 !=0)=false:=h;rw[hb] at G;cases G
  |false=>
   rw[QJ,QJ];obtain⟨S,O,L,J⟩:=I (i+1) (D s x) (m++[aHF (D s x)]);refine⟨S,O,?_,fun h=>?_⟩
   ·rw[QH,QD] at L;rw[QT];omega
   ·obtain⟨f,V,u⟩:=J h;refine⟨f,V,.inr ⟨XU,?_⟩⟩;rcases u with ⟨rfl,rfl⟩|⟨_,u⟩
    ·unfold mF;exact List.getLast?_concat
    ·exact u
structure aLl (L:Int->Int->Int->Int->Lin) (mk:Int->Int->Int->Int->Edg):Prop where
 low:∀a b lo hi,(L a b lo hi).Low=lo
 high:∀a b lo hi,(L a b lo hi).High=hi
 ext:∀a b lo hi c lo' hi',nG (L a b lo hi) (L b c lo' hi')=((lo==lo')&&(hi==hi'))
 far:∀a b lo hi b' c lo' hi',b≠b'->nG (L a b lo hi) (L b' c lo' hi')=false
 grow:∀a b lo hi c lo' hi',aJa (L a b lo hi) (L b c lo' hi')=L a c lo hi
 edge:∀a b lo hi, -1<=lo-> -1<=hi->lo≠hi->oT (L a b lo hi)=mk a b hi lo
abbrev Sg:=Int×Int×Int×Int
def sgL (L:Int->Int->Int->Int->Lin) (s:Sg):Lin:=L s.1 s.2.1 s.2.2.1 s.2.2.2
def chain:Int->List Sg->Int->Prop
 |p,[],e=>p=e
 |p,s::r,e=>s.1=p/\s.1<s.2.1/\chain s.2.1 r e
def lV (L:Int->Int->Int->Int->Lin) (b p one f:Int):List Lin:=cond (one==f) [] [L b p f one]
def shut (L:Int->Int->Int->Int->Lin) (M:List Lin) (r:List Sg):Prop:=∀z,M.getLast?=some z->∀s∈r,nG z (sgL L s)=false
theorem bTl:∀(r:List Sg) (p e:Int),chain p r e->∀s∈r,p<=s.1:=by
 intro r
 induction r with
 |nil=>intro p e _ s G;cases G
 |cons s r u=>
  intro p e h t f;obtain⟨L,J,I⟩:=h;rcases List.mem_cons.1 f with rfl|f
  ·omega
  ·have:=u _ _ I t f;omega
theorem aXt (M:List Lin) (x:Lin) (h:x.Low=x.High):kG M x=M:=by
 unfold kG;rw[h];simp
theorem bOY (M:List Lin) (x:Lin) (h:x.Low≠x.High) (r:∀z,M.getLast?=some z->nG z x=false):kG M x=M++[x]:=by
 unfold kG;have e:(x.Low==x.High)=false:=by simpa using h
 rw[e,QJ];cases f:M.getLast? with
 |none=>
  have:M=[]:=by simpa using f
  rw[this];rfl
 |some z=>
  simp only;rw[r z f];rfl
theorem merge {L:Int->Int->Int->Int->Lin} {mk:Int->Int->Int->Int->Edg} (O:aLl L mk):∀(r:List Sg) (M:List Lin) (b p one f e:Int),b<p\/one=f->chain p r e->shut L M r-> -1<=one-> -1<=f->(∀s∈r, -1<=s.2.2.1/\ -1<=s.2.2.2)->
  ∃R,r.foldl (fun m s=>kG m (sgL L s)) (M++lV L b p one f)=M++R/\R.map oT=alF mk b one f (r.map (fun s=>(s.1,s.2.2.2,s.2.2.1))++[(e, -1, -1)])/\∀z∈R,∃a c I hi,a<c/\z=L a c I hi:=by
 intro r
 induction r with
 |nil=>
  intro M b p one f e hb hc hs h1 h2 _;obtain rfl:p=e:=hc;refine⟨lV L b p one f,rfl,?_,?_⟩
  ·show _=alF mk b one f [(p, -1, -1)];unfold alF lV;cases ho:one==f with
   |true=>
    rw[QX,QX];cases ((-1:Int)==one)&&((-1:Int)==f)<;>rfl
   |false=>
    have J:one≠f:=by simpa using ho
    have:(((-1:Int)==one)&&((-1:Int)==f))=false:=by
     rw[Bool.and_eq_false_iff]
     by_cases h:(-1:Int)=one
     ·right;have:(-1:Int)≠f:=XY;simpa using this
     ·left;simpa using h
    rw[this,QJ,QJ,QJ];show [oT (L b p f one)]=[mk b p one f]++[];rw[O.edge b p f one h2 h1 (fun e=>J e.symm)];rfl
  ·intro z u;unfold lV at u;cases ho:one==f with
   |true=>rw[ho] at u;cases u
   |false=>
    rw[ho] at u;have J:one≠f:=by simpa using ho
    obtain rfl:z=L b p f one:=by simpa using u
    refine⟨b,p,f,one,?_,rfl⟩;rcases hb with h|h
    ·exact h
    ·exact absurd h J
 |cons s r ih=>
  intro M b p one f e hb hc hs h1 h2 hl;obtain⟨G,q,I,hi⟩:=s;obtain⟨kH,rT,rS⟩:=hc;obtain rfl:G=p:=kH;have rT:G<q:=rT;have rS:chain q r e:=rS;obtain⟨V,Z⟩:=hl _ (JJ ..);have V: -1<=I:=V;have Z: -1<=hi:=Z;have hlr:∀s∈r, -1<=s.2.2.1/\ -1<=s.2.2.2:=fun s h=>hl s (QE _ h)
  rw[QI,List.map_cons,List.cons_append];show ∃R,r.foldl (fun m s=>kG m (sgL L s)) (kG (M++lV L b G one f) (L G q I hi))=M++R/\R.map oT=alF mk b one f ((G,hi,I)::(r.map (fun s=>(s.1,s.2.2.2,s.2.2.1))++[(e, -1, -1)]))/\_;have hsr:shut L M r:=fun z u s h=>hs z u s (QE _ h)
  unfold alF;cases S:(hi==one)&&(I==f) with
  |true=>
   simp only[QU,KI] at S;obtain⟨rfl,rfl⟩:=S;rw[QX];have e1:kG (M++lV L b G hi I) (L G q I hi)=M++lV L b q hi I:=by
    unfold lV;cases ho:hi==I with
    |true=>
     have:hi=I:=by simpa using ho
     rw[QX,QX,aXt _ _ (by rw[O.low,O.high,this])]
    |false=>
     have J:hi≠I:=by simpa using ho
     rw[QJ,QJ,aOh,O.low,O.high];have:(I==hi)=false:=by simp;omega
     rw[this,QJ,O.ext,O.grow];simp
   rw[e1];exact ih M b q hi I e (hb.imp (fun h=>XY) id) rS hsr h1 h2 hlr
  |false=>
   rw[QJ]
   -- what is open is shut by what follows
   have hopen:shut L (M++lV L b G one f) r:=by
    intro z u s h;unfold lV at u;cases ho:one==f with
    |true=>
     rw[ho,QX,KJ] at u;exact hsr z u s h
    |false=>
     rw[ho,QJ,List.getLast?_concat] at u;obtain rfl:=QW u;have:=bTl r q e rS s h;exact O.far _ _ _ _ _ _ _ _ XY
   have e1:kG (M++lV L b G one f) (L G q I hi)=(M++lV L b G one f)++lV L G q hi I:=by
    unfold lV;cases hh:hi==I with
    |true=>
     have:hi=I:=by simpa using hh
     rw[QX,KJ,aXt _ _ (by rw[O.low,O.high,this])]
    |false=>
     have J:hi≠I:=by simpa using hh
     rw[QJ,bOY _ _ (by rw[O.low,O.high];omega)];intro z u;cases ho:one==f with
     |true=>
      rw[ho,QX,KJ] at u;exact hs z u (G,q,I,hi) (JJ ..)
     |false=>
      rw[ho,QJ,List.getLast?_concat] at u;obtain rfl:=QW u;rw[O.ext];rw[Bool.and_eq_false_iff] at S ⊢;simp only[JT,ne_eq] at S ⊢;omega
   rw[e1];obtain⟨R,r1,r2,r3⟩:=ih (M++lV L b G one f) G q hi I e (.inl rT) rS hopen Z V hlr;refine⟨lV L b G one f++R,?_,?_,?_⟩
   ·rw[r1,KP]
   ·rw[List.map_append,r2];congr 1;unfold lV;cases ho:one==f with
    |true=>rfl
    |false=>
     have J:one≠f:=by simpa using ho
     show [oT (L b G f one)]=[mk b G one f];rw[O.edge b G f one h2 h1 (fun e=>J e.symm)]
   ·intro z u;rcases KK.1 u with u|u
    ·unfold lV at u;cases ho:one==f with
     |true=>rw[ho] at u;cases u
     |false=>
      rw[ho] at u;have J:one≠f:=by simpa using ho
      obtain rfl:z=L b G f one:=by simpa using u
      refine⟨b,G,f,one,?_,rfl⟩;rcases hb with h|h
      ·exact h
      ·exact absurd h J
    ·exact r3 z u
end
end Go.Proofs.YtjjbojomlfgjlaaGreatDoor
