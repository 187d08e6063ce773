/- Lemmas, walks and laws of this proof, part 7. Conditions: those that each names. -/
import Derived.Test.YtjjbojomlfgjlaaGreatDoorMK6
import Derived.Test.YtjjbojomlfgjlaaGreatDoorMK5
import Derived.Test.YtjjbojomlfgjlaaGreatDoorMK4
import Derived.WalkKit
import Derived.OwnWalk
import Derived.Lib.Walk
import Derived.Lib.SliceRun
import Derived.Deep.LoopGhost
import Derived.LaidEql
import Derived.RowKitTokens
import Derived.Deep.RegionHeld3
import Derived.Shelf.SlSortCmp.QuietGrown
import Derived.Ground.SlsfProg
import Derived.Shelf.SlSortCmp.NoneTotal
import Derived.Test.YtjjbojomlfgjlaaGreatDoorProg
import Derived.Lib.OwnBridge
set_option maxRecDepth 100000
namespace Go.Proofs.YtjjbojomlfgjlaaGreatDoor
open Go.Proofs.Tryz
open Go.Vm Go.RowKit
set_option linter.unusedVariables false
noncomputable section
def LX (y a b f hi:Int):Lin:=Lin.mk a y b y f hi
def LY (x a b f hi:Int):Lin:=Lin.mk x a x b f hi
theorem aRj (f hi:Int) (V: -1<=f) (S: -1<=hi) (O:f≠hi):
  cond (decide (mi f hi<0)) (ma f hi,mi f hi) (mi f hi,ma f hi)=cond ((decide (hi<0))||((decide (0<=f))&&(decide (f<hi)))) (f,hi) (hi,f):=by
 unfold mi ma
 by_cases G:hi<0
 ·obtain rfl:hi= -1:=XY;have u:(-1:Int)<f:=XY;have r:¬f < -1:=XY;simp[u,r]
 ·by_cases L:f<0
  ·obtain rfl:f= -1:=XY;have u:(-1:Int)<hi:=XY;have r:¬hi < -1:=XY;simp[u,r,G]
  ·by_cases I:f<hi
   ·have r:¬hi<f:=XY;have J:0<=f:=XY;simp[G,L,I,r,J]
   ·have u:hi<f:=XY;simp[G,I,u]
theorem bVj (y:Int):aLl (LX y) (pW y) where
 low _ _ _ _:=rfl
 high _ _ _ _:=rfl
 ext a b lo hi c lo' hi':=by
  unfold nG LX;simp only[beq_self_eq_true,QX];cases lo==lo'<;>cases hi==hi'<;>rfl
 far a b lo hi b' c lo' hi' h:=by
  unfold nG LX;have:(b==b')=false:=by simpa using h
  simp only[this,QJ];cases lo==lo'<;>cases hi==hi'<;>rfl
 grow _ _ _ _ _ _ _:=rfl
 edge a b lo hi h1 h2 hne:=by
  have:=aRj lo hi h1 h2 hne;unfold oT pW gV LX;dsimp only;cases r:decide (mi lo hi<0)<;>cases f:((decide (hi<0))||((decide (0<=lo))&&(decide (lo<hi))))<;>rw[r,f] at this<;>simp only[QX,QJ,QK] at this ⊢<;>rw[this.1,this.2]
theorem bVi (x:Int):aLl (LY x) (pV x) where
 low _ _ _ _:=rfl
 high _ _ _ _:=rfl
 ext a b lo hi c lo' hi':=by
  unfold nG LY;simp only[beq_self_eq_true,QX];cases lo==lo'<;>cases hi==hi'<;>cases a==c<;>rfl
 far a b lo hi b' c lo' hi' h:=by
  unfold nG LY;have:(b==b')=false:=by simpa using h
  simp only[this,QJ,beq_self_eq_true,QX];cases lo==lo'<;>cases hi==hi'<;>rfl
 grow _ _ _ _ _ _ _:=rfl
 edge a b lo hi h1 h2 hne:=by
  have:=aRj lo hi h1 h2 hne;unfold oT pV gV LY;dsimp only;cases r:decide (mi lo hi<0)<;>cases f:((decide (hi<0))||((decide (0<=lo))&&(decide (lo<hi))))<;>rw[r,f] at this<;>simp only[QX,QJ,QK] at this ⊢<;>rw[this.1,this.2]
def sgI (l:zzI) (f hi:Nat->Int) (i:Nat):Sg:=(l.getD i default,l.getD (i+1) default,f i,hi i)
theorem aA0 {l:zzI} (h:asc l) {i j:Nat} (f:i<j) (r:j<l.length):l.getD i default<l.getD j default:=by
 have:=List.pairwise_iff_getElem.1 h i j XY r f;rw[QG,QG,QL XY,QL r];exact this
theorem bTk {l:zzI} (h:asc l) (f hi:Nat->Int):∀(k i:Nat),i+k<l.length->chain (l.getD i default) ((List.range' i k).map (sgI l f hi)) (l.getD (i+k) default):=by
 intro k
 induction k with
 |zero=>intro i _;rfl
 |succ k r=>
  intro i u;rw[XJ,List.map_cons];refine⟨rfl,aA0 h (Nat.lt_succ_self i) XY,?_⟩;have:=r (i+1) XY;rw[show i+1+k=i+(k+1) by omega] at this;exact this
theorem aRS {L:Int->Int->Int->Int->Lin} {mk:Int->Int->Int->Int->Edg} (hA:aLl L mk) {l:zzI} (h:asc l) (u hi:Nat->Int) (f:Int->Int×Int) (hf:∀i,i+1<l.length->f (l.getD i default)=(hi i,u i)) (I:∀i,i+1<l.length-> -1<=u i/\ -1<=hi i) (M:List Lin)
  (hs:∀z,M.getLast?=some z->∀i,i+1<l.length->nG z (L (l.getD i default) (l.getD (i+1) default) (u i) (hi i))=false):
  ∃R,(List.range' 0 (l.length-1)).foldl (fun m i=>kG m (L (l.getD i default) (l.getD (i+1) default) (u i) (hi i))) M=M++R/\R.map oT=alF mk 0 (-1) (-1) (kK f l)/\∀z∈R,∃a c u hi,a<c/\z=L a c u hi:=by
 cases J:l.length with
 |zero=>
  refine⟨[],XU,?_,XU⟩;have:kK f l=[]:=by unfold kK;rw[J];rfl
  rw[this];rfl
 |succ n=>
  have O:=bTk h u hi n 0 XY;rw[JW] at O;obtain⟨R,Z,V,S⟩:=merge hA ((List.range' 0 n).map (sgI l u hi)) M 0 (l.getD 0 default) (-1) (-1) (l.getD n default) (.inr rfl) O (fun z hz s G=>by
   obtain⟨i,r,rfl⟩:=KY.1 G;rw[List.mem_range'_1] at r;exact hs z hz i XY) XY XY (fun s G=>by
   obtain⟨i,r,rfl⟩:=KY.1 G;rw[List.mem_range'_1] at r;exact I i XY)
  refine⟨R,?_,?_,S⟩
  ·rw[<- Z,List.foldl_map];show _=List.foldl (fun m i=>kG m (sgL L (sgI l u hi i))) (M++[]) _;rw[KJ];rfl
  ·rw[V];congr 1;unfold kK;rw[J,List.range_succ,List.map_append,List.map_map,<- List.range_eq_range'];congr 1
   ·refine List.map_congr_left fun i r=>?_
    have:=JD.1 r;show (l.getD i default,hi i,u i)=(l.getD i default,cond (decide (i+1<n+1)) (f (l.getD i default)) (-1, -1));rw[KS XY,QX,hf i XY]
   ·show [(l.getD n default,(-1:Int),(-1:Int))]=[(l.getD n default,cond (decide (n+1<n+1)) (f (l.getD n default)) (-1, -1))];rw[KG XY];rfl
theorem bJq (l:zzI) (n:Int):∀k,(∀j,pS l n k<=j->j<k->n<l.getD j default)/\(0<pS l n k->l.getD (pS l n k-1) default<=n):=by
 intro k
 induction k with
 |zero=>exact⟨fun j _ h=>absurd h (XZ _),fun h=>absurd h (Nat.lt_irrefl _)⟩
 |succ k f=>
  unfold pS;cases r:decide (n<l.getD k default) with
  |true=>
   rw[QX];refine⟨fun j u G=>?_,f.2⟩;rcases Nat.lt_or_ge j k with h|h
   ·exact f.1 j u h
   ·obtain rfl:j=k:=XY;exact JC r
  |false=>
   rw[QJ];refine⟨fun j u G=>XY,fun _=>?_⟩;have:=JR r;rw[Nat.add_sub_cancel];omega
theorem aFK (l:zzI) {j:Nat} (h:j<l.length):l.getD j default=l[j]:=by
 rw[QG,QL h];rfl
theorem aFx {l:zzI} (h:asc l) {i j:Nat} (u:i<=j) (r:j<l.length):l.getD i default<=l.getD j default:=by
 rcases Nat.lt_or_ge i j with f|f
 ·exact Int.le_of_lt (aA0 h f r)
 ·obtain rfl:i=j:=XY;exact Int.le_refl _
theorem aJO {l:zzI} (h:asc l) (n:Int):asc (kO l n)/\∀x,x∈kO l n↔x∈l\/x=n:=by
 obtain⟨L,J⟩:=bJq l n l.length;have I:=aRe l n l.length;unfold kO aC6;generalize pS l n l.length=i at L J I ⊢;cases hb:(decide (0<(i:Int)))&&(l.getD (i-1) default==n) with
 |true=>
  rw[QX];simp only[QU,JN,KI] at hb;obtain⟨b1,V⟩:=hb;refine⟨h,fun x=>⟨.inl,?_⟩⟩
  rintro (hx|rfl)
  ·exact hx
  ·rw[<- V];exact fJ XY
 |false=>
  rw[QJ];have r:∀a∈l.take i,a<n:=by
   intro a G;obtain⟨j,O,rfl⟩:=List.mem_take_iff_getElem.1 G;have hi:0<i:=XY;have e1:=J hi;have Z:l.getD (i-1) default≠n:=by
    intro e;rw[bN (show (0:Int)<(i:Int) by omega),KA] at hb;rw[JT] at hb;exact hb e
   have S:=aFx h (show j<=i-1 by omega) XY;rw[aFK l (show j<l.length by omega)] at S;omega
  have u:∀b∈l.drop i,n<b:=by
   intro b hb;obtain⟨j,O,rfl⟩:=List.mem_drop_iff_getElem.1 hb;have:=L (i+j) XY XY;rw[aFK l XY] at this;exact this
  constructor
  ·unfold asc;rw[List.pairwise_append];refine⟨List.Pairwise.sublist (List.take_sublist i l) h,List.pairwise_cons.2 ⟨u,List.Pairwise.sublist (List.drop_sublist i l) h⟩,?_⟩;intro a G b hb;rcases List.mem_cons.1 hb with rfl|hb
   ·exact r a G
   ·exact Int.lt_trans (r a G) (u b hb)
  ·intro x;have e:x∈l↔x∈l.take i\/x∈l.drop i:=by
    rw[<- KK,List.take_append_drop]
   rw[KK,List.mem_cons,e];constructor
   ·rintro (f|f|f)
    ·exact .inl (.inl f)
    ·exact .inr f
    ·exact .inl (.inr f)
   ·rintro ((f|f)|f)
    ·exact .inl f
    ·exact .inr (.inr f)
    ·exact .inr (.inl f)
def sdX (l:List aA) (x:Int):Prop:=∃r∈l,x=r.X\/x=aB (r.X+r.W)
def sdY (l:List aA) (y:Int):Prop:=∃r∈l,y=r.Y\/y=aB (r.Y+r.H)
theorem aH6 (r:aA) (l:List aA) (x:Int):sdX (r::l) x↔(x=r.X\/x=aB (r.X+r.W))\/sdX l x:=by unfold sdX;simp
theorem aH4 (r:aA) (l:List aA) (x:Int):sdY (r::l) x↔(x=r.Y\/x=aB (r.Y+r.H))\/sdY l x:=by unfold sdY;simp
theorem aH5 (x:Int):¬sdX [] x:=fun ⟨_,h,_⟩=>by cases h
theorem aH3 (x:Int):¬sdY [] x:=fun ⟨_,h,_⟩=>by cases h
theorem bFx (a b:List aA) (x:Int):sdX (a++b) x↔sdX a x\/sdX b x:=by
 induction a with
 |nil=>simp[aH5]
 |cons r a f=>rw[List.cons_append,aH6,aH6,f];simp only[or_assoc]
theorem bFw (a b:List aA) (x:Int):sdY (a++b) x↔sdY a x\/sdY b x:=by
 induction a with
 |nil=>simp[aH3]
 |cons r a f=>rw[List.cons_append,aH4,aH4,f];simp only[or_assoc]
theorem bPR:∀(l:List aA) (s:zzI×zzI),asc s.1->asc s.2->(asc (l.foldl qT s).1/\∀x,x∈(l.foldl qT s).1↔x∈s.1\/sdX l x)/\(asc (l.foldl qT s).2/\∀x,x∈(l.foldl qT s).2↔x∈s.2\/sdY l x):=by
 intro l
 induction l with
 |nil=>
  intro s u f;exact⟨⟨u,fun x=>⟨.inl,fun h=>h.elim id fun h=>absurd h (aH5 x)⟩⟩,f,fun x=>⟨.inl,fun h=>h.elim id fun h=>absurd h (aH3 x)⟩⟩
 |cons r l G=>
  intro s u f;obtain⟨a1,a2⟩:=aJO u r.X;obtain⟨a3,a4⟩:=aJO a1 (aB (r.X+r.W));obtain⟨b1,Z⟩:=aJO f r.Y;obtain⟨V,S⟩:=aJO b1 (aB (r.Y+r.H));obtain⟨⟨O,L⟩,J,I⟩:=G (qT s r) a3 V;rw[QI];refine⟨⟨O,fun x=>?_⟩,J,fun x=>?_⟩
  ·rw[L];show x∈kO (kO s.1 r.X) (aB (r.X+r.W))\/_↔_;rw[a4,a2,aH6];simp only[or_assoc]
  ·rw[I];show x∈kO (kO s.2 r.Y) (aB (r.Y+r.H))\/_↔_;rw[S,Z,aH4];simp only[or_assoc]
theorem bSY:∀(l:List aA) (s:zzI×zzI),(∀x,x∈(l.foldl oV s).1↔x∈s.1\/sdX l x)/\∀x,x∈(l.foldl oV s).2↔x∈s.2\/sdY l x:=by
 intro l
 induction l with
 |nil=>exact fun s=>⟨fun x=>⟨.inl,fun h=>h.elim id fun h=>absurd h (aH5 x)⟩,fun x=>⟨.inl,fun h=>h.elim id fun h=>absurd h (aH3 x)⟩⟩
 |cons r l f=>
  intro s;obtain⟨G,u⟩:=f (oV s r);rw[QI];refine⟨fun x=>?_,fun x=>?_⟩
  ·rw[G,aH6];simp only[oV,KK,List.mem_cons,List.not_mem_nil,or_false,or_assoc]
  ·rw[u,aH4];simp only[oV,KK,List.mem_cons,List.not_mem_nil,or_false,or_assoc]
theorem aPW:∀(ps:List Pce) (s:zzI×zzI),(∀x,x∈(ps.foldl iO s).1↔x∈s.1\/sdX (ps.flatMap Pce.Rects) x)/\∀x,x∈(ps.foldl iO s).2↔x∈s.2\/sdY (ps.flatMap Pce.Rects) x:=by
 intro ps
 induction ps with
 |nil=>exact fun s=>⟨fun x=>⟨.inl,fun h=>h.elim id fun h=>absurd h (aH5 x)⟩,fun x=>⟨.inl,fun h=>h.elim id fun h=>absurd h (aH3 x)⟩⟩
 |cons p ps u=>
  intro s;obtain⟨I,G⟩:=u (iO s p);obtain⟨r,f⟩:=bSY p.Rects s;rw[QI,List.flatMap_cons];refine⟨fun x=>?_,fun x=>?_⟩
  ·rw[I,bFx];show x∈(p.Rects.foldl oV s).1\/_↔_;rw[r,or_assoc]
  ·rw[G,bFw];show x∈(p.Rects.foldl oV s).2\/_↔_;rw[f,or_assoc]
theorem bTr:∀(ps:List Pce) (m:List aA),(ps.map Pce.Rects).foldl (fun m r=>m++r) m=m++ps.flatMap Pce.Rects:=by
 intro ps
 induction ps with
 |nil=>intro m;simp
 |cons p ps f=>
  intro m;rw[List.map_cons,QI,f,List.flatMap_cons,KP]
theorem bPS (ps:List Pce):iW ((ps.map Pce.Rects).foldl (fun m r=>m++r) [])=(eT (ps.foldl iO ([],[])).1,eT (ps.foldl iO ([],[])).2):=by
 rw[bTr,List.nil_append];obtain⟨⟨I,G⟩,u,f⟩:=bPR (ps.flatMap Pce.Rects) ([],[]) List.Pairwise.nil List.Pairwise.nil;obtain⟨e1,J⟩:=aPW ps ([],[]);refine Prod.ext ?_ ?_
 ·exact bCQ _ _ I (aBj _) fun x=>by rw[aBh,e1];exact G x
 ·exact bCQ _ _ u (aBj _) fun x=>by rw[aBh,J];exact f x
theorem bWA {l:List aA} {f g:aA->Bool} (h:∀r∈l,f r=g r):l.any f=l.any g:=by
 induction l with
 |nil=>rfl
 |cons r l u=>rw[List.any_cons,List.any_cons,h r (JJ ..),u fun x hx=>h x (QE _ hx)]
theorem aWI {x y u f:Int}:∀(ps:List Pce) (k:Nat),(∀p∈ps,∀r∈p.Rects,onR x y r=onR u f r)->qO x y ps k=qO u f ps k:=by
 intro ps
 induction ps with
 |nil=>intro k _;rfl
 |cons p ps G=>
  intro k h;unfold qO;rw[bWA (h p (JJ ..)),G (k+1) fun q I=>h q (QE _ I)]
theorem aNx {x y:Int} (ps:List Pce) (h:∀p∈ps,∀r∈p.Rects,onR x y r=false):lab ps x y= -1:=
 aWH x y ps 0 fun j u=>XQ.2 fun r f=>by rw[h _ (fJ u) r f];simp
theorem aL6 {l:zzI} (h:asc l) {t:Int} (r:t∈l) {j:Nat} (J:0<j) (u:j<l.length):t<l.getD j default↔t<=l.getD (j-1) default:=by
 obtain⟨i,hi,rfl⟩:=List.mem_iff_getElem.1 r;rw[<- aFK l hi];constructor
 ·intro G;rcases Nat.lt_or_ge i j with f|f
  ·exact aFx h XY XY
  ·have:=aFx h f hi;omega
 ·intro I;have:=aA0 h (show j-1<j by omega) u;omega
theorem bCP {l:zzI} (h:asc l) {t:Int} (f:t∈l):l.getD 0 default<=t:=by
 obtain⟨i,hi,rfl⟩:=List.mem_iff_getElem.1 f;rw[<- aFK l hi];exact aFx h (Nat.zero_le _) hi
theorem bCO {l:zzI} (h:asc l) {t:Int} (f:t∈l) {j:Nat} (r:j<l.length) (u:l.length<=j+1):t<=l.getD j default:=by
 obtain⟨i,hi,rfl⟩:=List.mem_iff_getElem.1 f;rw[<- aFK l hi];exact aFx h XY r
theorem bK8 {ys:zzI} (h:asc ys) {r:aA} (I:r.Y∈ys) (G:aB (r.Y+r.H)∈ys) {j:Nat} (u:0<j) (f:j<ys.length) (x:Int):onR x (ys.getD j default-1) r=onR x (ys.getD (j-1) default) r:=by
 have e1:=aL6 h I u f;have O:=aL6 h G u f;unfold onR;have L:decide (r.Y<=ys.getD j default-1)=decide (r.Y<=ys.getD (j-1) default):=by
  rw[decide_eq_decide];omega
 have J:decide (ys.getD j default-1<aB (r.Y+r.H))=decide (ys.getD (j-1) default<aB (r.Y+r.H)):=by
  rw[decide_eq_decide];omega
 rw[L,J]
theorem bK9 {xs:zzI} (h:asc xs) {r:aA} (I:r.X∈xs) (G:aB (r.X+r.W)∈xs) {j:Nat} (u:0<j) (f:j<xs.length) (y:Int):onR (xs.getD j default-1) y r=onR (xs.getD (j-1) default) y r:=by
 have e1:=aL6 h I u f;have O:=aL6 h G u f;unfold onR;have L:decide (r.X<=xs.getD j default-1)=decide (r.X<=xs.getD (j-1) default):=by
  rw[decide_eq_decide];omega
 have J:decide (xs.getD j default-1<aB (r.X+r.W))=decide (xs.getD (j-1) default<aB (r.X+r.W)):=by
  rw[decide_eq_decide];omega
 rw[L,J]
theorem aPc (ps:List Pce) (xs ys:zzI) {i j:Nat} (G:0<i) (u:0<j) (r:i<xs.length) (f:j<ys.length):eB (ps.map Pce.Rects) xs ys i j=lab ps (xs.getD (i-1) default) (ys.getD (j-1) default):=by
 unfold eB;rw[bN XY,bN XY,bN XY,bN XY];exact bOO _ _ ps 0
theorem aPb (ps:List Pce) (xs ys:zzI) {i j:Nat} (h:i=0\/j=0\/xs.length<=i\/ys.length<=j):eB (ps.map Pce.Rects) xs ys i j= -1:=by
 unfold eB;cases hb:((((decide (0<(i:Int)))&&(decide (0<(j:Int))))&&(decide ((i:Int)<(xs.length:Int))))&&(decide ((j:Int)<(ys.length:Int)))) with
 |false=>rfl
 |true=>
  simp only[QU,JN] at hb;omega
theorem aJm (ps:List Pce) (xs ys:zzI) (u:asc xs) (f:asc ys) (J:∀p∈ps,∀r∈p.Rects,r.X∈xs/\aB (r.X+r.W)∈xs) (I:∀p∈ps,∀r∈p.Rects,r.Y∈ys/\aB (r.Y+r.H)∈ys) {i j:Nat} (hi:i<xs.length) (L:j<ys.length):lab ps (xs.getD i default) (ys.getD j default)=eB (ps.map Pce.Rects) xs ys (i+1) (j+1):=by
 by_cases h:i+1<xs.length/\j+1<ys.length
 ·rw[aPc ps xs ys (show 0<i+1 by omega) (show 0<j+1 by omega) h.1 h.2,Nat.add_sub_cancel,Nat.add_sub_cancel]
 ·rw[aPb ps xs ys XY];refine aNx ps fun p hp r G=>?_
  unfold onR
  by_cases O:i+1<xs.length
  ·have:=bCO f (I p hp r G).2 L (show ys.length<=j+1 by omega);rw[bV (show ¬ys.getD j default<aB (r.Y+r.H) by omega),Bool.and_false]
  ·have:=bCO u (J p hp r G).2 hi (show xs.length<=i+1 by omega);rw[bV (show ¬xs.getD i default<aB (r.X+r.W) by omega),Bool.and_false];rfl
theorem bBy (ps:List Pce) (xs ys:zzI) (f:asc ys) (G:∀p∈ps,∀r∈p.Rects,r.Y∈ys/\aB (r.Y+r.H)∈ys) (J:∀y∈ys, -1000000000000<=y/\y<=1000000000000) {i j:Nat} (hi:i+1<xs.length) (I:j<ys.length):lab ps (xs.getD i default) (aB (ys.getD j default-1))=eB (ps.map Pce.Rects) xs ys (i+1) j:=by
 have hb:=J _ (fJ I);rw[dW XY XY]
 by_cases h:0<j
 ·rw[aPc ps xs ys (show 0<i+1 by omega) h hi I,Nat.add_sub_cancel];exact aWI ps 0 fun p hp r u=>bK8 f (G p hp r u).1 (G p hp r u).2 h I _
 ·obtain rfl:j=0:=XY;rw[aPb ps xs ys XY];refine aNx ps fun p hp r u=>?_
  have:=bCP f (G p hp r u).1;unfold onR;rw[bV (show ¬r.Y<=ys.getD 0 default-1 by omega),Bool.and_false];rfl
theorem bBx (ps:List Pce) (xs ys:zzI) (f:asc xs) (G:∀p∈ps,∀r∈p.Rects,r.X∈xs/\aB (r.X+r.W)∈xs) (J:∀x∈xs, -1000000000000<=x/\x<=1000000000000) {i j:Nat} (hi:i<xs.length) (I:j+1<ys.length):lab ps (aB (xs.getD i default-1)) (ys.getD j default)=eB (ps.map Pce.Rects) xs ys i (j+1):=by
 have hb:=J _ (fJ hi);rw[dW XY XY]
 by_cases h:0<i
 ·rw[aPc ps xs ys h (show 0<j+1 by omega) hi I,Nat.add_sub_cancel];exact aWI ps 0 fun p hp r u=>bK9 f (G p hp r u).1 (G p hp r u).2 h hi _
 ·obtain rfl:i=0:=XY;rw[aPb ps xs ys XY];refine aNx ps fun p hp r u=>?_
  have:=bCP f (G p hp r u).1;unfold onR;rw[bV (show ¬r.X<=xs.getD 0 default-1 by omega)];rfl
theorem bIT (ps:List Pce) (xs ys:zzI) (G:asc xs) (f:asc ys) (V:∀p∈ps,∀r∈p.Rects,r.X∈xs/\aB (r.X+r.W)∈xs) (L:∀p∈ps,∀r∈p.Rects,r.Y∈ys/\aB (r.Y+r.H)∈ys) (J:∀y∈ys, -1000000000000<=y/\y<=1000000000000):∀n,n<=ys.length->((List.range' 0 n).foldl (rG (eB (ps.map Pce.Rects) xs ys) xs ys) []).map oT=(ys.take n).foldl (fun m y=>m++vC ps xs y) []/\∀z∈(List.range' 0 n).foldl (rG (eB (ps.map Pce.Rects) xs ys) xs ys) [],∃j,j<n/\∃a b I hi,a<b/\z=LX (ys.getD j default) a b I hi:=by
 intro n
 induction n with
 |zero=>intro _;exact⟨rfl,fun z u=>by cases u⟩
 |succ n ih=>
  intro hn;obtain⟨i1,O⟩:=ih XY;rw[List.range'_1_concat,JW,List.foldl_append,QI,List.foldl_nil];have ht:ys.take (n+1)=ys.take n++[ys.getD n default]:=by
   rw[List.take_add_one];simp[QG,show n<ys.length by omega]
  rw[ht,List.foldl_append,QI,List.foldl_nil,<- i1];generalize (List.range' 0 n).foldl (rG (eB (ps.map Pce.Rects) xs ys) xs ys) []=M at O ⊢;obtain⟨R,r1,r2,r3⟩:=aRS (bVj (ys.getD n default)) G (fun i=>eB (ps.map Pce.Rects) xs ys (i+1) n) (fun i=>eB (ps.map Pce.Rects) xs ys (i+1) (n+1)) (sd1 ps (ys.getD n default)) (fun i hi=>by
   show (lab ps (xs.getD i default) (ys.getD n default),lab ps (xs.getD i default) (aB (ys.getD n default-1)))=_;rw[aJm ps xs ys G f V L XY XY,bBy ps xs ys f L J hi XY]) (fun i hi=>by
   rw[<- aJm ps xs ys G f V L (show i<xs.length by omega) (show n<ys.length by omega),<- bBy ps xs ys f L J hi (show n<ys.length by omega)];exact⟨yM _ _ _,yM _ _ _⟩) M (fun z u i hi=>by
   obtain⟨j,Z,a,b,I,S,hab,rfl⟩:=O z (List.mem_of_getLast? u);have hne:=aA0 f Z (show n<ys.length by omega);unfold nG LX;have e:(ys.getD j default==ys.getD n default)=false:=by
    rw[JT];omega
   dsimp only;rw[e];cases I==eB (ps.map Pce.Rects) xs ys (i+1) n<;>cases S==eB (ps.map Pce.Rects) xs ys (i+1) (n+1)<;>cases b==xs.getD i default<;>rfl)
  have e:rG (eB (ps.map Pce.Rects) xs ys) xs ys M n=M++R:=r1;rw[e];refine⟨?_,fun z u=>?_⟩
  ·rw[List.map_append,r2];rfl
  ·rcases KK.1 u with u|u
   ·obtain⟨j,Z,h⟩:=O z u;exact⟨j,XY,h⟩
   ·obtain⟨a,c,I,hi,h1,h2⟩:=r3 z u;exact⟨n,XY,a,c,I,hi,h1,h2⟩
theorem bIS (ps:List Pce) (xs ys:zzI) (u:asc xs) (J:asc ys) (O:∀p∈ps,∀r∈p.Rects,r.X∈xs/\aB (r.X+r.W)∈xs) (Z:∀p∈ps,∀r∈p.Rects,r.Y∈ys/\aB (r.Y+r.H)∈ys) (bx:∀x∈xs, -1000000000000<=x/\x<=1000000000000) (M0:List Lin) (hM:∀z∈M0,∃y a b f hi,a<b/\z=LX y a b f hi):∀n,n<=xs.length->((List.range' 0 n).foldl (rF (eB (ps.map Pce.Rects) xs ys) xs ys) M0).map oT=(xs.take n).foldl (fun m x=>m++vB ps ys x) (M0.map oT)/\∀z∈(List.range' 0 n).foldl (rF (eB (ps.map Pce.Rects) xs ys) xs ys) M0,(∃y a b f hi,a<b/\z=LX y a b f hi)\/∃i,i<n/\∃a b f hi,z=LY (xs.getD i default) a b f hi:=by
 intro n
 induction n with
 |zero=>intro _;exact⟨rfl,fun z I=>.inl (hM z I)⟩
 |succ n ih=>
  intro hn;obtain⟨i1,S⟩:=ih XY;rw[List.range'_1_concat,JW,List.foldl_append,QI,List.foldl_nil];have ht:xs.take (n+1)=xs.take n++[xs.getD n default]:=by
   rw[List.take_add_one];simp[QG,show n<xs.length by omega]
  rw[ht,List.foldl_append,QI,List.foldl_nil,<- i1];generalize (List.range' 0 n).foldl (rF (eB (ps.map Pce.Rects) xs ys) xs ys) M0=M at S ⊢;obtain⟨R,r1,r2,r3⟩:=aRS (bVi (xs.getD n default)) J (fun j=>eB (ps.map Pce.Rects) xs ys n (j+1)) (fun j=>eB (ps.map Pce.Rects) xs ys (n+1) (j+1)) (sd2 ps (xs.getD n default)) (fun j L=>by
   show (lab ps (xs.getD n default) (ys.getD j default),lab ps (aB (xs.getD n default-1)) (ys.getD j default))=_;rw[aJm ps xs ys u J O Z XY XY,bBx ps xs ys u O bx XY L]) (fun j L=>by
   rw[<- aJm ps xs ys u J O Z (show n<xs.length by omega) (show j<ys.length by omega),<- bBx ps xs ys u O bx (show n<xs.length by omega) L];exact⟨yM _ _ _,yM _ _ _⟩) M (fun z I j L=>by
   rcases S z (List.mem_of_getLast? I) with ⟨y,a,b,f,G,hab,rfl⟩|⟨i,hi,a,b,f,G,rfl⟩
   ·have V:=aA0 J (show j<j+1 by omega) L;unfold nG LX LY;dsimp only;cases e1:b==xs.getD n default with
    |false=>cases f==eB (ps.map Pce.Rects) xs ys n (j+1)<;>cases G==eB (ps.map Pce.Rects) xs ys (n+1) (j+1)<;>rfl
    |true=>
    cases e2:y==ys.getD j default with
    |false=>cases f==eB (ps.map Pce.Rects) xs ys n (j+1)<;>cases G==eB (ps.map Pce.Rects) xs ys (n+1) (j+1)<;>rfl
    |true=>
    have e1':b=xs.getD n default:=by simpa using e1
    have e2':y=ys.getD j default:=by simpa using e2
    have e3:(y==ys.getD (j+1) default)=false:=by
     rw[JT];omega
    have e4:(a==xs.getD n default)=false:=by
     rw[JT];omega
    rw[e3,e4];cases f==eB (ps.map Pce.Rects) xs ys n (j+1)<;>cases G==eB (ps.map Pce.Rects) xs ys (n+1) (j+1)<;>rfl
   ·have V:=aA0 u hi (show n<xs.length by omega);unfold nG LY;have e:(xs.getD i default==xs.getD n default)=false:=by
     rw[JT];omega
    dsimp only;rw[e];cases f==eB (ps.map Pce.Rects) xs ys n (j+1)<;>cases G==eB (ps.map Pce.Rects) xs ys (n+1) (j+1)<;>rfl)
  have e:rF (eB (ps.map Pce.Rects) xs ys) xs ys M n=M++R:=r1;rw[e];refine⟨?_,fun z I=>?_⟩
  ·rw[List.map_append,r2];rfl
  ·rcases KK.1 I with I|I
   ·rcases S z I with h|⟨i,hi,h⟩
    ·exact .inl h
    ·exact .inr ⟨i,XY,h⟩
   ·obtain⟨a,c,f,hi,h1,h2⟩:=r3 z I;exact .inr ⟨n,XY,a,c,f,hi,h2⟩
def gdR (r:aA):Prop:= -4194304<=r.X/\ -4194304<=r.Y/\r.X<=4194304/\r.Y<=4194304/\0<=r.W/\r.W<=8388608/\0<=r.H/\r.H<=8388608
theorem bSX (ps:List Pce) (h:∀p∈ps,∀r∈p.Rects,gdR r):jT ps=fK ps:=by
 unfold jT yX;rw[bPS];obtain⟨e1,e2⟩:=aPW ps ([],[]);unfold fK;have hx:∀x,x∈eT (ps.foldl iO ([],[])).1↔sdX (ps.flatMap Pce.Rects) x:=fun x=>by
  rw[aBh,e1];simp
 have hy:∀x,x∈eT (ps.foldl iO ([],[])).2↔sdY (ps.flatMap Pce.Rects) x:=fun x=>by
  rw[aBh,e2];simp
 have J:=aBj (ps.foldl iO ([],[])).1;have I:=aBj (ps.foldl iO ([],[])).2;dsimp only;generalize eT (ps.foldl iO ([],[])).1=xs at hx J ⊢;generalize eT (ps.foldl iO ([],[])).2=ys at hy I ⊢;have Z:∀p∈ps,∀r∈p.Rects,r.X∈xs/\aB (r.X+r.W)∈xs:=fun p hp r f=>
  ⟨(hx _).2 ⟨r,List.mem_flatMap.2 ⟨p,hp,f⟩,.inl rfl⟩,(hx _).2 ⟨r,List.mem_flatMap.2 ⟨p,hp,f⟩,.inr rfl⟩⟩
 have V:∀p∈ps,∀r∈p.Rects,r.Y∈ys/\aB (r.Y+r.H)∈ys:=fun p hp r f=>
  ⟨(hy _).2 ⟨r,List.mem_flatMap.2 ⟨p,hp,f⟩,.inl rfl⟩,(hy _).2 ⟨r,List.mem_flatMap.2 ⟨p,hp,f⟩,.inr rfl⟩⟩
 have bx:∀x∈xs, -1000000000000<=x/\x<=1000000000000:=fun x u=>by
  obtain⟨r,f,G⟩:=(hx x).1 u;obtain⟨p,hp,f⟩:=List.mem_flatMap.1 f;obtain⟨g1,g2,g3,g4,g5,g6,g7,g8⟩:=h p hp r f;rw[dW XY XY] at G;omega
 have L:∀x∈ys, -1000000000000<=x/\x<=1000000000000:=fun x u=>by
  obtain⟨r,f,G⟩:=(hy x).1 u;obtain⟨p,hp,f⟩:=List.mem_flatMap.1 f;obtain⟨g1,g2,g3,g4,g5,g6,g7,g8⟩:=h p hp r f;rw[dW XY XY] at G;omega
 unfold yY;obtain⟨S,O⟩:=bIT ps xs ys J I Z V L ys.length (JX _);rw[List.take_length] at S;rw[<- S];generalize (List.range' 0 ys.length).foldl (rG (eB (ps.map Pce.Rects) xs ys) xs ys) []=M at O ⊢;have:=(bIS ps xs ys J I Z V bx M (fun z hz=>by
  obtain⟨j,_,a,b,lo,hi,h⟩:=O z hz;exact⟨_,a,b,lo,hi,h⟩) xs.length (JX _)).1
 rw[List.take_length] at this;exact this
theorem bS0 (ps:List Pce) {k:Nat} (h:(ps.flatMap Pce.Rects).length<=k):(fK ps).length<=2*k*(2*k)+2*k*(2*k):=by
 have O:∀(l:List Pce) (s:zzI×zzI),(l.foldl iO s).1.length=s.1.length+2*(l.flatMap Pce.Rects).length/\(l.foldl iO s).2.length=s.2.length+2*(l.flatMap Pce.Rects).length:=by
  intro l
  induction l with
  |nil=>intro s;exact⟨rfl,rfl⟩
  |cons p l r=>
   intro s;obtain⟨L,J⟩:=r (iO s p);obtain⟨j1,j2⟩:=bB1 s p.Rects s;rw[QI,List.flatMap_cons,QH,L,J];unfold iO;omega
 obtain⟨G,u⟩:=O ps ([],[]);rw[JZ,JW] at G u;have hx:=aBi (ps.foldl iO ([],[])).1;have hy:=aBi (ps.foldl iO ([],[])).2;rw[G] at hx;rw[u] at hy;unfold fK;generalize eT (ps.foldl iO ([],[])).1=xs at hx ⊢;generalize eT (ps.foldl iO ([],[])).2=ys at hy ⊢;have I:∀(f:Int->List Edg) (b:Nat),(∀y,(f y).length<=b)->∀(l:zzI) (m:List Edg),(l.foldl (fun m y=>m++f y) m).length<=m.length+l.length*b:=by
  intro f b hb l
  induction l with
  |nil=>intro m;simp
  |cons y l r=>
   intro m;have S:=r (m++f y);have h2:=hb y;rw[QI,QT,Nat.add_mul];rw[QH] at S;omega
 have V:=I (vC ps xs) xs.length (fun y=>aP8 ps xs y) ys [];have f2:=I (vB ps ys) ys.length (fun x=>aP7 ps ys x) xs (ys.foldl (fun m y=>m++vC ps xs y) []);rw[JZ] at V;have k1:ys.length*xs.length<=2*k*(2*k):=Nat.mul_le_mul XY XY;have Z:xs.length*ys.length<=2*k*(2*k):=Nat.mul_le_mul XY XY;show (xs.foldl (fun m x=>m++vB ps ys x) (ys.foldl (fun m y=>m++vC ps xs y) [])).length<=_;omega
theorem aFX {b:Bool} {x y:Int} (h:cond b x y=0) (hx:x≠0):b=false/\y=0:=by
 cases b with
 |false=>exact⟨rfl,h⟩
 |true=>exact absurd h hx
theorem aJh {x y:Int} (h:cond (x !=0) x y=0):x=0/\y=0:=by
 cases hb:(x !=0) with
 |false=>
  rw[hb] at h;exact⟨by simpa using hb,h⟩
 |true=>
  rw[hb] at h;rw[show x=0 from h] at hb;cases hb
theorem bBP {α:Type} {f:α->Int}:∀{l:List α},yR f l=0->∀x∈l,f x=0
 |[],_,x,hx=>by cases hx
 |y::l,h,x,hx=>by
  obtain⟨u,r⟩:=aJh h;rcases List.mem_cons.1 hx with rfl|hx
  ·exact u
  ·exact bBP r x hx
theorem aRh {nm mt:ByteArray} {g gr:Int} {R C M:List aA} (h:lK nm mt g gr R C M=0):R.length<=12/\C.length<=12/\M.length<=12:=by
 unfold lK at h;obtain⟨_,h⟩:=aFX h XY;obtain⟨_,h⟩:=aFX h XY;obtain⟨f,_⟩:=aFX h XY;simp only[QC,QF] at f;omega
def aPS (p:Pce):Prop:=(∀r∈p.Rects,gdR r)/\p.Rects.length<=12/\p.Cuts.length<=12/\p.Forms.length<=12
theorem bEw {r:aA} (h:kJ r=true):gdR r:=by
 unfold kJ at h;rw[pI] at h;have:=o7 h;unfold gdR;omega
theorem bJu {p:Pce} (h:uI p=0):aPS p:=by
 unfold uI k7 mvS at h;obtain⟨u,h⟩:=aFX h XY;simp only[Bool.not_eq_false'] at u;refine⟨fun r G=>bEw (JG.1 u r G),?_⟩;cases f:((p.Rects.length:Int)==0) with
 |true=>
  rw[f] at h;exact aRh h
 |false=>
  rw[f] at h;have:=aRh h;simpa only[KO] using this
theorem aBa {nm mt:ByteArray} {g gr w h:Int} {cl us:List aA} {ps:List Pce} (f:jK nm mt g gr w h cl us ps=0):ps.length<=8/\∀p∈ps,aPS p:=by
 unfold jK aES at f;obtain⟨_,I⟩:=aJh f;obtain⟨G,u⟩:=aFX I XY;obtain⟨r,_⟩:=aJh u;simp only[QF] at G;exact⟨XY,fun p hp=>bJu (bBP r p hp)⟩
theorem bQo {ps:List Pce} {k:Nat} (h:∀p∈ps,p.Rects.length<=k):(ps.flatMap Pce.Rects).length<=ps.length*k:=by
 induction ps with
 |nil=>simp
 |cons p ps f=>
  have G:=h p (JJ ..);have u:=f fun q r=>h q (QE _ r)
  rw[List.flatMap_cons,QH,QT,Nat.add_mul];omega
theorem tW {nm mt:ByteArray} {g gr w h:Int} {cl us:List aA} {ps:List Pce} (r:jK nm mt g gr w h cl us ps=0):aCe ps/\jT ps=fK ps/\(fK ps).length<=500000/\∀p∈ps,aPS p:=by
 obtain⟨I,f⟩:=aBa r;have G:=bQo (ps:=ps) (k:=12) fun p hp=>(f p hp).2.1
 have u:=bS0 ps (k:=96) XY;exact⟨⟨XY,fun p hp=>by have:=(f p hp).2.1;omega⟩,bSX ps fun p hp=>(f p hp).1,XY,f⟩
def inB (x:Int):Prop:= -1000000000000<=x/\x<=1000000000000
def okE (e:Edg):Prop:=(e.qau=e.qav/\e.qaq<e.qar\/e.qaq=e.qar/\e.qau<e.qav)/\inB e.qaq/\inB e.qau/\inB e.qar/\inB e.qav
theorem bWF {mk:Int->Int->Int->Int->Edg} {B:Int->Prop}:∀(l:List (Int×Int×Int)) (b one f:Int),(l.Pairwise fun x y=>x.1<y.1)->(∀x∈l,B x.1)->(one=f\/(B b/\∀x∈l,b<x.1))->∀e∈alF mk b one f l,∃a c u v,B a/\B c/\a<c/\e=mk a c u v:=by
 intro l
 induction l with
 |nil=>intro b one f _ _ _ e he;cases he
 |cons x l J=>
  intro b one f hp S hb e he;obtain⟨n,a,c⟩:=x;obtain⟨V,I⟩:=List.pairwise_cons.1 hp;have O:B n:=S _ (JJ ..);have r:∀x∈l,B x.1:=fun x hx=>S x (QE _ hx)
  unfold alF at he;cases L:(a==one)&&(c==f) with
  |true=>
   rw[L,QX] at he;exact J b one f I r (hb.imp id fun h=>⟨h.1,fun x hx=>h.2 x (QE _ hx)⟩) e he
  |false=>
   rw[L,QJ] at he;rcases KK.1 he with he|he
   ·cases ho:one==f with
    |true=>rw[ho] at he;cases he
    |false=>
     rw[ho,QJ,JB] at he;have G:one≠f:=by simpa using ho
     rcases hb with h|h
     ·exact absurd h G
     ·exact⟨b,n,one,f,h.1,O,h.2 _ (JJ ..),he⟩
   ·exact J n a c I r (.inr ⟨O,fun x hx=>V x hx⟩) e he
theorem aQt {mk:Int->Int->Int->Int->Edg} {B:Int->Prop} {l:zzI} (G:asc l) (J:∀x∈l,B x) (f:Int->Int×Int):∀e∈alF mk 0 (-1) (-1) (kK f l),∃a c u v,B a/\B c/\a<c/\e=mk a c u v:=by
 refine bWF _ _ _ _ ?_ (fun x hx=>?_) (.inl rfl)
 ·unfold kK;rw[List.pairwise_map];refine List.Pairwise.imp_of_mem (fun {i j} hi I r=>?_) List.pairwise_lt_range;exact aA0 G r (JD.1 I)
 ·unfold kK at hx;obtain⟨i,hi,rfl⟩:=KY.1 hx;exact J _ (fJ (JD.1 hi))
theorem bNW (z b n u v:Int):(pW z b n u v).qaq=b/\(pW z b n u v).qau=z/\(pW z b n u v).qar=n/\(pW z b n u v).qav=z:=by
 unfold pW gV;dsimp only;cases decide (u<0)||decide (0<=v)&&decide (v<u)<;>exact⟨rfl,rfl,rfl,rfl⟩
theorem bNV (z b n u v:Int):(pV z b n u v).qaq=z/\(pV z b n u v).qau=b/\(pV z b n u v).qar=z/\(pV z b n u v).qav=n:=by
 unfold pV gV;dsimp only;cases decide (u<0)||decide (0<=v)&&decide (v<u)<;>exact⟨rfl,rfl,rfl,rfl⟩
theorem bBH {α β:Type} (f:α->List β) (e:β):∀(l:List α) (m:List β),e∈l.foldl (fun m y=>m++f y) m->e∈m\/∃y∈l,e∈f y:=by
 intro l
 induction l with
 |nil=>intro m h;exact .inl h
 |cons y l r=>
  intro m h;rcases r _ h with h|⟨x,hx,h⟩
  ·rcases KK.1 h with h|h
   ·exact .inl h
   ·exact .inr ⟨y,JJ ..,h⟩
  ·exact .inr ⟨x,QE _ hx,h⟩
theorem bSZ (ps:List Pce) (h:∀p∈ps,∀r∈p.Rects,gdR r):∀e∈fK ps,okE e:=by
 obtain⟨e1,e2⟩:=aPW ps ([],[]);have bx:∀x∈eT (ps.foldl iO ([],[])).1,inB x:=fun x hx=>by
  rw[aBh,e1] at hx;obtain⟨r,f,G⟩:=hx.resolve_left (fun h=>by cases h);obtain⟨p,hp,f⟩:=List.mem_flatMap.1 f;obtain⟨g1,g2,g3,g4,g5,g6,g7,g8⟩:=h p hp r f;rw[dW XY XY] at G;unfold inB;omega
 have I:∀x∈eT (ps.foldl iO ([],[])).2,inB x:=fun x hx=>by
  rw[aBh,e2] at hx;obtain⟨r,f,G⟩:=hx.resolve_left (fun h=>by cases h);obtain⟨p,hp,f⟩:=List.mem_flatMap.1 f;obtain⟨g1,g2,g3,g4,g5,g6,g7,g8⟩:=h p hp r f;rw[dW XY XY] at G;unfold inB;omega
 have ax:=aBj (ps.foldl iO ([],[])).1;have ay:=aBj (ps.foldl iO ([],[])).2;intro e he;unfold fK at he;rcases bBH _ e _ _ he with he|⟨x,hx,he⟩
 ·rcases bBH _ e _ _ he with he|⟨y,hy,he⟩
  ·cases he
  ·obtain⟨a,c,u,v,h1,Z,V,rfl⟩:=aQt (mk:=pW y) ax bx _ e he;obtain⟨S,O,L,J⟩:=bNW y a c u v;unfold okE;rw[S,O,L,J];exact⟨.inl ⟨rfl,V⟩,h1,I y hy,Z,I y hy⟩
 ·obtain⟨a,c,u,v,h1,Z,V,rfl⟩:=aQt (mk:=pV x) ay I _ e he;obtain⟨S,O,L,J⟩:=bNV x a c u v;unfold okE;rw[S,O,L,J];exact⟨.inr ⟨rfl,V⟩,bx x hx,h1,bx x hx,Z⟩
def oF (r f:Int):Int×Int×Int×Int×Int×Int:=(1,r,f,0,0,0)
def oG (r f:Int):Int×Int×Int×Int×Int×Int:=(2,r,f,0,0,0)
def k9 (u G f r:Int):Int:=mi 720 (aB (Int.tdiv (aB ((aB ((aB (f-u))+r))-G)) 2))
def sJ (I G r f u:Int):Int×Int:=cond (G==f) ((aB (r-u),f)) ((r,aB (f-u)))
def qX:Nat->Nat->Nat->Canon UU:=fun o b r=>cond (Nat.beq b 0) ⟨[1,2,7,9,10,11,12],[2],[(.tmp 9,230,.bool),(.tmp 10,231,.op)],[],[]⟩ (cond (Nat.beq b 2) ⟨[1,2,7,9,10,11,12,13],[2],[(.tmp 9,230,.bool),(.tmp 10,231,.op)],[],[]⟩ (cond (Nat.beq b 4) ⟨[1,2,7,9,10,11,15],[2],[(.tmp 9,230,.bool),(.tmp 10,231,.op),(.tmp 11,232,.op)],[],[]⟩ (cond (Nat.beq b 6) ⟨[1,2,7,9,10,11,15,16,18,19],[2,16],[(.tmp 9,230,.bool),(.tmp 10,231,.op),(.tmp 11,232,.op)],[],[]⟩ (⟨[],[],[],[],[]⟩))))
def aYX (V S:ByteArray) (O L J I:Int) (G u:List aA) (r:List Pce) (Z:List Itm) (Q:List Opn->Int->Prop) (i0:List Itm->List Edg->Int->ByteArray->ByteArray->Int->Int->Int->Int->List aA->List aA->List Pce->List Bool->List Opn->Prop):Prop:=(let r0:=(sI V S O L J I G u r Z);((aDx V S O L J I G u r Z)/\cond (r0 !=0) (Q ([]) r0) ((let f:=(nR V S O L J I G u r);((aDz V S O L J I G u r)/\((0<=(f.1.length:Int)/\(f.1.length:Int)=(f.1.length:Int)/\(f.1.length:Int)*1<=140737488355328)/\i0 Z f.1 0 V S O L J I G u r (List.replicate ((f.1.length:Int).toNat) (false:Bool)) ([])))))))
def aYW (rec:List Itm->List Edg->Int->ByteArray->ByteArray->Int->Int->Int->Int->List aA->List aA->List Pce->List Bool->List Opn->Prop) (x0:List Itm->List Edg->Int->ByteArray->ByteArray->Int->Int->Int->Int->List aA->List aA->List Pce->List Bool->List Opn->Prop) (t1:List Itm) (u:List Edg) (f:Int) (aR aQ:ByteArray) (V Z O S:Int) (J L:List aA) (r:List Pce) (G:List Bool) (I:List Opn) (i1:List Itm->List Edg->Int->Int->ByteArray->ByteArray->Int->Int->Int->Int->List aA->List aA->List Pce->List Bool->List Opn->Prop):Prop:=cond (decide (f<(r.length:Int))) (i1 t1 u f 0 aR aQ V Z O S J L r G I) (x0 t1 u f aR aQ V Z O S J L r G I)
def aYY (Q:List Opn->Int->Prop) (t1:List Itm) (f:List Edg) (t12:Int) (aR aQ:ByteArray) (V Z O S:Int) (J L:List aA) (I:List Pce) (u:List Bool) (G:List Opn) (r:List Itm->List Edg->Int->ByteArray->ByteArray->Int->Int->Int->Int->List aA->List aA->List Pce->List Bool->List Opn->List Opn->Prop):Prop:=r t1 f 0 aR aQ V Z O S J L I u G ([])
def aYV (J:List Itm->List Edg->Int->Int->ByteArray->ByteArray->Int->Int->Int->Int->List aA->List aA->List Pce->List Bool->List Opn->Prop) (x0:List Itm->List Edg->Int->Int->ByteArray->ByteArray->Int->Int->Int->Int->List aA->List aA->List Pce->List Bool->List Opn->Prop) (t1:List Itm) (L:List Edg) (f r:Int) (aR aQ:ByteArray) (aV aU Z bA:Int) (S V:List aA) (G:List Pce) (O:List Bool) (I:List Opn):Prop:=(let e0:=(G.getD f.toNat default);((0<=f/\f<G.length)/\cond (decide (r<(e0.Forms.length:Int))) ((let e1:=(G.getD f.toNat default);(let u:=(e1.Forms.getD r.toNat default);(((0<=f/\f<G.length)/\(0<=r/\r<e1.Forms.length))/\(((I.length+([(Opn.mk 3 u.X u.Y u.W u.H 0)]).length)*48<=140737488355328)/\J t1 L f (aB (r+1)) aR aQ aV aU Z bA S V G O (I++([(Opn.mk 3 u.X u.Y u.W u.H 0)]))))))) (x0 t1 L f r aR aQ aV aU Z bA S V G O I)))
def bP6 (r:List Itm->List Edg->Int->ByteArray->ByteArray->Int->Int->Int->Int->List aA->List aA->List Pce->List Bool->List Opn->Prop) (x0:List Itm->List Edg->Int->ByteArray->ByteArray->Int->Int->Int->Int->List aA->List aA->List Pce->List Bool->List Opn->Prop) (t1:List Itm) (u:List Edg) (f t13:Int) (aR aQ:ByteArray) (Z aU S V:Int) (L O:List aA) (J:List Pce) (G:List Bool) (I:List Opn):Prop:=r t1 u (aB (f+1)) aR aQ Z aU S V L O J G I
def aYU (rec:List Itm->List Edg->Int->ByteArray->ByteArray->Int->Int->Int->Int->List aA->List aA->List Pce->List Bool->List Opn->List Opn->Prop) (x0:List Itm->List Edg->Int->ByteArray->ByteArray->Int->Int->Int->Int->List aA->List aA->List Pce->List Bool->List Opn->List Opn->Prop) (t1:List Itm) (Z:List Edg) (r:Int) (aR aQ:ByteArray) (aV aU bB bA:Int) (bD bC:List aA) (V:List Pce) (dA:List Bool) (S fE:List Opn) (i3:List Itm->List Edg->Int->Int->Int->ByteArray->ByteArray->Int->Int->Int->Int->List aA->List aA->List Pce->Int->Int->Int->Int->Int->List Bool->List Opn->List Opn->Prop):Prop:=cond (decide (r<(t1.length:Int))) ((let e0:=(t1.getD r.toNat default);((0<=r/\r<t1.length)/\(let f:=(oF e0.Lead_X e0.Lead_Y);(((S.length+([(Opn.mk f.1 f.2.1 f.2.2.1 f.2.2.2.1 f.2.2.2.2.1 f.2.2.2.2.2)]).length)*48<=140737488355328)/\cond (decide (0<=e0.Hole)) ((let e2:=(V.getD e0.Piece.toNat default);((0<=e0.Piece/\e0.Piece<V.length)/\(let u:=(e2.Cuts.getD e0.Hole.toNat default);((0<=e0.Hole/\e0.Hole<e2.Cuts.length)/\(let O:=(oF u.X u.Y);(let L:=(oG (aB (u.X+u.W)) u.Y);(let J:=(oG (aB (u.X+u.W)) (aB (u.Y+u.H)));(let I:=(oG u.X (aB (u.Y+u.H)));(let G:=(oG u.X u.Y);((((S++([(Opn.mk f.1 f.2.1 f.2.2.1 f.2.2.2.1 f.2.2.2.2.1 f.2.2.2.2.2)])).length+([(Opn.mk O.1 O.2.1 O.2.2.1 O.2.2.2.1 O.2.2.2.2.1 O.2.2.2.2.2),(Opn.mk L.1 L.2.1 L.2.2.1 L.2.2.2.1 L.2.2.2.2.1 L.2.2.2.2.2),(Opn.mk J.1 J.2.1 J.2.2.1 J.2.2.2.1 J.2.2.2.2.1 J.2.2.2.2.2),(Opn.mk I.1 I.2.1 I.2.2.1 I.2.2.2.1 I.2.2.2.2.1 I.2.2.2.2.2),(Opn.mk G.1 G.2.1 G.2.2.1 G.2.2.2.1 G.2.2.2.2.1 G.2.2.2.2.2)]).length)*48<=140737488355328)/\rec t1 Z (aB (r+1)) aR aQ aV aU bB bA bD bC V dA ((S++([(Opn.mk f.1 f.2.1 f.2.2.1 f.2.2.2.1 f.2.2.2.2.1 f.2.2.2.2.2)]))++([(Opn.mk O.1 O.2.1 O.2.2.1 O.2.2.2.1 O.2.2.2.2.1 O.2.2.2.2.2),(Opn.mk L.1 L.2.1 L.2.2.1 L.2.2.2.1 L.2.2.2.2.1 L.2.2.2.2.2),(Opn.mk J.1 J.2.1 J.2.2.1 J.2.2.2.1 J.2.2.2.2.1 J.2.2.2.2.2),(Opn.mk I.1 I.2.1 I.2.2.1 I.2.2.2.1 I.2.2.2.2.1 I.2.2.2.2.2),(Opn.mk G.1 G.2.1 G.2.2.1 G.2.2.2.1 G.2.2.2.2.1 G.2.2.2.2.2)])) fE))))))))))) (i3 t1 Z r e0.Joints 0 aR aQ aV aU bB bA bD bC V e0.Piece e0.Hole e0.Joints e0.Lead_X e0.Lead_Y dA (S++([(Opn.mk f.1 f.2.1 f.2.2.1 f.2.2.2.1 f.2.2.2.2.1 f.2.2.2.2.2)])) fE)))))) (x0 t1 Z r aR aQ aV aU bB bA bD bC V dA S fE)
def bP5 (Q:List Opn->Int->Prop) (t1:List Itm) (G:List Edg) (u:Int) (aR aQ:ByteArray) (Z aU S V:Int) (L O:List aA) (J:List Pce) (I:List Bool) (r f:List Opn):Prop:=(((r.length+f.length)*48<=140737488355328)/\Q (r++f) 0)
def aYT (J:List Itm->List Edg->Int->Int->Int->ByteArray->ByteArray->Int->Int->Int->Int->List aA->List aA->List Pce->Int->Int->Int->Int->Int->List Bool->List Opn->List Opn->Prop) (x0:List Itm->List Edg->Int->Int->Int->ByteArray->ByteArray->Int->Int->Int->Int->List aA->List aA->List Pce->Int->Int->Int->Int->Int->List Bool->List Opn->List Opn->Prop) (t1:List Itm) (I:List Edg) (u r f:Int) (aR aQ:ByteArray) (aV aU bB bA:Int) (bD bC:List aA) (bI:List Pce) (kC kX kW kV kU:Int) (Z:List Bool) (cZ fE:List Opn):Prop:=cond (decide (f<(I.length:Int))) ((let e0:=(I.getD f.toNat default);((0<=f/\f<I.length)/\cond (e0.A !=kC) ((let e1:=(I.getD f.toNat default);((0<=f/\f<I.length)/\cond (e1.B !=kC) (J t1 I u r (aB (f+1)) aR aQ aV aU bB bA bD bC bI kC kX kW kV kU Z cZ fE) (((0<=f/\f<Z.length)/\cond (Z.getD f.toNat default) (J t1 I u r (aB (f+1)) aR aQ aV aU bB bA bD bC bI kC kX kW kV kU Z cZ fE) (((0<=f/\f<Z.length)/\(let G:=(I.getD f.toNat default);((0<=f/\f<I.length)/\cond (decide (0<r)) ((let r3:=(k9 G.qaq G.qau G.qar G.qav);(let r4:=(sJ G.qaq G.qau G.qar G.qav r3);(let O:=(oF G.qaq G.qau);(let L:=(oG r4.1 r4.2);(((cZ.length+([(Opn.mk O.1 O.2.1 O.2.2.1 O.2.2.2.1 O.2.2.2.2.1 O.2.2.2.2.2),(Opn.mk L.1 L.2.1 L.2.2.1 L.2.2.2.1 L.2.2.2.2.1 L.2.2.2.2.2)]).length)*48<=140737488355328)/\cond (decide (0<r3)) ((let r7:=(oF r4.1 r4.2);(((fE.length+([(Opn.mk r7.1 r7.2.1 r7.2.2.1 r7.2.2.2.1 r7.2.2.2.2.1 r7.2.2.2.2.2),(Opn.mk 4 G.qar G.qav 0 0 0)]).length)*48<=140737488355328)/\J t1 I u (aB (r-1)) (aB (f+1)) aR aQ aV aU bB bA bD bC bI kC kX kW kV kU (Z.set f.toNat true) (cZ++([(Opn.mk O.1 O.2.1 O.2.2.1 O.2.2.2.1 O.2.2.2.2.1 O.2.2.2.2.2),(Opn.mk L.1 L.2.1 L.2.2.1 L.2.2.2.1 L.2.2.2.2.1 L.2.2.2.2.2)])) (fE++([(Opn.mk r7.1 r7.2.1 r7.2.2.1 r7.2.2.2.1 r7.2.2.2.2.1 r7.2.2.2.2.2),(Opn.mk 4 G.qar G.qav 0 0 0)]))))) (J t1 I u (aB (r-1)) (aB (f+1)) aR aQ aV aU bB bA bD bC bI kC kX kW kV kU (Z.set f.toNat true) (cZ++([(Opn.mk O.1 O.2.1 O.2.2.1 O.2.2.2.1 O.2.2.2.2.1 O.2.2.2.2.2),(Opn.mk L.1 L.2.1 L.2.2.1 L.2.2.2.1 L.2.2.2.2.1 L.2.2.2.2.2)])) fE))))))) ((let r8:=(sJ G.qaq G.qau G.qar G.qav 0);(let r9:=(oF G.qaq G.qau);(let oO:=(oG r8.1 r8.2);(((cZ.length+([(Opn.mk r9.1 r9.2.1 r9.2.2.1 r9.2.2.2.1 r9.2.2.2.2.1 r9.2.2.2.2.2),(Opn.mk oO.1 oO.2.1 oO.2.2.1 oO.2.2.2.1 oO.2.2.2.2.1 oO.2.2.2.2.2)]).length)*48<=140737488355328)/\J t1 I u (aB (r-1)) (aB (f+1)) aR aQ aV aU bB bA bD bC bI kC kX kW kV kU (Z.set f.toNat true) (cZ++([(Opn.mk r9.1 r9.2.1 r9.2.2.1 r9.2.2.2.1 r9.2.2.2.2.1 r9.2.2.2.2.2),(Opn.mk oO.1 oO.2.1 oO.2.2.1 oO.2.2.2.1 oO.2.2.2.2.1 oO.2.2.2.2.2)])) fE)))))))))))))) (((0<=f/\f<Z.length)/\cond (Z.getD f.toNat default) (J t1 I u r (aB (f+1)) aR aQ aV aU bB bA bD bC bI kC kX kW kV kU Z cZ fE) (((0<=f/\f<Z.length)/\(let kI:=(I.getD f.toNat default);((0<=f/\f<I.length)/\cond (decide (0<r)) ((let r12:=(k9 kI.qaq kI.qau kI.qar kI.qav);(let r13:=(sJ kI.qaq kI.qau kI.qar kI.qav r12);(let S:=(oF kI.qaq kI.qau);(let V:=(oG r13.1 r13.2);(((cZ.length+([(Opn.mk S.1 S.2.1 S.2.2.1 S.2.2.2.1 S.2.2.2.2.1 S.2.2.2.2.2),(Opn.mk V.1 V.2.1 V.2.2.1 V.2.2.2.1 V.2.2.2.2.1 V.2.2.2.2.2)]).length)*48<=140737488355328)/\cond (decide (0<r12)) ((let qK:=(oF r13.1 r13.2);(((fE.length+([(Opn.mk qK.1 qK.2.1 qK.2.2.1 qK.2.2.2.1 qK.2.2.2.2.1 qK.2.2.2.2.2),(Opn.mk 4 kI.qar kI.qav 0 0 0)]).length)*48<=140737488355328)/\J t1 I u (aB (r-1)) (aB (f+1)) aR aQ aV aU bB bA bD bC bI kC kX kW kV kU (Z.set f.toNat true) (cZ++([(Opn.mk S.1 S.2.1 S.2.2.1 S.2.2.2.1 S.2.2.2.2.1 S.2.2.2.2.2),(Opn.mk V.1 V.2.1 V.2.2.1 V.2.2.2.1 V.2.2.2.2.1 V.2.2.2.2.2)])) (fE++([(Opn.mk qK.1 qK.2.1 qK.2.2.1 qK.2.2.2.1 qK.2.2.2.2.1 qK.2.2.2.2.2),(Opn.mk 4 kI.qar kI.qav 0 0 0)]))))) (J t1 I u (aB (r-1)) (aB (f+1)) aR aQ aV aU bB bA bD bC bI kC kX kW kV kU (Z.set f.toNat true) (cZ++([(Opn.mk S.1 S.2.1 S.2.2.1 S.2.2.2.1 S.2.2.2.2.1 S.2.2.2.2.2),(Opn.mk V.1 V.2.1 V.2.2.1 V.2.2.2.1 V.2.2.2.2.1 V.2.2.2.2.2)])) fE))))))) ((let r17:=(sJ kI.qaq kI.qau kI.qar kI.qav 0);(let qJ:=(oF kI.qaq kI.qau);(let qI:=(oG r17.1 r17.2);(((cZ.length+([(Opn.mk qJ.1 qJ.2.1 qJ.2.2.1 qJ.2.2.2.1 qJ.2.2.2.2.1 qJ.2.2.2.2.2),(Opn.mk qI.1 qI.2.1 qI.2.2.1 qI.2.2.2.1 qI.2.2.2.2.1 qI.2.2.2.2.2)]).length)*48<=140737488355328)/\J t1 I u (aB (r-1)) (aB (f+1)) aR aQ aV aU bB bA bD bC bI kC kX kW kV kU (Z.set f.toNat true) (cZ++([(Opn.mk qJ.1 qJ.2.1 qJ.2.2.1 qJ.2.2.2.1 qJ.2.2.2.2.1 qJ.2.2.2.2.2),(Opn.mk qI.1 qI.2.1 qI.2.2.1 qI.2.2.2.1 qI.2.2.2.2.1 qI.2.2.2.2.2)])) fE)))))))))))))) (x0 t1 I u r f aR aQ aV aU bB bA bD bC bI kC kX kW kV kU Z cZ fE)
def bP4 (r:List Itm->List Edg->Int->ByteArray->ByteArray->Int->Int->Int->Int->List aA->List aA->List Pce->List Bool->List Opn->List Opn->Prop) (x0:List Itm->List Edg->Int->ByteArray->ByteArray->Int->Int->Int->Int->List aA->List aA->List Pce->List Bool->List Opn->List Opn->Prop) (t1:List Itm) (u:List Edg) (f t18 t19:Int) (aR aQ:ByteArray) (aV aU V Z:Int) (O S:List aA) (L:List Pce) (kC kX kW kV kU:Int) (I:List Bool) (J G:List Opn):Prop:=r t1 u (aB (f+1)) aR aQ aV aU V Z O S L I J G
def aGN (F:Nat) (u:List Itm->List Edg->Int->Int->ByteArray->ByteArray->Int->Int->Int->Int->List aA->List aA->List Pce->List Bool->List Opn->Prop):Nat->List Itm->List Edg->Int->Int->ByteArray->ByteArray->Int->Int->Int->Int->List aA->List aA->List Pce->List Bool->List Opn->Prop
 |0,_,_,_,_,_,_,_,_,_,_,_,_,_,_,_=>False
 |n+1,I,G,r,f,aR,aQ,aV,aU,Z,bA,S,V,O,J,L=>aYV (aGN F u n) u I G r f aR aQ aV aU Z bA S V O J L
def aND (F:Nat) (rec:List Itm->List Edg->Int->ByteArray->ByteArray->Int->Int->Int->Int->List aA->List aA->List Pce->List Bool->List Opn->Prop) (x0:List Itm->List Edg->Int->ByteArray->ByteArray->Int->Int->Int->Int->List aA->List aA->List Pce->List Bool->List Opn->Prop) (t1:List Itm) (u:List Edg) (r f:Int) (aR aQ:ByteArray) (Z aU S V:Int) (L O:List aA) (J:List Pce) (G:List Bool) (I:List Opn):Prop:=aGN F (fun t1 u r f aR aQ Z aU S V L O J G I=>bP6 rec x0 t1 u r f aR aQ Z aU S V L O J G I) F t1 u r f aR aQ Z aU S V L O J G I
def aGM (F:Nat) (G:List Itm->List Edg->Int->Int->Int->ByteArray->ByteArray->Int->Int->Int->Int->List aA->List aA->List Pce->Int->Int->Int->Int->Int->List Bool->List Opn->List Opn->Prop):Nat->List Itm->List Edg->Int->Int->Int->ByteArray->ByteArray->Int->Int->Int->Int->List aA->List aA->List Pce->Int->Int->Int->Int->Int->List Bool->List Opn->List Opn->Prop
 |0,_,_,_,_,_,_,_,_,_,_,_,_,_,_,_,_,_,_,_,_,_,_=>False
 |n+1,J,I,u,r,f,aR,aQ,aV,aU,bB,bA,bD,bC,bI,Z,L,O,S,V,dA,cZ,fE=>aYT (aGM F G n) G J I u r f aR aQ aV aU bB bA bD bC bI Z L O S V dA cZ fE
def aNC (F:Nat) (rec:List Itm->List Edg->Int->ByteArray->ByteArray->Int->Int->Int->Int->List aA->List aA->List Pce->List Bool->List Opn->List Opn->Prop) (x0:List Itm->List Edg->Int->ByteArray->ByteArray->Int->Int->Int->Int->List aA->List aA->List Pce->List Bool->List Opn->List Opn->Prop) (t1:List Itm) (G:List Edg) (u r f:Int) (aR aQ:ByteArray) (aV aU bB bA:Int) (bD bC:List aA) (bI:List Pce) (S I J L O:Int) (Z:List Bool) (cZ V:List Opn):Prop:=aGM F (fun t1 G u r f aR aQ aV aU bB bA bD bC bI S I J L O Z cZ V=>bP4 rec x0 t1 G u r f aR aQ aV aU bB bA bD bC bI S I J L O Z cZ V) F t1 G u r f aR aQ aV aU bB bA bD bC bI S I J L O Z cZ V
def zT (F:Nat) (f:List Itm->List Edg->Int->ByteArray->ByteArray->Int->Int->Int->Int->List aA->List aA->List Pce->List Bool->List Opn->List Opn->Prop):Nat->List Itm->List Edg->Int->ByteArray->ByteArray->Int->Int->Int->Int->List aA->List aA->List Pce->List Bool->List Opn->List Opn->Prop
 |0,_,_,_,_,_,_,_,_,_,_,_,_,_,_,_=>False
 |n+1,G,u,r,aR,aQ,aV,aU,Z,bA,S,V,O,J,L,I=>aYU (zT F f n) f G u r aR aQ aV aU Z bA S V O J L I (aNC F (zT F f n) f)
def aIE (F:Nat) (Q:List Opn->Int->Prop) (t1:List Itm) (r:List Edg) (f:Int) (aR aQ:ByteArray) (Z aU S V:Int) (L O:List aA) (J:List Pce) (G:List Bool) (I u:List Opn):Prop:=zT F (fun t1 r f aR aQ Z aU S V L O J G I u=>bP5 Q t1 r f aR aQ Z aU S V L O J G I u) F t1 r f aR aQ Z aU S V L O J G I u
def wY (F:Nat) (f:List Itm->List Edg->Int->ByteArray->ByteArray->Int->Int->Int->Int->List aA->List aA->List Pce->List Bool->List Opn->Prop):Nat->List Itm->List Edg->Int->ByteArray->ByteArray->Int->Int->Int->Int->List aA->List aA->List Pce->List Bool->List Opn->Prop
 |0,_,_,_,_,_,_,_,_,_,_,_,_,_,_=>False
 |n+1,G,u,r,aR,aQ,aV,aU,V,Z,O,S,L,I,J=>aYW (wY F f n) f G u r aR aQ aV aU V Z O S L I J (aND F (wY F f n) f)
def aIF (F:Nat) (Q:List Opn->Int->Prop) (t1:List Itm) (r:List Edg) (f:Int) (aR aQ:ByteArray) (V Z O S:Int) (J L:List aA) (I:List Pce) (u:List Bool) (G:List Opn):Prop:=wY F (fun t1 r f aR aQ V Z O S J L I u G=>aYY Q t1 r f aR aQ V Z O S J L I u G (aIE F Q)) F t1 r f aR aQ V Z O S J L I u G
def aQE (F:Nat) (S O:ByteArray) (L J I G:Int) (u r:List aA) (f:List Pce) (V:List Itm) (Q:List Opn->Int->Prop):Prop:=aYX S O L J I G u r f V Q (aIF F Q)
def aAy:Nat->Nat->Nat->Canon UU:=fun o b r=>cond (Nat.beq b 0) ⟨[0,1,4,5],[],[],[],[]⟩ (⟨[],[],[],[],[]⟩)
def aYj (r f:List Opn) (Q:Bool->Prop) (u:List Opn->List Opn->Bool->Int->Prop):Prop:=cond ((r.length:Int) !=(f.length:Int)) (Q false) (u r f false 0)
def aYi (u:List Opn->List Opn->Bool->Int->Prop) (J:List Opn->List Opn->Bool->Int->Prop) (I:List Opn->List Opn->Bool->Int->Prop) (r t1:List Opn) (G:Bool) (f:Int):Prop:=cond (decide (f<(r.length:Int))) ((let e0:=(r.getD f.toNat default);((0<=f/\f<r.length)/\(let e1:=(t1.getD f.toNat default);((0<=f/\f<t1.length)/\cond (!((e0.Kind==e1.Kind)&&((e0.X==e1.X)&&((e0.Y==e1.Y)&&((e0.W==e1.W)&&((e0.H==e1.H)&&((e0.N==e1.N)&&true))))))) (J r t1 false f) (u r t1 G (aB (f+1)))))))) (I r t1 G f)
def bPe (Q:Bool->Prop) (u t1:List Opn) (f:Bool) (r:Int):Prop:=Q f
def bPd (Q:Bool->Prop) (u t1:List Opn) (r:Bool) (f:Int):Prop:=Q true
def aGT (F:Nat) (r:List Opn->List Opn->Bool->Int->Prop) (f:List Opn->List Opn->Bool->Int->Prop):Nat->List Opn->List Opn->Bool->Int->Prop
 |0,_,_,_,_=>False
 |n+1,J,I,G,u=>aYi (aGT F r f n) r f J I G u
def aNH (F:Nat) (Q:Bool->Prop) (u t1:List Opn) (r:Bool) (f:Int):Prop:=aGT F (fun u t1 r f=>bPe Q u t1 r f) (fun u t1 r f=>bPd Q u t1 r f) F u t1 r f
def aQJ (F:Nat) (r f:List Opn) (Q:Bool->Prop):Prop:=aYj r f Q (aNH F Q)
open Classical in
def eqB {α:Type} (a b:α):Bool:=decide (a=b)
open Classical in
theorem aFS {α:Type} {a b:α}:eqB a b=true↔a=b:=by unfold eqB;rw[JN]
theorem bBW {α:Type} (a:α):eqB a a=true:=aFS.2 rfl
def aMg (a b:List Opn):Prop:=a.length<=1000000000000
def aHJ (a b:List Opn):Bool:=eqB a b
theorem bSC (r s:Opn):((r.Kind==s.Kind)&&((r.X==s.X)&&((r.Y==s.Y)&&((r.W==s.W)&&((r.H==s.H)&&((r.N==s.N)&&true))))))=eqB r s:=by
 rw[Bool.eq_iff_iff,aFS];obtain⟨k,a,b,c,d,e⟩:=r;obtain⟨f,a',J,I,G,u⟩:=s;simp only[QU,KI,and_true,Opn.mk.injEq]
theorem bSD {α:Type} [Inhabited α] {a b:List α} (h:a.length=b.length):eqB a b=!((List.range a.length).any fun i=>!(eqB (a.getD i default) (b.getD i default))):=by
 rw[Bool.eq_iff_iff,aFS];constructor
 ·rintro rfl
  cases hb:(List.range a.length).any fun i=>!(eqB (a.getD i default) (a.getD i default)) with
  |false=>rfl
  |true=>
   obtain⟨i,_,hi⟩:=KH.1 hb;rw[bBW] at hi;cases hi
 ·intro hb;have f:((List.range a.length).any fun i=>!(eqB (a.getD i default) (b.getD i default)))=false:=by simpa using hb
  refine List.ext_getElem h fun i r u=>?_
  have:=XQ.1 f i (JD.2 r);have e:eqB (a.getD i default) (b.getD i default)=true:=by simpa using this
  have e:=aFS.1 e;rw[QG,QG,QL r,QL u] at e;exact e
theorem bKj (f r:List Opn) (h:aMg f r):∃F,∀Q:Bool->Prop,Q (aHJ f r)->aQJ F f r Q:=by
 have O:f.length<=1000000000000:=h;refine⟨f.length+1,fun Q u=>?_⟩;unfold aHJ at u;show cond ((f.length:Int) !=(r.length:Int)) _ _;cases hb:(f.length:Int) !=(r.length:Int) with
 |true=>
  have I:f≠r:=fun e=>by
   rw[e] at hb;simp at hb
  have:eqB f r=false:=by
   cases z:eqB f r with
   |false=>rfl
   |true=>exact absurd (aFS.1 z) I
  rw[this] at u;exact u
 |false=>
  have G:f.length=r.length:=by
   have:(f.length:Int)=(r.length:Int):=by simpa using hb
   omega
  rw[bSD G] at u;rw[QJ];unfold aNH;refine kP f.length (fun i=>!(eqB (f.getD i default) (r.getD i default))) (Q false) (Q true) (fun n i=>aGT (f.length+1) _ _ n f r false i) (fun n i hi hx J=>?_) (fun n hy=>?_) (f.length+1) XY (fun q=>by rw[q] at u;exact u) (fun q=>by rw[q] at u;exact u)
  ·show cond (decide ((i:Int)<(f.length:Int))) _ _;have L:aB ((i:Int)+1)=((i+1:Nat):Int):=by rw[dW XY XY];omega
   rw[bN XY,QX,QV,L];refine⟨⟨XY,XY⟩,⟨XY,XY⟩,?_⟩;rw[bSC];cases hb:!(eqB (f.getD i default) (r.getD i default)) with
   |true=>exact hx hb
   |false=>exact J hb
  ·show cond (decide ((f.length:Int)<(f.length:Int))) _ _;rw[bV XY,QJ];exact hy
def mV (e:Edg):Int:=k9 e.qaq e.qau e.qar e.qav
def aCo (e:Edg) (n:Int):Int×Int:=sJ e.qaq e.qau e.qar e.qav n
def edR (e:Edg) (b:Bool):List Opn×List Opn:=
 cond b ([mvO 1 e.qaq e.qau,mvO 2 (aCo e (mV e)).1 (aCo e (mV e)).2],cond (decide (0<mV e)) [mvO 1 (aCo e (mV e)).1 (aCo e (mV e)).2,mvO 4 e.qar e.qav] []) ([mvO 1 e.qaq e.qau,mvO 2 (aCo e 0).1 (aCo e 0).2],[])
abbrev aGG:=Int×List Bool×List Opn×List Opn
def rgF (es:List Edg) (p:Int) (s:aGG) (i:Nat):aGG:=
 cond ((((es.getD i default).A !=p)&&((es.getD i default).B !=p))||(s.2.1.getD i default)) s (aB (s.1-1),s.2.1.set i true,s.2.2.1++(edR (es.getD i default) (decide (0<s.1))).1,s.2.2.2++(edR (es.getD i default) (decide (0<s.1))).2)
def rgA (es:List Edg) (p:Int) (s:aGG):aGG:=(List.range' 0 es.length).foldl (rgF es p) s
def aYC (r:aA):List Opn:=[mvO 1 r.X r.Y,mvO 2 (aB (r.X+r.W)) r.Y,mvO 2 (aB (r.X+r.W)) (aB (r.Y+r.H)),mvO 2 r.X (aB (r.Y+r.H)),mvO 2 r.X r.Y]
abbrev bC9:=List Bool×List Opn×List Opn
def pZ (ps:List Pce) (es:List Edg) (t:bC9) (x:Itm):bC9:=
 cond (decide (0<=x.Hole)) (t.1,(t.2.1++[mvO 1 x.Lead_X x.Lead_Y])++aYC ((ps.getD x.Piece.toNat default).Cuts.getD x.Hole.toNat default),t.2.2)
  (rgA es x.Piece (x.Joints,t.1,t.2.1++[mvO 1 x.Lead_X x.Lead_Y],t.2.2)).2
def aEE (ps:List Pce) (es:List Edg) (l:List Itm):List Opn:=
 (l.foldl (pZ ps es) (List.replicate es.length false,stamps ps,[])).2.1++(l.foldl (pZ ps es) (List.replicate es.length false,stamps ps,[])).2.2
def aRV (ps:List Pce) (x:Itm):Prop:=0<=x.Piece/\x.Piece<ps.length/\x.Hole<(ps.getD x.Piece.toNat default).Cuts.length
theorem bB3 (e:Edg) (b:Bool):(edR e b).1.length<=2/\(edR e b).2.length<=2:=by
 unfold edR;cases b with
 |true=>
  rw[QX];cases decide (0<mV e)<;>exact⟨XU,XU⟩
 |false=>exact⟨XU,XU⟩
theorem bIW (es:List Edg) (p:Int):∀(l:List Nat) (s:aGG),(l.foldl (rgF es p) s).2.1.length=s.2.1.length/\(l.foldl (rgF es p) s).2.2.1.length<=s.2.2.1.length+2*l.length/\(l.foldl (rgF es p) s).2.2.2.length<=s.2.2.2.length+2*l.length:=by
 intro l
 induction l with
 |nil=>intro s;simp
 |cons i l f=>
  intro s;obtain⟨L,J,I⟩:=f (rgF es p s i);obtain⟨G,u⟩:=bB3 (es.getD i default) (decide (0<s.1));have r:(rgF es p s i).2.1.length=s.2.1.length/\(rgF es p s i).2.2.1.length<=s.2.2.1.length+2/\(rgF es p s i).2.2.2.length<=s.2.2.2.length+2:=by
   unfold rgF;cases (((es.getD i default).A !=p)&&((es.getD i default).B !=p))||(s.2.1.getD i default) with
   |true=>rw[QX];omega
   |false=>rw[QJ,QH,QH,JM];omega
  rw[QI,QT];omega
def aHg (S O:ByteArray) (L J I G:Int) (u r:List aA) (f:List Pce) (V:List Itm):Prop:=
 aDx S O L J I G u r f V/\aDz S O L J I G u r f/\(((sI S O L J I G u r f V) !=0)=false->(nR S O L J I G u r f).1.length<=2000000/\V.length<=1000/\f.length<=1000/\(∀p∈f,p.Forms.length<=2000000)/\∀x∈V,aRV f x)
def xN (S O:ByteArray) (L J I G:Int) (u r:List aA) (f:List Pce) (V:List Itm):List Opn×Int:=
 cond ((sI S O L J I G u r f V) !=0) ([],sI S O L J I G u r f V) (aEE f (nR S O L J I G u r f).1 V,0)
theorem bKe (y0 Z:ByteArray) (V S O L:Int) (J I:List aA) (G:List Pce) (r:List Itm) (h:aHg y0 Z V S O L J I G r):∃F,∀Q:List Opn->Int->Prop,Q ((xN y0 Z V S O L J I G r).1) ((xN y0 Z V S O L J I G r).2)->aQE F y0 Z V S O L J I G r Q:=by
 obtain⟨hc,hpe,hb⟩:=h;obtain⟨F,hF⟩:∃F:Nat,4000000<F:=⟨4000001,XY⟩;refine⟨F,fun Q hQ=>?_⟩;unfold xN at hQ;refine⟨hc,?_⟩;cases hz:(sI y0 Z V S O L J I G r) !=0 with
 |true=>
  rw[hz] at hQ;exact hQ
 |false=>
 rw[hz,QJ] at hQ;rw[QJ];obtain⟨g1,g2,hp,hfm,hr⟩:=hb hz;generalize hes:(nR y0 Z V S O L J I G).1=es at hQ g1;refine⟨hpe,⟨XY,rfl,by rw[hes];omega⟩,?_⟩;show aIF F Q r (nR y0 Z V S O L J I G).1 0 y0 Z V S O L J I G (List.replicate (((nR y0 Z V S O L J I G).1.length:Int).toNat) false) [];rw[hes,QV];have hct:(List.replicate es.length false).length=es.length:=KL;unfold aEE at hQ;generalize List.replicate es.length false=c0 at hQ hct ⊢;unfold aIF;refine qV G xM (fun i m=>m.length<=i*2000000) (fun m=>Q ((r.foldl (pZ G es) (c0,m,[])).2.1++(r.foldl (pZ G es) (c0,m,[])).2.2) 0)
  (fun n i m=>wY F _ n r es i y0 Z V S O L J I G c0 m) (fun i m hi hm=>?_) (fun n i m hi hm hw=>?_) (fun n m hm hq=>?_) F 0 [] XY XY XU hQ
 ·have:=hfm _ (fJ hi);rw[aMA];omega
 ·have hfl:=hfm _ (fJ hi);show cond (decide ((i:Int)<(G.length:Int))) _ _;rw[bN XY,QX];unfold aND;have hbi:0<=(i:Int)/\(i:Int)<G.length:=⟨XY,XY⟩;unfold xM at hw;refine qV (G.getD i default).Forms aBd (fun j k=>k.length<=m.length+j) (fun k=>wY F _ n r es ((i+1:Nat):Int) y0 Z V S O L J I G c0 k)
   (fun n j k=>aGN F _ n r es i j y0 Z V S O L J I G c0 k) (fun j k hj hk=>?_) (fun n j k hj hk f=>?_) (fun n k hk hq=>?_) F 0 m XY XY XY hw
  ·unfold aBd;rw[QH,QD];omega
  ·show (0<=(i:Int)/\(i:Int)<G.length)/\cond (decide ((j:Int)<((G.getD (i:Int).toNat default).Forms.length:Int))) _ _;refine⟨hbi,?_⟩;rw[QV,QV,bN XY,QX,cO hj XY];exact⟨⟨hbi,⟨XY,XY⟩⟩,by simp only[QT,JZ];omega,f⟩
  ·show (0<=(i:Int)/\(i:Int)<G.length)/\cond (decide ((((G.getD i default).Forms.length:Nat):Int)<((G.getD (i:Int).toNat default).Forms.length:Int))) _ _;refine⟨hbi,?_⟩;rw[QV,bV XY,QJ];show wY _ _ _ _ _ (aB ((i:Int)+1)) _ _ _ _ _ _ _ _ _ _ _;rw[cO hi XY];exact hq
 ·show cond (decide ((G.length:Int)<(G.length:Int))) _ _;rw[bV XY,QJ];have hm':m.length<=1000000000000:=XY;show aIE F Q r es 0 y0 Z V S O L J I G c0 m [];unfold aIE;refine qV r (pZ G es) (fun i t=>t.1.length=es.length/\t.2.1.length<=1000000000000+i*9000000/\t.2.2.length<=i*9000000) (fun t=>Q (t.2.1++t.2.2) 0)
   (fun n i t=>zT F _ n r es i y0 Z V S O L J I G t.1 t.2.1 t.2.2) (fun i t hi ht=>?_) (fun n i t hi ht hw=>?_) (fun n t ht hq=>?_) F 0 (c0,m,[]) XY XY ⟨hct,by simpa using hm',XU⟩ hq
  ·obtain⟨t0,t1,t2⟩:=ht;have e2:t.2.2.length<=(i+1)*9000000:=KU t2 (JY _ (Nat.le_succ i));have ha:=bIW es (r.getD i default).Piece (List.range' 0 es.length) ((r.getD i default).Joints,t.1,t.2.1++[mvO 1 (r.getD i default).Lead_X (r.getD i default).Lead_Y],t.2.2);rw[KE,QH,QD] at ha;unfold pZ;cases decide (0<=(r.getD i default).Hole) with
   |true=>
    rw[QX];refine⟨t0,?_,e2⟩;show ((t.2.1++[mvO 1 (r.getD i default).Lead_X (r.getD i default).Lead_Y])++aYC _).length<=_;rw[QH,QH,QD];show _+1+5<=_;omega
   |false=>
    rw[QJ];unfold rgA;dsimp only at ha;obtain⟨a0,a2,a3⟩:=ha;generalize List.foldl (rgF es (r.getD i default).Piece) ((r.getD i default).Joints,t.1,t.2.1++[mvO 1 (r.getD i default).Lead_X (r.getD i default).Lead_Y],t.2.2) (List.range' 0 es.length)=u at a0 a2 a3 ⊢;exact⟨a0.trans t0,XY,XY⟩
  ·obtain⟨t0,t1,t2⟩:=ht;obtain⟨p1,p2,k2⟩:=hr _ (fJ hi);show cond (decide ((i:Int)<(r.length:Int))) _ _;rw[bN XY,QX,QV,cO hi XY];refine⟨⟨XY,XY⟩,?_⟩;generalize r.getD i default=x at hw p1 p2 k2 ⊢;refine⟨by simp only[QT,JZ];omega,?_⟩;unfold pZ at hw;cases hh:decide (0<=x.Hole) with
   |true=>
    have hh':=JC hh;rw[hh,QX] at hw;rw[QX];refine⟨⟨p1,p2⟩,⟨hh',k2⟩,?_,hw⟩;rw[QH,QD];show (_+1+5)*48<=_;omega
   |false=>
    rw[hh,QJ] at hw;rw[QJ];unfold aNC;unfold rgA at hw;refine sN es.length (rgF es x.Piece) (fun j u=>u.2.1.length=es.length/\u.2.2.1.length<=t.2.1.length+1+2*j/\u.2.2.2.length<=t.2.2.length+2*j) (fun u=>zT F _ n r es ((i+1:Nat):Int) y0 Z V S O L J I G u.2.1 u.2.2.1 u.2.2.2)
     (fun n j u=>aGM F _ n r es i u.1 j y0 Z V S O L J I G x.Piece x.Hole x.Joints x.Lead_X x.Lead_Y u.2.1 u.2.2.1 u.2.2.2) (fun u j hj hu=>?_) (fun n j u hj hu f=>?_) (fun n u hu hq=>?_) F 0 (x.Joints,t.1,t.2.1++[mvO 1 x.Lead_X x.Lead_Y],t.2.2) XY XY ⟨t0,XU,XU⟩ hw
    ·obtain⟨u0,u1,u2⟩:=hu;obtain⟨h3,h4⟩:=bB3 (es.getD j default) (decide (0<u.1));unfold rgF;cases (((es.getD j default).A !=x.Piece)&&((es.getD j default).B !=x.Piece))||(u.2.1.getD j default) with
     |true=>rw[QX];omega
     |false=>rw[QJ,QH,QH,JM];omega
    ·obtain⟨u0,u1,u2⟩:=hu;have hbj:0<=(j:Int)/\(j:Int)<es.length:=⟨XY,XY⟩;have hbc:0<=(j:Int)/\(j:Int)<u.2.1.length:=⟨XY,XY⟩;have l1:(u.2.2.1.length+2)*48<=140737488355328:=XY;have l2:(u.2.2.2.length+2)*48<=140737488355328:=XY;show cond (decide ((j:Int)<(es.length:Int))) _ _;rw[bN XY,QX,QV,cO hj XY];refine⟨hbj,?_⟩;unfold rgF at f;cases cA:(es.getD j default).A !=x.Piece with
     |true=>
      rw[cA,KA] at f;refine⟨hbj,?_⟩;show cond ((es.getD j default).B !=x.Piece) _ _;cases cB:(es.getD j default).B !=x.Piece with
      |true=>
       rw[cB,Bool.true_or,QX] at f;exact f
      |false=>
       rw[cB] at f;rw[QJ];refine⟨hbc,?_⟩;show cond (u.2.1.getD j default) _ _;cases cc:u.2.1.getD j default with
       |true=>
        rw[cc] at f;exact f
       |false=>
        rw[cc] at f;simp only[Bool.or_self,QJ] at f;rw[QJ];refine⟨hbc,hbj,?_⟩;unfold edR at f;show cond (decide (0<u.1)) _ _;cases cu:decide (0<u.1) with
        |true=>
         rw[cu,QX] at f;rw[QX];refine⟨l1,?_⟩;show cond (decide (0<mV (es.getD j default))) _ _;cases cg:decide (0<mV (es.getD j default)) with
         |true=>
          rw[cg] at f;exact⟨l2,f⟩
         |false=>
          rw[cg] at f;dsimp only[cond_false] at f;rw[KJ] at f;exact f
        |false=>
         rw[cu,QJ] at f;dsimp only at f;rw[KJ] at f;exact⟨l1,f⟩
     |false=>
      rw[cA,Bool.false_and] at f;rw[QJ];refine⟨hbc,?_⟩;show cond (u.2.1.getD j default) _ _;cases cc:u.2.1.getD j default with
      |true=>
       rw[cc] at f;exact f
      |false=>
       rw[cc] at f;simp only[Bool.or_self,QJ] at f;rw[QJ];refine⟨hbc,hbj,?_⟩;unfold edR at f;show cond (decide (0<u.1)) _ _;cases cu:decide (0<u.1) with
       |true=>
        rw[cu,QX] at f;rw[QX];refine⟨l1,?_⟩;show cond (decide (0<mV (es.getD j default))) _ _;cases cg:decide (0<mV (es.getD j default)) with
        |true=>
         rw[cg] at f;exact⟨l2,f⟩
        |false=>
         rw[cg] at f;dsimp only[cond_false] at f;rw[KJ] at f;exact f
       |false=>
        rw[cu,QJ] at f;dsimp only at f;rw[KJ] at f;exact⟨l1,f⟩
    ·show cond (decide ((es.length:Int)<(es.length:Int))) _ _;rw[bV XY,QJ];show zT _ _ _ _ _ (aB ((i:Int)+1)) _ _ _ _ _ _ _ _ _ _ _ _;rw[cO hi XY];exact hq
  ·obtain⟨t0,t1,t2⟩:=ht;show cond (decide ((r.length:Int)<(r.length:Int))) _ _;rw[bV XY,QJ];exact⟨XY,hq⟩
theorem bOL {l:List Sta} {z:Sta} (f:l.length<=1000000000) (h:l.getLast?=some z):l.getD (aB ((l.length:Int)-1)).toNat default=z:=by
 rcases aMK l with rfl|⟨m,y,rfl⟩
 ·cases h
 ·rw[List.getLast?_concat] at h;obtain rfl:=QW h;rw[QH,QD] at f ⊢;rw[dW XY XY,show (((m.length+1:Nat):Int)-1).toNat=m.length by omega];exact aJU m y []
theorem aRN (nm mt:ByteArray) (g gr w h:Int) (cl us:List aA) (ps:List Pce) (l:List Itm):iE nm mt g gr w h cl us ps l=eU nm mt g gr w h cl us ps l:=by
 unfold iE eU dK;rw[aIv];cases q:jK nm mt g gr w h cl us ps !=0 with
 |true=>
  simp only[QX];rw[q];rfl
 |false=>
  have V:jK nm mt g gr w h cl us ps=0:=by simpa using q
  obtain⟨f1,O,f3,f4⟩:=tW V;have Z:fA nm mt g gr w h cl us ps l=mF (eZ w h cl ps (fK ps)) l 0 (iI ps (fK ps)) []:=by
   unfold fA;rw[aQx,O]
  rw[Z];rw[QJ,QJ];show _=cond (decide (128<(l.length:Int))) (qH (iZ 0) 0 4) (oM (eZ w h cl ps (fK ps)) l 0 (iI ps (fK ps)));cases hl:decide (128<(l.length:Int)) with
  |true=>rfl
  |false=>
  have hl':=JR hl;rw[QJ,QJ];obtain⟨S,J,I,G⟩:=aRM (eZ w h cl ps (fK ps)) l 0 (iI ps (fK ps)) [];cases l with
  |nil=>
   show ((jD nm mt g gr w h cl us ps).1,(jD nm mt g gr w h cl us ps).2.1,(jD nm mt g gr w h cl us ps).2.2.1,(jD nm mt g gr w h cl us ps).2.2.2.1,(jD nm mt g gr w h cl us ps).2.2.2.2,(0:Int),(0:Int))=qH (iI ps (fK ps)) 0 0;unfold jD;rw[O];rfl
  |cons x r=>
   have e0:((((x::r).length:Nat):Int)==0)=false:=by
    rw[JT,QT];omega
   rw[e0,QJ];generalize mF (eZ w h cl ps (fK ps)) (x::r) 0 (iI ps (fK ps)) []=t at S J I G ⊢;cases L:t.2.2 !=0 with
   |true=>
    rw[J L];rfl
   |false=>
    obtain⟨f,h1,u⟩:=G L;rw[h1,QJ];rcases u with ⟨u,_⟩|⟨_,u⟩
    ·cases u
    ·rw[bOL (by rw[JZ] at I;omega) u];rfl
theorem bBu (nm mt:ByteArray) (g gr w h:Int) (cl us:List aA) (ps:List Pce) (l:List Itm):sI nm mt g gr w h cl us ps l=lQ nm mt g gr w h cl us ps l:=by
 unfold sI lQ;rw[aRN,bTj]
def aCd (ps:List Pce) (es:List Edg) (s:eS):Prop:=s.1.length=es.length/\s.2.1.length=ps.length/\s.2.2.1.length=ps.length/\∀i,i<ps.length->(s.2.1.getD i default).length=(ps.getD i default).Cuts.length
theorem bF3 (ps:List Pce) (es:List Edg):aCd ps es (iI ps es):=by
 refine⟨KL,KO ..,KL,fun i hi=>?_⟩;show ((ps.map aAC).getD i default).length=_;rw[QG,KM,QG,QL hi];show (List.replicate _ false).length=_;rw[KL];rfl
theorem aQv {w h:Int} {cl:List aA} {ps:List Pce} {es:List Edg} {s:eS} {x:Itm} (f:(eZ w h cl ps es s x).2.2.2.2.2=0):eZ w h cl ps es s x=kD es s.2.2.2.2.1.length s.1 s.2.1 s.2.2.1 s.2.2.2.1 s.2.2.2.2.1 x.Piece x.Hole x.Joints:=by
 have e:=bBh ByteArray.empty ByteArray.empty 0 0 w h cl [] ps es s.1 s.2.1 s.2.2.1 s.2.2.2.1 s.2.2.2.2.1 x.Piece x.Hole x.Joints x.Lead_X x.Lead_Y;unfold eZ at f ⊢;cases hb:(lI ByteArray.empty ByteArray.empty 0 0 w h cl [] ps es s.1 s.2.1 s.2.2.1 s.2.2.2.1 s.2.2.2.2.1 x.Piece x.Hole x.Joints x.Lead_X x.Lead_Y) !=0 with
 |true=>
  rw[hb,QX] at e;rw[e] at f;have r:lI ByteArray.empty ByteArray.empty 0 0 w h cl [] ps es s.1 s.2.1 s.2.2.1 s.2.2.2.1 s.2.2.2.2.1 x.Piece x.Hole x.Joints x.Lead_X x.Lead_Y=0:=f;rw[r] at hb;cases hb
 |false=>
  rw[hb,QJ] at e;exact e
theorem bF0 {w h:Int} {cl:List aA} {ps:List Pce} {es:List Edg} {s:eS} {x:Itm} (r:(eZ w h cl ps es s x).2.2.2.2.2=0):aCd ps es (eZ w h cl ps es s x):=by
 obtain⟨J,O,L,V,S,_,_⟩:=aJg r;obtain⟨I,G,u,f4,Z,f⟩:=aAQ J;rw[aQv r];unfold kD;cases decide (0<=x.Hole) with
 |true=>
  rw[QX];refine⟨I,?_,u,fun i hi=>?_⟩
  ·show (s.2.1.set x.Piece.toNat _).length=_;rw[JM];exact G
  ·show ((s.2.1.set x.Piece.toNat ((s.2.1.getD x.Piece.toNat default).set x.Hole.toNat true)).getD i default).length=_
   by_cases e:x.Piece.toNat=i
   ·subst e;rw[QG,List.getElem?_set_self XY];show ((s.2.1.getD x.Piece.toNat default).set x.Hole.toNat true).length=_;rw[JM];exact f _ hi
   ·rw[QG,List.getElem?_set_ne e,<- QG];exact f i hi
 |false=>
  rw[QJ];refine⟨?_,G,?_,f⟩
  ·show (sV es x.Piece s.1).length=_;unfold sV;rw[aSQ];exact I
  ·show (s.2.2.1.set _ _).length=_;rw[JM];exact u
theorem bIO {w h:Int} {cl:List aA} {ps:List Pce} {es:List Edg}:∀(l:List Itm) (i:Nat) (s:eS),aCd ps es s->(oM (eZ w h cl ps es) l i s).2.2.2.2.2.2=0->∃f,aCd ps es f/\oM (eZ w h cl ps es) l i s=qH f 0 0:=by
 intro l
 induction l with
 |nil=>intro i s G _;exact⟨s,G,rfl⟩
 |cons x l I=>
  intro i s G r;unfold oM at r ⊢;cases hb:(eZ w h cl ps es s x).2.2.2.2.2 !=0 with
  |true=>
   rw[hb,QX] at r;have u:(eZ w h cl ps es s x).2.2.2.2.2=0:=r;rw[u] at hb;cases hb
  |false=>
   rw[hb,QJ] at r;rw[QJ];exact I (i+1) _ (bF0 (by simpa using hb)) r
theorem bWO {w h:Int} {cl:List aA} {ps:List Pce} {es:List Edg}:∀(l:List Itm) (s:eS),accept (eZ w h cl ps es) l s->∀x∈l,aRV ps x:=by
 intro l
 induction l with
 |nil=>intro s _ x hx;cases hx
 |cons y l G=>
  intro s I x hx;obtain⟨L,J⟩:=I;rcases List.mem_cons.1 hx with rfl|hx
  ·obtain⟨_,r,f,_,u,_,_⟩:=aJg L;exact⟨r,f,u⟩
  ·exact G _ J x hx
theorem bPW {e:Edg} (h:okE e):0<=mV e:=by
 obtain⟨f,⟨S,O⟩,⟨L,J⟩,⟨I,G⟩,u,r⟩:=h;show 0<=mi 720 (aB (Int.tdiv (aB ((aB ((aB (e.qar-e.qaq))+e.qav))-e.qau)) 2));rw[dW (n:=e.qar-e.qaq) XY XY,dW (n:=e.qar-e.qaq+e.qav) XY XY,dW (n:=e.qar-e.qaq+e.qav-e.qau) XY XY,Int.tdiv_eq_ediv_of_nonneg XY,dW XY XY,miE];omega
theorem bS1 {e:Edg} (h:okE e) (b:Bool):edR e b=edO e b:=by
 have hp:=bPW h;unfold edR edO rC;cases b with
 |false=>rfl
 |true=>
  rw[QX,QX];show _=cond (mV e==0) _ _;cases r:mV e==0 with
  |true=>
   have f:mV e=0:=by simpa using r
   rw[bV (show ¬0<mV e by omega)];rfl
  |false=>
   have f:mV e≠0:=by simpa using r
   rw[bN (show 0<mV e by omega)];rfl
theorem bN5 (es:List Edg) (p:Int) {j:Nat}:∀(l:List Nat) (f:List Bool),j ∉ l->(l.foldl (oQ es p) f).getD j default=f.getD j default:=by
 intro l
 induction l with
 |nil=>intro f _;rfl
 |cons i l u=>
  intro f r;rw[QI,u _ fun h=>r (QE _ h)];unfold oQ;cases ofB (es.getD i default) p with
  |false=>rfl
  |true=>
   rw[QX,QG,List.getElem?_set_ne (fun e=>r (by rw[e];exact JJ ..)),<- QG]
theorem bFs {c:List Bool} {n:Nat} (f:n<c.length) (h:c.getD n default=true):c.set n true=c:=by
 rw[QG,QL f] at h;have r:c[n]=true:=h;rw[<- r];exact List.set_getElem_self f
theorem bIV (es:List Edg) (I:∀e∈es,okE e) (p:Int) (f:List Bool) (Z:f.length=es.length) (s:aDC):∀n,n<=es.length->(List.range' 0 n).foldl (rgF es p) (s.1,f,s.2.1,s.2.2)=(((List.range' 0 n).foldl (mW es f p) s).1,(List.range' 0 n).foldl (oQ es p) f,((List.range' 0 n).foldl (mW es f p) s).2.1,((List.range' 0 n).foldl (mW es f p) s).2.2):=by
 intro n
 induction n with
 |zero=>intro _;rfl
 |succ n L=>
  intro hn;have G:=bN5 es p (j:=n) (List.range' 0 n) f (by rw[List.mem_range'_1];omega);have r:=aSQ es p (List.range' 0 n) f;rw[List.range'_1_concat,JW,List.foldl_append,List.foldl_append,List.foldl_append,L XY,QI,List.foldl_nil,QI,List.foldl_nil,QI,List.foldl_nil];generalize (List.range' 0 n).foldl (mW es f p) s=u;generalize (List.range' 0 n).foldl (oQ es p) f=c at G r ⊢;have J:=bS1 (I _ (fJ (show n<es.length by omega)));unfold rgF mW oQ ofB aBv;dsimp only;rw[G,J];cases V:((es.getD n default).A==p)<;>cases S:((es.getD n default).B==p)<;>cases O:f.getD n default<;>simp only[bne,V,S,KC,Bool.not_false,Bool.and_true,Bool.and_false,Bool.or_true,XV,QX,QJ]
  all_goals (rw[bFs XY (by rw[G,O])])
theorem bO0 {w h:Int} {cl:List aA} {ps:List Pce} {es:List Edg} (f:∀e∈es,okE e) {t:aCw} {x:Itm} (r:(eZ w h cl ps es t.1 x).2.2.2.2.2=0):pZ ps es (t.1.1,t.2.1,t.2.2) x=((lB (eZ w h cl ps es) ps es t x).1.1,(lB (eZ w h cl ps es) ps es t x).2.1,(lB (eZ w h cl ps es) ps es t x).2.2):=by
 have u:=aQv r;obtain⟨I,_⟩:=aJg r;obtain⟨J,_⟩:=aAQ I;unfold pZ lB;cases G:decide (0<=x.Hole) with
 |true=>
  have e1:(eZ w h cl ps es t.1 x).1=t.1.1:=by
   rw[u];unfold kD;rw[G];rfl
  rw[QX,QX,e1];rfl
 |false=>
  have e1:(eZ w h cl ps es t.1 x).1=sV es x.Piece t.1.1:=by
   rw[u];unfold kD;rw[G];rfl
  rw[QJ,QJ,e1];have:=bIV es f x.Piece t.1.1 J (x.Joints,t.2.1++[mvO 1 x.Lead_X x.Lead_Y],t.2.2) es.length (JX _);unfold rgA aCh sV;dsimp only at this ⊢;rw[this]
theorem bO2 {w h:Int} {cl:List aA} {ps:List Pce} {es:List Edg} {t:aCw} {x:Itm}:(lB (eZ w h cl ps es) ps es t x).1=eZ w h cl ps es t.1 x:=by
 unfold lB;cases decide (0<=x.Hole)<;>rfl
theorem bO1 {w h:Int} {cl:List aA} {ps:List Pce} {es:List Edg} (f:∀e∈es,okE e):∀(l:List Itm) (t:aCw),accept (eZ w h cl ps es) l t.1->(l.foldl (pZ ps es) (t.1.1,t.2.1,t.2.2)).2=(l.foldl (lB (eZ w h cl ps es) ps es) t).2:=by
 intro l
 induction l with
 |nil=>intro t _;rfl
 |cons x l r=>
  intro t u;obtain⟨I,G⟩:=u;rw[QI,QI,bO0 f I];exact r _ (by rw[bO2];exact G)
theorem bKR {w h:Int} {cl:List aA} {ps:List Pce} {es:List Edg} (f:∀e∈es,okE e) {l:List Itm} (r:accept (eZ w h cl ps es) l (iI ps es)):aEE ps es l=y9 w h cl ps es l:=by
 have:=bO1 f l (iI ps es,stamps ps,[]) r;unfold aEE y9;show (l.foldl (pZ ps es) ((iI ps es).1,stamps ps,[])).2.1++_=_;have e:l.foldl (pZ ps es) (List.replicate es.length false,stamps ps,[])=l.foldl (pZ ps es) ((iI ps es).1,stamps ps,[]):=rfl;rw[e,this]
theorem bF4 {ps:List Pce} {b:Nat} (h:∀p∈ps,p.Forms.length<=b):(stamps ps).length<=ps.length*b:=by
 have f:∀(l:List Pce) (m:List Opn),(∀p∈l,p.Forms.length<=b)->(l.foldl xM m).length<=m.length+l.length*b:=by
  intro l
  induction l with
  |nil=>intro m _;simp
  |cons p l u=>
   intro m r;have I:=u (xM m p) fun q G=>r q (QE _ G)
   have J:=r p (JJ ..);rw[aMA] at I;rw[QI,QT,Nat.add_mul];omega
 have:=f ps [] h;rw[JZ,JW] at this;exact this
theorem bOZ {D:eS->Itm->eS} {ps:List Pce} {es:List Edg}:∀(l:List Itm) (t:aCw),(l.foldl (lB D ps es) t).2.1.length<=t.2.1.length+l.length*(6+2*es.length)/\(l.foldl (lB D ps es) t).2.2.length<=t.2.2.length+l.length*(6+2*es.length):=by
 intro l
 induction l with
 |nil=>intro t;simp
 |cons x l r=>
  intro t;obtain⟨G,u⟩:=r (lB D ps es t x);have h:(lB D ps es t x).2.1.length<=t.2.1.length+(6+2*es.length)/\(lB D ps es t x).2.2.length<=t.2.2.length+(6+2*es.length):=by
   have f:=bB2 es t.1.1 x.Piece (List.range' 0 es.length) (x.Joints,t.2.1++[mvO 1 x.Lead_X x.Lead_Y],t.2.2);rw[KE,QH,QD] at f;unfold lB;cases decide (0<=x.Hole) with
   |true=>
    rw[QX];refine⟨?_,Nat.le_add_right ..⟩;show ((t.2.1++[mvO 1 x.Lead_X x.Lead_Y])++aFG _).length<=_;rw[QH,QH,QD,aOn];omega
   |false=>
    rw[QJ];unfold aCh;dsimp only at f ⊢;omega
  rw[QI,QT,Nat.add_mul];omega
def bDb:Nat->Nat->Nat->Canon UU:=fun o b r=>⟨[],[],[],[],[]⟩
def bPr (S O:ByteArray) (L J I G:Int) (u r:List aA) (f:List Pce) (a1:List Itm) (Q:Bool->Prop):Prop:=(let Z:=(oD S O L J I G u r f a1);((aHh S O L J I G u r f a1)/\(let V:=(xN S O L J I G u r f a1);((aHg S O L J I G u r f a1)/\(((Z.2==V.2)=true->aMg Z.1 V.1)/\Q (((Z.2==V.2)&&(aHJ Z.1 V.1))&&aD8))))))
def aQS (F:Nat) (S O:ByteArray) (L J I G:Int) (u r:List aA) (f:List Pce) (V:List Itm) (Q:Bool->Prop):Prop:=bPr S O L J I G u r f V Q
end
end Go.Proofs.YtjjbojomlfgjlaaGreatDoor
namespace Go.Proofs.YtjjbojomlfgjlaaGreatDoor
open Go.Proofs.Tryz
open Go.Vm Go.RowKit
set_option linter.unusedVariables false
noncomputable section
section
variable (nm mt:ByteArray) (g gr w h:Int) (cl us:List aA) (ps:List Pce) (l:List Itm)
theorem aJd (f:jK nm mt g gr w h cl us ps=0):dK nm mt g gr w h cl us ps=(fK ps,0):=by
 unfold dK;rw[f];rfl
theorem bB0 (f:jK nm mt g gr w h cl us ps=0):nR nm mt g gr w h cl us ps=(fK ps,0):=by
 unfold nR;rw[aIv,f];show (jT ps,(0:Int))=_;rw[(tW f).2.1]
theorem bBZ (f:(dK nm mt g gr w h cl us ps).2=0):jK nm mt g gr w h cl us ps=0:=by
 unfold dK at f;cases q:jK nm mt g gr w h cl us ps !=0 with
 |false=>simpa using q
 |true=>
  rw[q,QX] at f;exact f
theorem aCE (r:(eU nm mt g gr w h cl us ps l).2.2.2.2.2.2=0):jK nm mt g gr w h cl us ps=0/\l.length<=128/\accept (eZ w h cl ps (fK ps)) l (iI ps (fK ps))/\∃f,aCd ps (fK ps) f/\eU nm mt g gr w h cl us ps l=qH f 0 0:=by
 unfold eU at r ⊢;cases he:(dK nm mt g gr w h cl us ps).2 !=0 with
 |true=>
  rw[he,QX] at r;have G:(dK nm mt g gr w h cl us ps).2=0:=r;rw[G] at he;cases he
 |false=>
 have hv:=bBZ nm mt g gr w h cl us ps (by simpa using he);rw[he,QJ] at r;rw[QJ];cases u:decide (128<(l.length:Int)) with
 |true=>
  rw[u,QX] at r;have:(4:Int)=0:=r;omega
 |false=>
 have:=JR u;rw[u,QJ] at r;rw[QJ];rw[aJd nm mt g gr w h cl us ps hv] at r ⊢;exact⟨hv,XY,aRO _ _ _ _ r,bIO l 0 _ (bF3 ps (fK ps)) r⟩
theorem aJl (f:lQ nm mt g gr w h cl us ps l=0):(eU nm mt g gr w h cl us ps l).2.2.2.2.2.2=0:=by
 unfold lQ aCm at f;exact(aJh f).1
theorem bTT:xN nm mt g gr w h cl us ps l=oD nm mt g gr w h cl us ps l:=by
 unfold xN oD;rw[bBu];cases f:lQ nm mt g gr w h cl us ps l !=0 with
 |true=>rfl
 |false=>
 obtain⟨hv,G,u,_⟩:=aCE nm mt g gr w h cl us ps l (aJl nm mt g gr w h cl us ps l (by simpa using f));rw[QJ,QJ,bB0 nm mt g gr w h cl us ps hv,aJd nm mt g gr w h cl us ps hv];show (aEE ps (fK ps) l,(0:Int))=(y9 w h cl ps (fK ps) l,0);rw[bKR (bSZ ps fun p r=>((tW hv).2.2.2 p r).1) u]
theorem bTU:(oD nm mt g gr w h cl us ps l).1.length<=1000000000000:=by
 unfold oD;cases r:lQ nm mt g gr w h cl us ps l !=0 with
 |true=>exact Nat.zero_le _
 |false=>
 obtain⟨hv,G,L,_⟩:=aCE nm mt g gr w h cl us ps l (aJl nm mt g gr w h cl us ps l (by simpa using r));obtain⟨f1,f2,Z,J⟩:=tW hv;rw[QJ,aJd nm mt g gr w h cl us ps hv];show (y9 w h cl ps (fK ps) l).length<=_;unfold y9;have V:=bF4 (b:=12) fun p u=>(J p u).2.2.2
 have S:=(aBa hv).1;obtain⟨I,f⟩:=bOZ (D:=eZ w h cl ps (fK ps)) (ps:=ps) (es:=fK ps) l (iI ps (fK ps),stamps ps,[]);rw[JZ] at f;have O:l.length*(6+2*(fK ps).length)<=128*1000006:=Nat.mul_le_mul G XY;dsimp only at I f;rw[QH];omega
theorem bBN {f:eS} (hv:jK nm mt g gr w h cl us ps=0) (G:aCd ps (fK ps) f):f.2.2.1.length<=2000000/\f.2.1.length<=2000000/\∀r∈f.2.1,r.length<=2000000:=by
 obtain⟨V,S,O,J⟩:=G;obtain⟨L,I⟩:=aBa hv;refine⟨XY,XY,fun r u=>?_⟩;obtain⟨i,hi,rfl⟩:=List.mem_iff_getElem.1 u;have e:=J i XY;rw[QG,QL hi] at e;have e:(f.2.1[i]).length=(ps.getD i default).Cuts.length:=e;have:=(I _ (fJ (show i<ps.length by omega))).2.2.1;omega
variable (h6:cl.length<=2000000) (h7:us.length<=2000000) (hp:aBz ps)
include h6 h7 hp
theorem bKB:rI nm mt g gr w h cl us ps:=by
 refine⟨⟨h6,h7,hp⟩,?_⟩;cases q:jK nm mt g gr w h cl us ps !=0 with
 |true=>trivial
 |false=>exact(tW (by simpa using q)).1
theorem bKA:aCO nm mt g gr w h cl us ps l:=by
 refine⟨bKB nm mt g gr w h cl us ps h6 h7 hp,fun he=>?_⟩;have hv:=bBZ nm mt g gr w h cl us ps (by simpa using he);obtain⟨I,G,u,r⟩:=tW hv;rw[aJd nm mt g gr w h cl us ps hv];have:=(aBa hv).1;exact⟨show (fK ps).length<=2000000 by omega,XY,fun q f=>⟨(hp q f).1,(hp q f).2.1⟩,h6⟩
theorem bKF:aDu nm mt g gr w h cl us ps l:=by
 refine⟨bKA nm mt g gr w h cl us ps l h6 h7 hp,fun r=>?_⟩;obtain⟨hv,_,_,f,u,e⟩:=aCE nm mt g gr w h cl us ps l (by simpa using r);rw[e];exact bBN nm mt g gr w h cl us ps hv u
theorem bKD:aHh nm mt g gr w h cl us ps l:=by
 refine⟨bKF nm mt g gr w h cl us ps l h6 h7 hp,fun f=>?_⟩;obtain⟨hv,_⟩:=aCE nm mt g gr w h cl us ps l (aJl nm mt g gr w h cl us ps l (by simpa using f));have:=(aBa hv).1;exact⟨XY,fun p r=>(hp p r).2.2⟩
theorem bJz:aCQ nm mt g gr w h cl us ps l:=by
 refine⟨⟨h6,h7,hp⟩,?_⟩;rw[aIv];cases q:jK nm mt g gr w h cl us ps !=0 with
 |true=>trivial
 |false=>
 have hv:jK nm mt g gr w h cl us ps=0:=by simpa using q
 obtain⟨O,L,f3,f4⟩:=tW hv;rw[QJ];cases hl:decide (128<(l.length:Int)) with
 |true=>trivial
 |false=>
 have hl':=JR hl;rw[QJ];cases hn:(l.length:Int)==0 with
 |true=>exact⟨O,fun p G=>(hp p G).2.1⟩
 |false=>
 have u:(l.length:Int)≠0:=by simpa using hn
 rw[QJ];refine⟨⟨O,fun p G=>(hp p G).2.1,h6,by rw[L];omega,XY⟩,?_⟩;have hs:fA nm mt g gr w h cl us ps l=mF (eZ w h cl ps (fK ps)) l 0 (iI ps (fK ps)) []:=by
  unfold fA;rw[aQx,L]
 rw[hs];obtain⟨V,S,J,I⟩:=aRM (eZ w h cl ps (fK ps)) l 0 (iI ps (fK ps)) [];generalize mF (eZ w h cl ps (fK ps)) l 0 (iI ps (fK ps)) []=t at V S J I ⊢;cases Z:t.2.2 !=0 with
 |true=>trivial
 |false=>
 obtain⟨f,_,r⟩:=I Z;rw[QJ];rw[JZ] at J;rcases r with ⟨r,_⟩|⟨_,r⟩
 ·rw[r] at u;exact absurd rfl u
 ·have:t.1.length≠0:=fun e=>by
   rw[List.length_eq_zero_iff.1 e] at r;cases r
  rw[dW XY XY];omega
theorem bKE:aDx nm mt g gr w h cl us ps l:=by
 refine⟨bJz nm mt g gr w h cl us ps l h6 h7 hp,fun r=>?_⟩;rw[aRN] at r ⊢;obtain⟨hv,_,_,f,u,e⟩:=aCE nm mt g gr w h cl us ps l (by simpa using r);rw[e];exact bBN nm mt g gr w h cl us ps hv u
theorem bKC:aHg nm mt g gr w h cl us ps l:=by
 refine⟨bKE nm mt g gr w h cl us ps l h6 h7 hp,⟨⟨h6,h7,hp⟩,?_⟩,fun f=>?_⟩
 ·rw[aIv];cases q:jK nm mt g gr w h cl us ps !=0 with
  |true=>trivial
  |false=>exact(tW (by simpa using q)).1
 ·rw[bBu] at f;obtain⟨hv,G,u,_⟩:=aCE nm mt g gr w h cl us ps l (aJl nm mt g gr w h cl us ps l (by simpa using f));obtain⟨O,L,J,I⟩:=tW hv;have:=(aBa hv).1;rw[bB0 nm mt g gr w h cl us ps hv];exact⟨show (fK ps).length<=2000000 by omega,XY,XY,fun p r=>(hp p r).2.2,bWO l _ u⟩
theorem bOJ (F:Nat):aQS F nm mt g gr w h cl us ps l fun r=>r=true:=by
 refine⟨bKD nm mt g gr w h cl us ps l h6 h7 hp,bKC nm mt g gr w h cl us ps l h6 h7 hp,fun _=>bTU nm mt g gr w h cl us ps l,?_⟩;rw[bTT];show (((oD nm mt g gr w h cl us ps l).2==(oD nm mt g gr w h cl us ps l).2)&&eqB (oD nm mt g gr w h cl us ps l).1 (oD nm mt g gr w h cl us ps l).1)&&aD8=true;rw[bBW];simp[aD8]
end
end
end Go.Proofs.YtjjbojomlfgjlaaGreatDoor
namespace Go.Proofs.YtjjbojomlfgjlaaGreatDoor
open Go.Proofs.Tryz
open Go.Vm Go.RowKit Go.Lib
set_option linter.unusedVariables false
noncomputable section
theorem qU {w0 w:World} {N:Nat->Prop} {τ:Knd} {xs:List (UU.T τ)} {v:Value} {cs:List Value} (hb:Below w0.heap.size w0 w)
  (ho:w.ownsRow w0.heap.size (UU.ety τ) (UU.size τ) v xs.length cs) (hp:∀a,v≠ .pointer a)
  (hr:∀i (h:i<xs.length) k (I:k<(EE.enc τ xs[i]).length),Rel EE w0 cW (fB N w0) (EE.enc τ xs[i])[k] (cs.getD (i*UU.size τ+k) undef)):mY EE w0.heap.size N w (.new τ xs) v:=by
 have S:∀b,blk v=some b->w0.heap.size<=b/\b<w.heap.size:=(rJ ho hp).2;refine⟨fun k=>if k=.ob 0 then some (0,v) else none,.osl 0 0 _ XU hp,fun k x I=>?_,fun k g u I=>?_,fun i j g g' u u' b hi hj V=>?_⟩
 ·cases k with
  |zero=>
   have:(⟨false,τ,xs⟩:eA UU)=x:=by simpa[aC.news,gX,iF] using I
   subst this;refine⟨_,_,XU,hp,ho,fun i hi k J=>?_⟩;refine((hr i hi k J).flat (ρ':=fun k=>if k=.ob 0 then some (0,v) else none) (EE.enc_flat _ _ _ (QN J)).1).mono (fun b f=>⟨⟨?_,f.2,fun nm g u G=>?_⟩,hb.block b f.1⟩) (fun nm g u h=>.inl h)
   ·have:=hb.size;have:=f.1;omega
   ·by_cases r:nm=.ob 0
    ·subst r;simp only[if_true,QQ,QK] at G;obtain⟨_,rfl⟩:=G;intro e;have:=(S b e).1;have:=f.1;omega
    ·simp[r] at G
  |succ k=>simp[aC.news,gX,iF] at I
 ·by_cases Z:k=.ob 0
  ·subst Z;exact⟨⟨false,τ,xs⟩,by simp[aC.news,gX,iF,Name.id],fun _=>⟨0,rfl⟩⟩
  ·simp[Z] at I
 ·by_cases O:i=.ob 0
  ·by_cases L:j=.ob 0
   ·exact absurd (O.trans L.symm) V
   ·simp[L] at hj
  ·simp[O] at hi
theorem aIo (f:Nat->Value) (n i:Nat) (h:i<n):((List.range n).map f).getD i undef=f i:=by simp[QG,h]
set_option maxHeartbeats 2000000 in
theorem bBq (L:Addr) (n c:Nat) (f:Nat->Value) (w:World) (hbig:n*32<=140737488355328) (V:∀j,j<n*4->w.cell? (L.add j)=some (f j)) (Z:∀j,j<n*4->(f j).oneCell'=true):
  Calls prog 119 #[.slice (some L) n c] w fun e w'=>∃I,e=.returned I/\w'.ownsRow w.heap.size 63 4 I n ((List.range (n*4)).map f)/\(∀a,I≠ .pointer a)/\Below w.heap.size w w':=by
 have w6:∀(w:World) (a:Option Addr) (n c n' O:Nat),(binOp .eql 75 (.slice a n c) (.slice none n' O)).run prog w=.ok (.bool a.isNone) w:=fun w a n c n' O=>Lib.run_eql_slice_nil w _ _ a n c n' O underlying75
 obtain⟨i0,hi,qA,mO,qS⟩:=info_parts (P:=prog) (e:=63) (z:=.agg #[.int .i64 0,.int .i64 0,.int .i64 0,.int .i64 0]) (size:=4) (bytes:=32) XW;have A:Aside ((∀j,j<n*4->w.cell? (L.add j)=some (f j))/\∀j,j<n*4->(f j).oneCell'=true):=⟨V,Z⟩;clear V Z
 go_enter func119,ntmps119
 go_wp2_with (at_builtin;refine wpList_append_own _ rfl _ _ 75 rfl w.heap.size 63 i0 (.agg #[.int .i64 0,.int .i64 0,.int .i64 0,.int .i64 0]) 4 32 underlying75 hi qA mO qS rfl (by decide) _ _ _ rfl (World.ownsRow_made w #[] 0 (JX _) (Nat.zero_le _) rfl) L n c ((List.range (n*4)).map f) rfl ?u7 ?u6 ?u4 ?s8 ?s7 ?s6 ?_)
 case u7=>simp
 case u6=>
  intro j u S;have J:j<n*4:=by
   have:=(QA.1 S).1;simpa using this
  refine Lib.cell?_alloc_some _ ?_;rw[A.out.1 j J];simpa[J] using S
 case u4=>
  intro u hu;obtain⟨x,hx,rfl⟩:=KY.1 hu;exact A.out.2 x (JD.1 hx)
 case s8=>unfold maxLen;omega
 case s7=>omega
 case s6=>simp
 intro I w1 r G hnil
 go_wp2
 go_ret
 refine⟨I,rfl,by simpa using r,?_,?_⟩
 ·intro a e;subst e;rcases r.2 with ⟨h,_⟩|⟨_,_,_,h,_⟩<;>cases h
 ·exact((Below.refl _ w).alloc (JX _) _).grown G XU (by intro k hk;simp[Value.ownBlock] at hk;omega)
set_option maxHeartbeats 2000000 in
theorem bTb (w:World):
  Calls prog 119 #[.slice none 0 0] w fun e w'=>e=.returned (.slice none 0 0)/\w'=w:=by
 have r:∀(w:World) (a:Option Addr) (n c n' f:Nat),(binOp .eql 75 (.slice a n c) (.slice none n' f)).run prog w=.ok (.bool a.isNone) w:=fun w a n c n' f=>Lib.run_eql_slice_nil w _ _ a n c n' f underlying75
 go_enter func119,ntmps119
 go_wp2
 go_ret
 exact⟨rfl,rfl⟩
def aNp:Model UU
 |[.sl .seg xs]=>some ([xs.length<=2000000],.new .seg xs)
 |_=>none
theorem bIK {C:Cfg UU} (hE:C.E=EE) (hs:aW C) (hP:C.P=prog):aW (C.add 119 aNp):=by
 refine hs.put ⟨fun J w=>by rw[hP];exact kQ (fn:=f119) func119 XW rfl J w,?_⟩;intro N w J xs cs r hinv hN L hm Z;unfold aNp at hm;split at hm
 ·rename_i l;cases hm;have hc':l.length<=2000000:=Z;obtain⟨a,rfl,ha⟩:=aCs L;rw[hP];rw[hE] at ha ⊢;cases ha with
  |lJ=>
   refine(bTb w).mono ?_
   rintro e w' ⟨rfl,rfl⟩
   refine⟨_,rfl,qU (cs:=[]) (Below.refl _ _) (JE _ _ _ _) (by intro a e;cases e) (fun i h=>absurd h XU),Below.refl _ _⟩
  |sle _ ad=>
   refine(bBq ad 0 0 (fun _=>undef) w XY (fun j I=>absurd I XY) (fun j I=>absurd I XY)).mono ?_
   rintro e w' ⟨v',rfl,h1,h2,S⟩
   exact⟨_,rfl,qU S h1 h2 (fun i h=>absurd h XU),S⟩
  |sl _ _ b o cap f hb hcap Z hl=>
   have V:∀j,j<l.length*4->∃i k,∃(hi:i<l.length) (O:k<(EE.enc .seg l[i]).length),j=i*UU.size .seg+k:=fun j I=>by
    have hi:j / 4<l.length:=XY;refine⟨j / 4,j % 4,hi,by rw[EE.enc_len];exact Nat.mod_lt _ (by decide),?_⟩;show j=j / 4*4+j % 4;omega
   refine(bBq ⟨b,o,none⟩ l.length cap f w XY (fun j I=>by rw[Addr.rX];exact Z j I) (fun j I=>?_)).mono ?_
   ·obtain⟨i,k,hi,O,rfl⟩:=V j I;have G:=EE.enc_flat _ _ _ (QN O);exact(hl i hi k O).sS G.2 (fun nm g u h=>by cases h) (fun id g h=>by rw[h] at G;cases G.1) (fun id g i off sz h=>by rw[h] at G;cases G.1) (fun id i g h=>by rw[h] at G;cases G.1) (fun id i g j off sz h=>by rw[h] at G;cases G.1)
   ·rintro e w' ⟨v',rfl,h1,h2,S⟩
    refine⟨_,rfl,qU S h1 h2 (fun i hi k O=>?_),S⟩;have hk':k<4:=by
     have:=O;rw[EE.enc_len] at this;exact this
    rw[show i*UU.size .seg+k=i*4+k from rfl,aIo _ _ _ (by
     have:i*4+4<=l.length*4:=by
      have:=JY 4 (show i+1<=l.length from hi);omega
     omega)]
    exact hl i hi k O
 ·cases hm
set_option maxHeartbeats 2000000 in
theorem bBr (L:Addr) (n c:Nat) (f:Nat->Value) (w:World) (hbig:n*32<=140737488355328) (V:∀j,j<n*4->w.cell? (L.add j)=some (f j)) (Z:∀j,j<n*4->(f j).oneCell'=true):
  Calls prog 55 #[.slice (some L) n c] w fun e w'=>∃I,e=.returned I/\w'.ownsRow w.heap.size 53 4 I n ((List.range (n*4)).map f)/\(∀a,I≠ .pointer a)/\Below w.heap.size w w':=by
 have w6:∀(w:World) (a:Option Addr) (n c n' O:Nat),(binOp .eql 22 (.slice a n c) (.slice none n' O)).run prog w=.ok (.bool a.isNone) w:=fun w a n c n' O=>Lib.run_eql_slice_nil w _ _ a n c n' O underlying22
 obtain⟨i0,hi,qA,mO,qS⟩:=info_parts (P:=prog) (e:=53) (z:=.agg #[.int .i64 0,.int .i64 0,.int .i64 0,.int .i64 0]) (size:=4) (bytes:=32) XW;have A:Aside ((∀j,j<n*4->w.cell? (L.add j)=some (f j))/\∀j,j<n*4->(f j).oneCell'=true):=⟨V,Z⟩;clear V Z
 go_enter func55,ntmps55
 go_wp2_with (at_builtin;refine wpList_append_own _ rfl _ _ 22 rfl w.heap.size 53 i0 (.agg #[.int .i64 0,.int .i64 0,.int .i64 0,.int .i64 0]) 4 32 underlying22 hi qA mO qS rfl (by decide) _ _ _ rfl (World.ownsRow_made w #[] 0 (JX _) (Nat.zero_le _) rfl) L n c ((List.range (n*4)).map f) rfl ?u7 ?u6 ?u4 ?s8 ?s7 ?s6 ?_)
 case u7=>simp
 case u6=>
  intro j u S;have J:j<n*4:=by
   have:=(QA.1 S).1;simpa using this
  refine Lib.cell?_alloc_some _ ?_;rw[A.out.1 j J];simpa[J] using S
 case u4=>
  intro u hu;obtain⟨x,hx,rfl⟩:=KY.1 hu;exact A.out.2 x (JD.1 hx)
 case s8=>unfold maxLen;omega
 case s7=>omega
 case s6=>simp
 intro I w1 r G hnil
 go_wp2
 go_ret
 refine⟨I,rfl,by simpa using r,?_,?_⟩
 ·intro a e;subst e;rcases r.2 with ⟨h,_⟩|⟨_,_,_,h,_⟩<;>cases h
 ·exact((Below.refl _ w).alloc (JX _) _).grown G XU (by intro k hk;simp[Value.ownBlock] at hk;omega)
set_option maxHeartbeats 2000000 in
theorem bTc (w:World):
  Calls prog 55 #[.slice none 0 0] w fun e w'=>e=.returned (.slice none 0 0)/\w'=w:=by
 have r:∀(w:World) (a:Option Addr) (n c n' f:Nat),(binOp .eql 22 (.slice a n c) (.slice none n' f)).run prog w=.ok (.bool a.isNone) w:=fun w a n c n' f=>Lib.run_eql_slice_nil w _ _ a n c n' f underlying22
 go_enter func55,ntmps55
 go_wp2
 go_ret
 exact⟨rfl,rfl⟩
def aNq:Model UU
 |[.sl .rect xs]=>some ([xs.length<=2000000],.new .rect xs)
 |_=>none
theorem bIL {C:Cfg UU} (hE:C.E=EE) (hs:aW C) (hP:C.P=prog):aW (C.add 55 aNq):=by
 refine hs.put ⟨fun J w=>by rw[hP];exact kQ (fn:=f55) func55 XW rfl J w,?_⟩;intro N w J xs cs r hinv hN L hm Z;unfold aNq at hm;split at hm
 ·rename_i l;cases hm;have hc':l.length<=2000000:=Z;obtain⟨a,rfl,ha⟩:=aCs L;rw[hP];rw[hE] at ha ⊢;cases ha with
  |lJ=>
   refine(bTc w).mono ?_
   rintro e w' ⟨rfl,rfl⟩
   refine⟨_,rfl,qU (cs:=[]) (Below.refl _ _) (JE _ _ _ _) (by intro a e;cases e) (fun i h=>absurd h XU),Below.refl _ _⟩
  |sle _ ad=>
   refine(bBr ad 0 0 (fun _=>undef) w XY (fun j I=>absurd I XY) (fun j I=>absurd I XY)).mono ?_
   rintro e w' ⟨v',rfl,h1,h2,S⟩
   exact⟨_,rfl,qU S h1 h2 (fun i h=>absurd h XU),S⟩
  |sl _ _ b o cap f hb hcap Z hl=>
   have V:∀j,j<l.length*4->∃i k,∃(hi:i<l.length) (O:k<(EE.enc .rect l[i]).length),j=i*UU.size .rect+k:=fun j I=>by
    have hi:j / 4<l.length:=XY;refine⟨j / 4,j % 4,hi,by rw[EE.enc_len];exact Nat.mod_lt _ (by decide),?_⟩;show j=j / 4*4+j % 4;omega
   refine(bBr ⟨b,o,none⟩ l.length cap f w XY (fun j I=>by rw[Addr.rX];exact Z j I) (fun j I=>?_)).mono ?_
   ·obtain⟨i,k,hi,O,rfl⟩:=V j I;have G:=EE.enc_flat _ _ _ (QN O);exact(hl i hi k O).sS G.2 (fun nm g u h=>by cases h) (fun id g h=>by rw[h] at G;cases G.1) (fun id g i off sz h=>by rw[h] at G;cases G.1) (fun id i g h=>by rw[h] at G;cases G.1) (fun id i g j off sz h=>by rw[h] at G;cases G.1)
   ·rintro e w' ⟨v',rfl,h1,h2,S⟩
    refine⟨_,rfl,qU S h1 h2 (fun i hi k O=>?_),S⟩;have hk':k<4:=by
     have:=O;rw[EE.enc_len] at this;exact this
    rw[show i*UU.size .rect+k=i*4+k from rfl,aIo _ _ _ (by
     have:i*4+4<=l.length*4:=by
      have:=JY 4 (show i+1<=l.length from hi);omega
     omega)]
    exact hl i hi k O
 ·cases hm
end
end Go.Proofs.YtjjbojomlfgjlaaGreatDoor
namespace Go.Proofs.YtjjbojomlfgjlaaGreatDoor
open Go.Proofs.Tryz
open Go.Vm Go.RowKit
set_option linter.unusedVariables false
set_option maxRecDepth 100000
noncomputable section
def aTn:Model UU
 |[.int .i64 r,.int .i64 f]=>some ([],.bool (aME r f))
 |_=>none
def bEZ:Cfg UU:=bEV.add 165 aTn
theorem bH7:aW bEZ:=tin bH0 mixed func165 XW XW false fun xs f r h=>by
 unfold aTn at h;split at h
 ·cases h;exact⟨XW,XW⟩
 ·cases h
def aTW:Model UU
 |[.int .i64 f]=>some ([],.bool (pL f))
 |_=>none
def bEC:Cfg UU:=bEZ.add 184 aTW
theorem bHC:aW bEC:=tin bH7 mixed func184 XW XW false fun xs f r h=>by
 unfold aTW at h;split at h
 ·cases h;exact⟨XW,XW⟩
 ·cases h
def aTg:Model UU
 |[.int .i64 u,.int .i64 r,.int .i64 f]=>some ([],.bool (pN u r f))
 |_=>none
def bET:Cfg UU:=bEC.add 109 aTg
theorem bHX:aW bET:=tin bHC mixed func109 XW XW false fun xs f r h=>by
 unfold aTg at h;split at h
 ·cases h;exact⟨XW,XW⟩
 ·cases h
def aT8:Model UU
 |[.agg [.str O,.str L,.int .i64 J,.int .i64 I,.int .i64 r,.int .i64 f,.sl .rect G,.sl .rect u],.int .i64 V,.int .i64 S]=>some ([],.bool (aBq O L J I r f G u V S))
 |_=>none
def bEL:Cfg UU:=bET.add 113 aT8
theorem bHO:aW bEL:=tin bHX mixed func113 XW XW false fun xs f r h=>by
 unfold aT8 at h;split at h
 ·cases h;exact⟨XW,XW⟩
 ·cases h
def aT7:Model UU
 |[.int .i64 G,.int .i64 u,.int .i64 r,.int .i64 f]=>some ([],.agg [.int .i64 ((jF G u r f).1),.int .i64 ((jF G u r f).2.1),.int .i64 ((jF G u r f).2.2.1),.int .i64 ((jF G u r f).2.2.2)])
 |_=>none
def bEK:Cfg UU:=bEL.add 114 aT7
theorem bHN:aW bEK:=tin bHO mixed func114 XW XW false fun xs f r h=>by
 unfold aT7 at h;split at h
 ·cases h;exact⟨XW,XW⟩
 ·cases h
def aT3:Model UU
 |[.agg [.int .i64 u,.int .i64 G,.int .i64 f,.int .i64 r],.agg [.int .i64 L,.int .i64 O,.int .i64 J,.int .i64 I]]=>some ([],.bool (aHS u G f r L O J I))
 |_=>none
def bEH:Cfg UU:=bEK.add 117 aT3
theorem bHJ:aW bEH:=cV bHN mixed func117 XW XW fun xs cs r h Z=>by
 unfold aT3 at h;split at h
 ·rename_i J f S I u G O L;cases h;refine⟨XW,M0,0,false,⟨of_eq (q:=(fun Q:Bool->Prop=>cond (f==I) (Q ((((decide (G<f))&&(decide (f<(aB (G+L)))))&&(decide (J<(aB (u+O)))))&&(decide (u<S)))) (Q ((((decide (u<J))&&(decide (J<(aB (u+O)))))&&(decide (f<(aB (G+L)))))&&(decide (G<I))))) fun V=>(.bool V:aC UU)=.bool (aHS J f S I u G O L)) XW ?_⟩⟩;unfold aHS;cases (f==I)<;>rfl
 ·cases h
def aTc:Model UU
 |[.agg [.int .i64 f,.int .i64 L,.int .i64 O,.int .i64 I,.int .i64 J,.int .i64 r],.agg [.int .i64 u,.int .i64 G]]=>some ([],.agg [.int .i64 ((n9 f L O I J r u G).1),.int .i64 ((n9 f L O I J r u G).2)])
 |_=>none
def bEP:Cfg UU:=bEH.add 49 aTc
theorem bHS:aW bEP:=cV bHJ mixed func49 XW XW fun xs cs r h hc=>by
 unfold aTc at h;split at h
 ·rename_i f I J V Z S u G;cases h;refine⟨XW,M0,0,false,⟨of_eq (q:=(fun Q:Int->Int->Prop=>cond (f==3) (Q u G) (Q I J)) fun L O=>(.agg [.int .i64 L,.int .i64 O]:aC UU)=.agg [.int .i64 ((n9 f I J V Z S u G).1),.int .i64 ((n9 f I J V Z S u G).2)]) XW ?_⟩⟩;unfold n9;cases (f==3)<;>rfl
 ·cases h
def aTb:Model UU
 |[.agg [.int .i64 f,.int .i64 I,.int .i64 J,.int .i64 u,.int .i64 G,.int .i64 r]]=>some ([],.bool (aDa f I J u G r))
 |_=>none
def bEO:Cfg UU:=bEP.add 45 aTb
theorem bHR:aW bEO:=cV bHS mixed func45 XW XW fun xs V r h S=>by
 unfold aTb at h;split at h
 ·rename_i f O J I u G;cases h;refine⟨XW,M0,0,false,⟨of_eq (q:=(fun Q:Bool->Prop=>cond (f==1) (Q (((I==0)&&(u==0))&&(G==0))) (cond (f==2) (Q (((I==0)&&(u==0))&&(G==0))) (cond (f==4) (Q (((I==0)&&(u==0))&&(G==0))) (cond (f==3) (Q (G==0)) (cond (f==5) (Q (((J==0)&&(I==0))&&(u==0))) (cond (f==6) (Q (u==0)) (Q false))))))) fun L=>(.bool L:aC UU)=.bool (aDa f O J I u G)) XW ?_⟩⟩;unfold aDa;cases (f==1)<;>cases (f==2)<;>cases (f==4)<;>cases (f==3)<;>cases (f==5)<;>cases (f==6)<;>rfl
 ·cases h
def aTo:Model UU
 |[.int .i64 r,.int .i64 f]=>some ([],.bool (aHY r f))
 |_=>none
def bE0:Cfg UU:=bEO.add 164 aTo
theorem bH8:aW bE0:=tin bHR mixed func164 XW XW false fun xs f r h=>by
 unfold aTo at h;split at h
 ·cases h;exact⟨XW,XW⟩
 ·cases h
def aTp:Model UU
 |[.agg [.int .i64 u,.int .i64 G,.int .i64 f,.int .i64 r]]=>some ([],.bool (kL u G f r))
 |_=>none
def bE1:Cfg UU:=bE0.add 112 aTp
theorem bH9:aW bE1:=tin bH8 mixed func112 XW XW false fun xs f r h=>by
 unfold aTp at h;split at h
 ·cases h;exact⟨XW,XW⟩
 ·cases h
def aTr:Model UU
 |[.agg [.int .i64 L,.int .i64 O,.int .i64 I,.int .i64 J],.agg [.int .i64 u,.int .i64 G,.int .i64 r,.int .i64 f]]=>some ([],.bool (sK L O I J u G r f))
 |_=>none
def bE3:Cfg UU:=bE1.add 57 aTr
theorem bHb:aW bE3:=tin bH9 mixed func57 XW XW false fun xs f r h=>by
 unfold aTr at h;split at h
 ·cases h;exact⟨XW,XW⟩
 ·cases h
def aTe:Model UU
 |[.int .i64 r,.int .i64 f]=>some ([],.bool (pM r f))
 |_=>none
def bER:Cfg UU:=bE3.add 108 aTe
theorem bHV:aW bER:=tin bHb mixed func108 XW XW false fun xs f r h=>by
 unfold aTe at h;split at h
 ·cases h;exact⟨XW,XW⟩
 ·cases h
def aTf:Model UU
 |[.agg [.str O,.str L,.int .i64 J,.int .i64 I,.int .i64 r,.int .i64 f,.sl .rect G,.sl .rect u],.int .i64 S]=>some ([],.tup [.agg [.int .i64 ((aBr O L J I r f G u S).1),.int .i64 ((aBr O L J I r f G u S).2.1),.int .i64 ((aBr O L J I r f G u S).2.2.1),.int .i64 ((aBr O L J I r f G u S).2.2.2.1)],.bool ((aBr O L J I r f G u S).2.2.2.2)])
 |_=>none
def bES:Cfg UU:=bER.add 111 aTf
theorem bHW:aW bES:=tin bHV mixed func111 XW XW false fun xs f r h=>by
 unfold aTf at h;split at h
 ·cases h;exact⟨XW,XW⟩
 ·cases h
def aTZ:Model UU
 |[.agg [.int .i64 u,.int .i64 G,.int .i64 f,.int .i64 r]]=>some ([],.bool (jE u G f r))
 |_=>none
def bEE:Cfg UU:=bES.add 140 aTZ
theorem bHF:aW bEE:=cV bHW mixed func140 XW XW fun xs O r h L=>by
 unfold aTZ at h;split at h
 ·rename_i G I f u;cases h;refine⟨XW,M0,0,false,⟨of_eq (q:=(fun Q:Bool->Prop=>cond ((((((!(pL G))||(!(pL I)))||(decide (f<1)))||(decide (u<1)))||(decide (2097152<f)))||(decide (2097152<u))) (Q false) (Q ((pL (aB (G+f)))&&(pL (aB (I+u)))))) fun J=>(.bool J:aC UU)=.bool (jE G I f u)) XW ?_⟩⟩;unfold jE;cases (((((((!(pL G))||(!(pL I)))||(decide (f<1)))||(decide (u<1)))||(decide (2097152<f)))||(decide (2097152<u))))<;>rfl
 ·cases h
def aTX:Model UU
 |[.agg [.int .i64 L,.int .i64 O,.int .i64 I,.int .i64 J],.agg [.int .i64 u,.int .i64 G,.int .i64 r,.int .i64 f]]=>some ([],.bool (oJ L O I J u G r f))
 |_=>none
def wK:Cfg UU:=bEE.add 68 aTX
theorem bHD:aW wK:=tin bHF mixed func68 XW XW false fun xs f r h=>by
 unfold aTX at h;split at h
 ·cases h;exact⟨XW,XW⟩
 ·cases h
set_option maxRecDepth 100000
def bSm (F:Nat):=cY (bM aBN F 0 wK) wK f110.ntmps aBN F
def bJB (F:Nat):=dO (bM aBN F 0 wK) wK f110.ntmps aBN F
abbrev bDP:=Bool->List aA->Int->Int->Prop
def aEe (k:ASt UU->Prop):bDP:=(fun G u r f=>k ⟨tmL [(2,.bool G),(5,.sl .rect u),(6,.int .i64 r),(7,.int .i64 f)],obL []⟩)
def bUj:=(cL (cB (cS (cF (cS (bo f110))))))
def aLA (F:Nat) (K:zK) (n r:Nat):bDP:=aEe fun s=>iter (bSm F 0 bUj) (aBN 0 0) n r s K
def aXS (F:Nat) (Post:aC UU->Prop):zK:=bU 0 (bJB F 0 (cS (cS (bo f110))) (bJ wK false f110 Post))
theorem aVW (F:Nat) (K:zK):∀n r,aLA F K n r=aDU F (aEe (K .ret)) (aEe (K (.exit 0))) n
 |0,_=>XW
 |n+1,r=>QY (b:=(fun I G u f=>bAB (aLA F K n (r+1)) (aEe (K .ret)) (aEe (K (.exit 0))) I G u f)) XW (by rewrite[aVW F K n (r+1)];kernel_rfl)
theorem bMh (F:Nat) (Post:aC UU->Prop):aLA F (aXS F Post) F 0=aSG F (fun f=>Post (.bool f)):=
 (aVW F _ F 0).trans XW
theorem bR5 (F:Nat) (Post:aC UU->Prop) (r:List aA):exec wK f110.ntmps aBN F 0 (bo f110) (dD [.sl .rect r]) (bJ wK false f110 Post)=aQ7 F r (fun f=>Post (.bool f)):=
 QY (b:=bAC r (fun f=>Post (.bool f)) (aLA F (aXS F Post) F 0)) XW (by rewrite[bMh F Post];kernel_rfl)
def aSt:Model UU
 |[.sl .rect f]=>some ([w7 f],.bool (fH f))
 |_=>none
def vZ:Cfg UU:=wK.add 110 aSt
theorem bG8:aW vZ:=cV bHD mixed func110 XW XW fun xs G r h f=>by
 unfold aSt at h;split at h
 ·rename_i u;cases h;obtain⟨F,hF⟩:=bLK u f;exact⟨XW,aBN,F,false,⟨by rw[bR5];exact hF _ rfl⟩⟩
 ·cases h
set_option maxRecDepth 100000
def aP0 (F:Nat):=cY (bM vG F 0 vZ) vZ f51.ntmps vG F
def aR7 (F:Nat):=dO (bM vG F 0 vZ) vZ f51.ntmps vG F
abbrev bDD:=Int->List (List aA)->Int->Int->Int->Int->Int->Int->Prop
def aAG (k:ASt UU->Prop):bDD:=(fun G u r f L O J I=>k ⟨tmL [(2,.int .i64 G),(3,.ptr 3 0),(70,.sl .rects u),(71,.int .i64 r),(72,.int .i64 f)],obL [(3,.cells [.int .i64 L,.int .i64 O,.int .i64 J,.int .i64 I])]⟩)
abbrev bDC:=Int->List (List aA)->Int->Int->List aA->Int->Int->Int->Int->Int->Int->Prop
def aEa (k:ASt UU->Prop):bDC:=(fun L J I G u r f V Z S O=>k ⟨tmL [(2,.int .i64 L),(3,.ptr 3 0),(70,.sl .rects J),(71,.int .i64 I),(72,.int .i64 G),(76,.sl .rect u),(77,.int .i64 r),(78,.int .i64 f)],obL [(3,.cells [.int .i64 V,.int .i64 Z,.int .i64 S,.int .i64 O])]⟩)
def aKB:=(cL (cB (cS (cF (cS (cS (cS (bo f51))))))))
def bU5:=(cL (cB (cS (cS (cB (cF (cS (cS aKB))))))))
def aFo (F:Nat) (K:zK) (n r:Nat):bDD:=aAG fun s=>iter (aP0 F 1 aKB) (vG 0 1) n r s K
def aKn (F:Nat) (K:zK) (n r:Nat):bDC:=aEa fun s=>iter (aP0 F 3 bU5) (vG 0 3) n r s K
def aXE (F:Nat) (Post:aC UU->Prop):zK:=bU 1 (aR7 F 0 (cS4 (bo f51)) (bJ vZ false f51 Post))
def aXD (F n r:Nat) (K:zK):zK:=bU 3 (bU 2 (aR7 F 1 (cS (cS (cS aKB))) (kN (aP0 F 1 aKB) (vG 0 1) n r K)))
theorem aVG (F:Nat) (K:zK):∀n r,aKn F K n r=aDQ F (aEa (K .ret)) (aEa (K (.exit 3))) n
 |0,_=>XW
 |n+1,r=>QY (b:=(fun O L J I G u f Z bP V S=>aZ8 (aKn F K n (r+1)) (aEa (K .ret)) (aEa (K (.exit 3))) O L J I G u f Z bP V S)) XW (by rewrite[aVG F K n (r+1)];kernel_rfl)
theorem bM2 (F n r:Nat) (K:zK):aKn F (aXD F n r K) F 0=aSE F (aFo F K n (r+1)) (aAG (K (.exit 1))) (aAG (K .ret)):=
 (aVG F _ F 0).trans XW
theorem aVH (F:Nat) (K:zK):∀n r,aFo F K n r=aB9 F (aAG (K (.exit 1))) (aAG (K .ret)) n
 |0,_=>XW
 |n+1,r=>QY (b:=(fun I G u f O S L J=>aZ9 (aFo F K n (r+1)) (aAG (K (.exit 1))) (aAG (K .ret)) I G u f O S L J (aKn F (aXD F n r K) F 0))) XW (by rewrite[bM2 F n r K,aVH F K n (r+1)];kernel_rfl)
theorem bM3 (F:Nat) (Post:aC UU->Prop):aFo F (aXE F Post) F 0=aSF F (fun f=>Post (.int .i64 f)):=
 (aVH F _ F 0).trans XW
theorem bRU (F:Nat) (Post:aC UU->Prop) (S O:ByteArray) (L J u r:Int) (I G:List aA):exec vZ f51.ntmps vG F 0 (bo f51) (dD [.agg [.str S,.str O,.int .i64 L,.int .i64 J,.int .i64 u,.int .i64 r,.sl .rect I,.sl .rect G]]) (bJ vZ false f51 Post)=aLs F S O L J u r I G (fun f=>Post (.int .i64 f)):=
 QY (b:=aPA S O L J u r I G (fun f=>Post (.int .i64 f)) (aFo F (aXE F Post) F 0)) XW (by rewrite[bM3 F Post];kernel_rfl)
def aSi:Model UU
 |[.agg [.str O,.str L,.int .i64 J,.int .i64 I,.int .i64 r,.int .i64 f,.sl .rect G,.sl .rect u]]=>some ([],.int .i64 (pK O L J I r f G u))
 |_=>none
def vT:Cfg UU:=vZ.add 51 aSi
theorem bGX:aW vT:=cV bG8 mixed func51 XW XW fun xs Z r h V=>by
 unfold aSi at h;split at h
 ·rename_i S O L J u f I G;cases h;obtain⟨F,hF⟩:=bKz S O L J u f I G;exact⟨XW,vG,F,false,⟨by rw[bRU];exact hF _ rfl⟩⟩
 ·cases h
set_option maxRecDepth 100000
def bSc (F:Nat):=cY (bM aBD F 0 vT) vT Tryz.f46.ntmps aBD F
def bIr (F:Nat):=dO (bM aBD F 0 vT) vT Tryz.f46.ntmps aBD F
abbrev bCv:=Bool->Int->Int->zzI->Prop
def aE8 (k:ASt UU->Prop):bCv:=(fun u r f G=>k ⟨tmL [(2,.bool u),(15,.osl 28 0),(16,.int .i64 r),(17,.int .i64 f)],obL [(28,.row .int 0 G)]⟩)
def bUW:=(cL (cB (cS (cF (cS (bo Tryz.f46))))))
def aKf (F:Nat) (K:zK) (n r:Nat):bCv:=aE8 fun s=>iter (bSc F 0 bUW) (aBD 0 0) n r s K
def aWt (F:Nat) (Post:aC UU->Prop):zK:=bU 0 (bIr F 0 (cS (cS (bo Tryz.f46))) (bJ vT false Tryz.f46 Post))
theorem aUv (F:Nat) (K:zK):∀n r,aKf F K n r=aDM F (aE8 (K .ret)) (aE8 (K (.exit 0))) n
 |0,_=>XW
 |n+1,r=>QY (b:=(fun G u f I=>aZO (aKf F K n (r+1)) (aE8 (K .ret)) (aE8 (K (.exit 0))) G u f I)) XW (by rewrite[aUv F K n (r+1)];kernel_rfl)
theorem bMS (F:Nat) (Post:aC UU->Prop):aKf F (aWt F Post) F 0=aSD F (fun f=>Post (.bool f)):=
 (aUv F _ F 0).trans XW
theorem bRN (F:Nat) (Post:aC UU->Prop) (f J L G I u:Int):exec vT Tryz.f46.ntmps aBD F 0 (bo Tryz.f46) (dD [.agg [.int .i64 f,.int .i64 J,.int .i64 L,.int .i64 G,.int .i64 I,.int .i64 u]]) (bJ vT false Tryz.f46 Post)=aQR F f J L G I u (fun r=>Post (.bool r)):=
 QY (b:=aZP f J L G I u (fun r=>Post (.bool r)) (aKf F (aWt F Post) F 0)) XW (by rewrite[bMS F Post];kernel_rfl)
def aSc:Model UU
 |[.agg [.int .i64 f,.int .i64 I,.int .i64 J,.int .i64 u,.int .i64 G,.int .i64 r]]=>some ([],.bool (aBm f I J u G r))
 |_=>none
def bDj:Cfg UU:=vT.add 46 aSc
theorem bGR:aW bDj:=cV bGX mixed func46 XW XW fun xs S r h O=>by
 unfold aSc at h;split at h
 ·rename_i f J L G I u;cases h;obtain⟨F,hF⟩:=bKt f J L G I u;exact⟨XW,aBD,F,false,⟨by rw[bRN];exact hF _ rfl⟩⟩
 ·cases h
set_option maxRecDepth 100000
def aTy:Model UU
 |[.agg [.int .i64 O,.int .i64 L,.int .i64 J,.int .i64 I],.ref [.int .i64 G,.int .i64 u,.int .i64 r,.int .i64 f] 0]=>some ([],.bool (aMF O L J I G u r f))
 |_=>none
def wQ:Cfg UU:=bDj.add 116 aTy
theorem bHi:aW wQ:=tin bGR mixed func116 XW XW false fun xs f r h=>by
 unfold aTy at h;split at h
 ·cases h;exact⟨XW,XW⟩
 ·cases h
def bTA (F:Nat):=cY (bM aB1 F 0 wQ) wQ f166.ntmps aB1 F
def bJP (F:Nat):=dO (bM aB1 F 0 wQ) wQ f166.ntmps aB1 F
abbrev bD2:=List aA->Int->Int->Int->Int->Int->Int->Int->Prop
def aEy (k:ASt UU->Prop):bD2:=(fun G I J L O u r f=>k ⟨tmL [(0,.sl .rect G),(1,.fn 116 [.ref [.int .i64 I,.int .i64 J,.int .i64 L,.int .i64 O] 0]),(4,.int .i64 u),(7,.int .i64 r),(8,.int .i64 f)],obL []⟩)
def bVJ:=(cL (cB (cS (cF (cS (bo f166))))))
def aL0 (F:Nat) (K:zK) (n r:Nat):bD2:=aEy fun s=>iter (bTA F 0 bVJ) (aB1 0 0) n r s K
def aXn (F:Nat) (Post:aC UU->Prop):zK:=bU 0 (bJP F 0 (cS (cS (bo f166))) (bJ wQ false f166 Post))
theorem aVr (F:Nat) (K:zK):∀n r,aL0 F K n r=aD1 F (aEy (K .ret)) (aEy (K (.exit 0))) n
 |0,_=>XW
 |n+1,r=>QY (b:=(fun I J L O S G u f=>bAs (aL0 F K n (r+1)) (aEy (K .ret)) (aEy (K (.exit 0))) I J L O S G u f)) XW (by rewrite[aVr F K n (r+1)];kernel_rfl)
theorem bNM (F:Nat) (Post:aC UU->Prop):aL0 F (aXn F Post) F 0=aSH F (fun f=>Post (.int .i64 f)):=
 (aVr F _ F 0).trans XW
theorem bRp (F:Nat) (Post:aC UU->Prop) (l:List aA) (G u r f:Int):exec wQ f166.ntmps aB1 F 0 (bo f166) (dD [.sl .rect l,.fn 116 [.ref [.int .i64 G,.int .i64 u,.int .i64 r,.int .i64 f] 0]]) (bJ wQ false f166 Post)=aQn F l G u r f (fun I=>Post (.int .i64 I)):=
 QY (b:=bAt l G u r f (fun I=>Post (.int .i64 I)) (aL0 F (aXn F Post) F 0)) XW (by rewrite[bNM F Post];kernel_rfl)
def aTk:Model UU
 |[.sl .rect l,.fn 116 [.ref [.int .i64 G,.int .i64 u,.int .i64 r,.int .i64 f] 0]]=>some ([aHr l G u r f],.int .i64 (aHW l G u r f))
 |_=>none
def bEY:Cfg UU:=wQ.add 166 aTk
theorem bH3:aW bEY:=cV bHi mixed func166 XW XW fun xs L r h J=>by
 unfold aTk at h;split at h
 ·rename_i l I G u f;cases h;obtain⟨F,hF⟩:=bL4 l I G u f J;exact⟨XW,aB1,F,false,⟨by rw[bRp];exact hF _ rfl⟩⟩
 ·cases h
set_option maxRecDepth 100000
def aUN:Model UU
 |[.sl .rect l,.fn 116 [.ref [.int .i64 G,.int .i64 u,.int .i64 r,.int .i64 f] 0]]=>some ([x9 l G u r f],.bool (uB l G u r f))
 |_=>none
def bEf:Cfg UU:=bEY.add 115 aUN
theorem bHy:aW bEf:=cV bH3 mixed func115 XW XW fun xs S r h L=>by
 unfold aUN at h;split at h
 ·rename_i l I G u f;cases h;refine⟨XW,M0,0,false,⟨kF (fun Q:Bool->Prop=>((aHr l I G u f)/\Q (decide (0<=(aHW l I G u f))))) (fun Q=>Q (uB l I G u f)) (fun J=>(.bool J:aC UU)=.bool (uB l I G u f)) XW (fun Q h=>?_) rfl⟩⟩
  try dsimp only at h ⊢
  unfold uB at h;have hp:x9 l I G u f:=L;unfold x9 at hp;have O:=hp;refine⟨O,?_⟩;exact h
 ·cases h
end
end Go.Proofs.YtjjbojomlfgjlaaGreatDoor
namespace Go.Proofs
open Go.Proofs.Tryz
open Go.RowKit Go.Extern
theorem bEu (t:Addr) (w:World):(ReflectliteValue.unpack (.iface 190 (.pointer (some t)))).run prog w
  =.ok (.agg #[.pointer (some ⟨5,190,none⟩),.pointer (some ⟨w.heap.size,0,none⟩),.int .u64 150]) (w.alloc (.cells #[.pointer (some t)] 190)):=XW
theorem bIQ (a:Addr) (w:World):(ReflectliteValue.methodAny (ReflectliteValue.valueError "reflectlite.Value.Type" 0) (fun t _ _ _=>ReflectliteType.toType t) #[.agg #[.pointer (some ⟨5,190,none⟩),.pointer (some a),.int .u64 150]]).run prog w
  =.ok (.iface 271 (.agg #[.pointer (some ⟨5,190,none⟩)])) w:=XW
theorem bNY (h:Value) (w:World):(Go.method 459 271 (.agg #[h]) "Kind").run prog w=.ok (283,h) w:=XW
theorem bOU (w:World):((ReflectliteType.abiMethod fun t=>(fun a:Nat=>Value.int IntKind.u8 (a:Int)) <$> Rtype.kind t) #[.pointer (some ⟨5,190,none⟩)]).run prog w=.ok (.int .u8 22) w:=XW
theorem bOV (w:World):((ReflectliteType.abiMethod fun t=>(fun a:Nat=>Value.int IntKind.u8 (a:Int)) <$> Rtype.kind t) #[.pointer (some ⟨5,186,none⟩)]).run prog w=.ok (.int .u8 25) w:=XW
theorem rlm (z:Sem Value) (f:TypeId->Addr->Nat->Nat->Sem Value) (v:Value):
  ReflectliteValue.method z f #[v]=(do match <- ReflectliteValue.parts v with|none=>z|some (t,a,r)=>f t a r (r % 32)):=rfl
theorem aRi (a:Addr) (w:World):(ReflectliteValue.parts (.agg #[.pointer (some ⟨5,190,none⟩),.pointer (some a),.int .u64 150])).run prog w=.ok (some (190,a,150)) w:=XW
theorem bO7 (a p:Addr) (W:World) (f:W.cell? a=some (.pointer (some p))):
  (ReflectliteValue.method (ReflectliteValue.valueError "reflectlite.Value.IsNil" 0) ReflectliteValue.isNil #[.agg #[.pointer (some ⟨5,190,none⟩),.pointer (some a),.int .u64 150]]).run prog W=.ok (.bool false) W:=by
 rw[rlm];simp only[QM,aRi,Result.andThen];simp[ReflectliteValue.isNil,loadVar,isAgg,underlying,underlying190,f,Result.andThen]
theorem bN0 (h:Value) (w:World):(Go.method 459 271 (.agg #[h]) "Elem").run prog w=.ok (297,.agg #[h]) w:=XW
theorem bNZ (h:Value) (w:World):(Go.method 459 271 (.agg #[h]) "Implements").run prog w=.ok (298,.agg #[h]) w:=XW
theorem bN1 (h:Value) (w:World):(Go.method 459 271 (.agg #[h]) "AssignableTo").run prog w=.ok (295,.agg #[h]) w:=XW
theorem bSM (w:World):(ReflectliteType.method ReflectliteType.elem #[.agg #[.pointer (some ⟨5,190,none⟩)]]).run prog w=.ok (.iface 271 (.agg #[.pointer (some ⟨5,186,none⟩)])) w:=XW
theorem bOo (w:World):(ReflectliteType.relation "Implements" ReflectliteType.implements_ #[.agg #[.pointer (some ⟨5,186,none⟩)],.iface 271 (.agg #[.pointer (some ⟨5,114,none⟩)])]).run prog w=.ok (.bool true) w:=XW
theorem bEz (v:Value) (w:World):(ReflectliteType.typeOf #[.iface 186 v]).run prog w=.ok (.iface 271 (.agg #[.pointer (some ⟨5,186,none⟩)])) w:=XW
theorem bVl (w:World):(ReflectliteType.relation "AssignableTo" ReflectliteType.assignableTo #[.agg #[.pointer (some ⟨5,186,none⟩)],.iface 271 (.agg #[.pointer (some ⟨5,186,none⟩)])]).run prog w=.ok (.bool true) w:=XW
theorem bEv (n:Int) (w:World):(ReflectliteValue.unpack (.iface 186 (.agg #[.int .i64 n]))).run prog w
  =.ok (.agg #[.pointer (some ⟨5,186,none⟩),.pointer (some ⟨w.heap.size,0,none⟩),.int .u64 153]) (w.alloc (.cells #[.int .i64 n] 186)):=XW
theorem bSL (w:World):(Rtype.elem? 190).run prog w=.ok (some 186) w:=XW
theorem bNX (p:Addr) (w:World):(ReflectliteValue.mk 186 p ReflectliteValue.flagAddr).run prog w=.ok (.agg #[.pointer (some ⟨5,186,none⟩),.pointer (some p),.int .u64 409]) w:=XW
theorem bSK (a p:Addr) (W:World) (f:W.cell? a=some (.pointer (some p))):
  (ReflectliteValue.method (ReflectliteValue.valueError "reflectlite.Value.Elem" 0) ReflectliteValue.elem #[.agg #[.pointer (some ⟨5,190,none⟩),.pointer (some a),.int .u64 150]]).run prog W
   =.ok (.agg #[.pointer (some ⟨5,186,none⟩),.pointer (some p),.int .u64 409]) W:=by
 rw[rlm];simp only[QM,aRi,Result.andThen];simp[ReflectliteValue.elem,loadVar,isAgg,underlying,underlying190,f,Result.andThen,bSL,bNX]
theorem rls (v x:Value):ReflectliteValue.set #[v,x]=(do
  let (some (dst,a,fl),some (src,b,_)):=(<- ReflectliteValue.parts v,<- ReflectliteValue.parts x)
   |unsupported (.noEntry "extern/(internal/reflectlite.Value).Set.zeroValue")
  if fl / ReflectliteValue.flagAddr % 2==0 then unsupported (.noEntry "extern/(internal/reflectlite.Value).Set.unaddressable")
  let val <- loadVar src b
  if <- Rtype.directlyAssignable dst src then storeVar dst a val
  else if <- Rtype.implements dst src then
   if (<- Rtype.kind src)==20 then
    match val with
    | .nilIface=>unsupported (.noEntry "extern/reflectlite: a nil value of one interface type handed on as a value of another")
    |_=>storeVar dst a val
   else storeVar dst a (.iface src val)
  else panicString ("reflectlite.Set: value of type "++(<- Rtype.spelt src)++ " is not assignable to type "++(<- Rtype.spelt dst))
  pure (.tuple #[])):=rfl
theorem bJx (a:Addr) (w:World):(ReflectliteValue.parts (.agg #[.pointer (some ⟨5,186,none⟩),.pointer (some a),.int .u64 409])).run prog w=.ok (some (186,a,409)) w:=XW
theorem bJy (a:Addr) (w:World):(ReflectliteValue.parts (.agg #[.pointer (some ⟨5,186,none⟩),.pointer (some a),.int .u64 153])).run prog w=.ok (some (186,a,153)) w:=XW
theorem bTN (w:World):(Rtype.directlyAssignable 186 186).run prog w=.ok true w:=XW
theorem bFv (f b:Addr) (n:Int) (old:Value) (W:World) (hb:W.cell? b=some (.int .i64 n)) (r:W.cell? f=some old) (G:W.frozen? f=false):
  (ReflectliteValue.set #[.agg #[.pointer (some ⟨5,186,none⟩),.pointer (some f),.int .u64 409],.agg #[.pointer (some ⟨5,186,none⟩),.pointer (some b),.int .u64 153]]).run prog W
   =.ok (.tuple #[]) (W.setCell f (.int .i64 n)):=by
 have u:(loadVar 186 b).run prog W=.ok (.agg #[.int .i64 n]) W:=by
  simp[loadVar,isAgg,underlying,underlying186,Result.andThen,loadCells,loadCellsFrom,hb,Addr.add]
 rw[rls];simp only[QM,bJx,bJy,Result.andThen];simp only[ReflectliteValue.flagAddr];simp[u,Result.andThen,bTN,storeVar,Value.cells,storeCells,Addr.add];rw[run_store prog W f _ _ (by rfl)];simp[r,G]
end Go.Proofs
namespace Go.Proofs
open Go.Proofs.Tryz
open Go.RowKit Go.Extern
set_option linter.unusedVariables false
set_option maxHeartbeats 4000000 in
theorem bVm (n:Int) (t b:Addr) (old:Value) (w:World) (hb:w.cell? b=some (.pointer (some t))) (r:w.cell? t=some old) (I:w.frozen? t=false):
  Calls prog 170 #[.iface 186 (.agg #[.int .i64 n]),.iface 190 (.pointer (some t)),.agg #[.pointer (some ⟨5,190,none⟩),.pointer (some b),.int .u64 150],.iface 271 (.agg #[.pointer (some ⟨5,186,none⟩)])] w fun J w'=>J=.returned (.bool true)/\w'=((w.alloc (.cells #[.pointer (some ⟨5,190,none⟩),.pointer (some b),.int .u64 150] 236)).alloc (.cells #[.int .i64 n] 186)).setCell t (.int .i64 n):=by
 have Z:=@run_callFunc_extern prog 200 _ ReflectliteType.typeOf func200 XW XW XW XW;have O:=@run_callFunc_extern prog 295 _ (ReflectliteType.relation "AssignableTo" ReflectliteType.assignableTo) func295 XW XW XW XW;have V:=@run_callFunc_extern prog 201 _ (ReflectliteValue.method (ReflectliteValue.valueError "reflectlite.Value.Elem" 0) ReflectliteValue.elem) func201 XW XW XW XW;have h6:=@run_callFunc_extern prog 167 _ (fun u=>ReflectliteValue.unpack (u.getD 0 (.tuple #[]))) func167 XW XW XW XW;have S:=@run_callFunc_extern prog 202 _ ReflectliteValue.set func202 XW XW XW XW;have tO:=bEz;have mA:=bN1;have a25:=bVl;have L:=bEv;have f:t.block<w.heap.size:=by
  rcases Nat.lt_or_ge t.block w.heap.size with h|h
  ·exact h
  ·simp[World.cell?,Array.getElem?_eq_none h] at r
 have G:b.block<w.heap.size:=by
  rcases Nat.lt_or_ge b.block w.heap.size with h|h
  ·exact h
  ·simp[World.cell?,Array.getElem?_eq_none h] at hb
 have el:=bSK b t (w.alloc (.cells #[.pointer (some ⟨5,190,none⟩),.pointer (some b),.int .u64 150] 236)) (by rw[World.cell?_alloc_lt _ _ b G];exact hb);have st:=bFv t ⟨w.heap.size+1,0,none⟩ n old ((w.alloc (.cells #[.pointer (some ⟨5,190,none⟩),.pointer (some b),.int .u64 150] 236)).alloc (.cells #[.int .i64 n] 186))
  (by rw[World.cell?_alloc_at _ _ _ _ XU];rfl)
  (by rw[World.cell?_alloc_lt _ _ t (by simp;omega),World.cell?_alloc_lt _ _ t f];exact r)
  (by rw[World.frozen?_alloc_old _ _ t (by simp;omega),World.frozen?_alloc_old _ _ t (Nat.ne_of_lt f)];exact I)
 go_enter func170,ntmps170
 go_wp2
 refine wp_loop_rounds 1 ?_;rw[rounds_succ]
 go_wp2
 go_ret
 exact⟨rfl,rfl⟩
set_option maxHeartbeats 4000000 in
theorem bSA (n:Int) (t:Addr) (old:Value) (w:World) (G:w.cell? ⟨0,0,none⟩=some (.iface 271 (.agg #[.pointer (some ⟨5,114,none⟩)]))) (r:w.cell? t=some old) (J:w.frozen? t=false):
  Calls prog 118 #[.iface 186 (.agg #[.int .i64 n]),.iface 190 (.pointer (some t))] w fun S w'=>S=.returned (.bool true)/\w'=((((w.alloc (.cells #[.pointer (some t)] 190)).alloc (.cells #[.pointer (some ⟨5,190,none⟩),.pointer (some ⟨w.heap.size,0,none⟩),.int .u64 150] 236)).alloc (.cells #[.pointer (some ⟨5,190,none⟩),.pointer (some ⟨w.heap.size,0,none⟩),.int .u64 150] 236)).alloc (.cells #[.int .i64 n] 186)).setCell t (.int .i64 n):=by
 have h6:=@run_callFunc_extern prog 167 _ (fun u=>ReflectliteValue.unpack (u.getD 0 (.tuple #[]))) func167 XW XW XW XW;have h7:=@run_callFunc_extern prog 168 _ (ReflectliteValue.methodAny (ReflectliteValue.valueError "reflectlite.Value.Type" 0) (fun t _ _ _=>ReflectliteType.toType t)) func168 XW XW XW XW;have h8:=@run_callFunc_extern prog 169 _ (ReflectliteValue.method (ReflectliteValue.valueError "reflectlite.Value.IsNil" 0) ReflectliteValue.isNil) func169 XW XW XW XW;have h27:=@run_callFunc_extern prog 283 _ (ReflectliteType.abiMethod fun t=>do pure (.int .u8 (<- Rtype.kind t))) func283 XW XW XW XW;have h37:=@run_callFunc_extern prog 297 _ (ReflectliteType.method ReflectliteType.elem) func297 XW XW XW XW;have h38:=@run_callFunc_extern prog 298 _ (ReflectliteType.relation "Implements" ReflectliteType.implements_) func298 XW XW XW XW;have f6:=bEu;have f7:=bIQ;have mK:=bNY;have mE:=bN0;have mI:=bNZ;have V:=bOU;have Z:=bOV;have e27:=bSM;have i25:=bOo;have I:0<w.heap.size:=by
  rcases Nat.eq_zero_or_pos w.heap.size with O|h
  ·simp[World.cell?,O] at G
  ·exact h
 have f:t.block<w.heap.size:=by
  rcases Nat.lt_or_ge t.block w.heap.size with h|h
  ·exact h
  ·simp[World.cell?,Array.getElem?_eq_none h] at r
 have n8:=bO7 ⟨w.heap.size,0,none⟩ t ((w.alloc (.cells #[.pointer (some t)] 190)).alloc (.cells #[.pointer (some ⟨5,190,none⟩),.pointer (some ⟨w.heap.size,0,none⟩),.int .u64 150] 236)) XU;have hg2:((w.alloc (.cells #[.pointer (some t)] 190)).alloc (.cells #[.pointer (some ⟨5,190,none⟩),.pointer (some ⟨w.heap.size,0,none⟩),.int .u64 150] 236)).cell? ⟨0,0,none⟩=some (.iface 271 (.agg #[.pointer (some ⟨5,114,none⟩)])):=by
  rw[World.cell?_alloc_lt _ _ ⟨0,0,none⟩ XU,World.cell?_alloc_lt _ _ ⟨0,0,none⟩ I];exact G
 have L:=bVm n t ⟨w.heap.size,0,none⟩ old ((w.alloc (.cells #[.pointer (some t)] 190)).alloc (.cells #[.pointer (some ⟨5,190,none⟩),.pointer (some ⟨w.heap.size,0,none⟩),.int .u64 150] 236)) XU
  (by rw[World.cell?_alloc_lt _ _ t (by simp;omega),World.cell?_alloc_lt _ _ t f];exact r)
  (by rw[World.frozen?_alloc_old _ _ t (by simp;omega),World.frozen?_alloc_old _ _ t (Nat.ne_of_lt f)];exact J)
 clear G
 go_enter func118,ntmps118
 go_wp2_with (go_at_call 170;refine L.mono ?_;rintro e w' ⟨rfl,rfl⟩)
 go_ret
 exact⟨rfl,rfl⟩
end Go.Proofs
namespace Go.Proofs
open Go.Proofs.Tryz
open Go.RowKit Go.Sort Go.Proofs.YtjjbojomlfgjlaaGreatDoor
set_option linter.unusedVariables false
theorem bO8 (x:Int) (w:World):Calls prog 186 #[.int .i64 x] w fun e w'=>e=.returned (.bool false)/\w'=w:=by
 go_enter func186,ntmps186
 go_wp2
 go_ret
 exact⟨rfl,rfl⟩
theorem bBn (x y:Int) (w:World):Calls prog 148 #[.int .i64 x,.int .i64 y] w fun e w'=>e=.returned (.int .i64 (Lib.compareInt x y))/\w'=w:=by
 have h:=fun x=>bO8 x w
 unfold Lib.compareInt
 by_cases r:x<y
 ·have G:decide (x<y)=true:=by simpa using r
  rw[JV r]
  go_enter func148,ntmps148
  go_wp2_with (go_at_call 186;refine(h _).mono ?_;rintro e w' ⟨rfl,rfl⟩)
  go_ret
  exact⟨rfl,rfl⟩
 ·have G:decide (x<y)=false:=by simpa using r
  rw[JK r]
  by_cases f:y<x
  ·have u:decide (y<x)=true:=by simpa using f
   rw[JV f]
   go_enter func148,ntmps148
   go_wp2_with (go_at_call 186;refine(h _).mono ?_;rintro e w' ⟨rfl,rfl⟩)
   go_ret
   exact⟨rfl,rfl⟩
  ·have u:decide (y<x)=false:=by simpa using f
   rw[JK f]
   go_enter func148,ntmps148
   go_wp2_with (go_at_call 186;refine(h _).mono ?_;rintro e w' ⟨rfl,rfl⟩)
   go_ret
   exact⟨rfl,rfl⟩
theorem aRl (b:Nat) (x y z:Int) (w:World) (hx:w.cell? ⟨b,0,none⟩=some (.int .i64 x)) (hy:w.cell? ⟨b,1,none⟩=some (.int .i64 y)) (G:w.cell? ⟨b,2,none⟩=some (.int .i64 z)):
  Calls prog 173 #[.slice (some ⟨b,0,none⟩) 3 3] w fun e w'=>e=.returned (.int .i64 (yG x y z))/\w'=w:=by
 unfold yG
 by_cases r:x=0
 ·subst r;rw[JK XU]
  by_cases f:y=0
  ·subst f;rw[JK XU]
   by_cases u:z=0
   ·subst u
    go_enter func173,ntmps173
    go_wp2
    refine wp_loop_rounds 4 ?_
    iterate 4 (rw[rounds_succ];go_wp2)
    go_ret
    exact⟨rfl,rfl⟩
   ·go_enter func173,ntmps173
    go_wp2
    refine wp_loop_rounds 3 ?_
    iterate 3 (rw[rounds_succ];go_wp2)
    go_ret
    exact⟨rfl,rfl⟩
  ·rw[JV f]
   go_enter func173,ntmps173
   go_wp2
   refine wp_loop_rounds 2 ?_
   iterate 2 (rw[rounds_succ];go_wp2)
   go_ret
   exact⟨rfl,rfl⟩
 ·rw[JV r]
  go_enter func173,ntmps173
  go_wp2
  refine wp_loop_rounds 1 ?_;rw[rounds_succ]
  go_wp2
  go_ret
  exact⟨rfl,rfl⟩
end Go.Proofs
namespace Go.Proofs
open Go.Proofs.Tryz
open Go.RowKit Go.Sort Go.Proofs.YtjjbojomlfgjlaaGreatDoor
set_option linter.unusedVariables false
def lY (s:Seg):List Value:=[.int .i64 s.X1,.int .i64 s.Y1,.int .i64 s.X2,.int .i64 s.Y2]
theorem aCt (w:World) (o:Obj):w.alloc o=grow w #[o]:=rfl
set_option maxHeartbeats 4000000 in
theorem bKM (V G I r S f J u:Int) (w:World) (O:G=r) (L:¬f=u):Calls prog 121 #[.agg #[.int .i64 V,.int .i64 G,.int .i64 I,.int .i64 r],.agg #[.int .i64 S,.int .i64 f,.int .i64 J,.int .i64 u]] w fun e w'=>e=.returned (.int .i64 (-1))/\∃q Z,w'=grow (w.drewN q) Z:=by
 have e1:(G==r)=true:=by simpa using O
 have e2:(f==u)=false:=by simpa using L
 clear O L
 go_enter func121,ntmps121
 go_wp2
 go_region_held3 (fun w'=>w'.cell? ⟨w.heap.size,0,none⟩=some (.int .i64 V)/\w'.cell? ⟨w.heap.size,1,none⟩=some (.int .i64 G)/\w'.cell? ⟨w.heap.size,2,none⟩=some (.int .i64 I)/\w'.cell? ⟨w.heap.size,3,none⟩=some (.int .i64 r)/\w'.cell? ⟨w.heap.size+1,0,none⟩=some (.int .i64 S)/\w'.cell? ⟨w.heap.size+1,1,none⟩=some (.int .i64 f)/\w'.cell? ⟨w.heap.size+1,2,none⟩=some (.int .i64 J)/\w'.cell? ⟨w.heap.size+1,3,none⟩=some (.int .i64 u)) (go_keep) (fail)
 all_goals go_wp2
 all_goals go_ret
 all_goals exact⟨rfl,_,_,by rw[aCt,aCt,grow_grow,drew_grow];rfl⟩
set_option maxHeartbeats 4000000 in
theorem bKN (V G I r S f J u:Int) (w:World) (O:¬G=r) (L:f=u):Calls prog 121 #[.agg #[.int .i64 V,.int .i64 G,.int .i64 I,.int .i64 r],.agg #[.int .i64 S,.int .i64 f,.int .i64 J,.int .i64 u]] w fun e w'=>e=.returned (.int .i64 (1))/\∃q Z,w'=grow (w.drewN q) Z:=by
 have e1:(G==r)=false:=by simpa using O
 have e2:(f==u)=true:=by simpa using L
 clear O L
 go_enter func121,ntmps121
 go_wp2
 go_region_held3 (fun w'=>w'.cell? ⟨w.heap.size,0,none⟩=some (.int .i64 V)/\w'.cell? ⟨w.heap.size,1,none⟩=some (.int .i64 G)/\w'.cell? ⟨w.heap.size,2,none⟩=some (.int .i64 I)/\w'.cell? ⟨w.heap.size,3,none⟩=some (.int .i64 r)/\w'.cell? ⟨w.heap.size+1,0,none⟩=some (.int .i64 S)/\w'.cell? ⟨w.heap.size+1,1,none⟩=some (.int .i64 f)/\w'.cell? ⟨w.heap.size+1,2,none⟩=some (.int .i64 J)/\w'.cell? ⟨w.heap.size+1,3,none⟩=some (.int .i64 u)) (go_keep) (fail)
 all_goals go_wp2
 all_goals go_ret
 all_goals exact⟨rfl,_,_,by rw[aCt,aCt,grow_grow,drew_grow];rfl⟩
set_option maxHeartbeats 4000000 in
theorem bKO (O r u I L f G J:Int) (w:World) (V:r=I) (S:f=J):Calls prog 121 #[.agg #[.int .i64 O,.int .i64 r,.int .i64 u,.int .i64 I],.agg #[.int .i64 L,.int .i64 f,.int .i64 G,.int .i64 J]] w fun e w'=>e=.returned (.int .i64 (yG (Lib.compareInt r f) (Lib.compareInt O L) (Lib.compareInt u G)))/\∃q Z,w'=grow (w.drewN q) Z:=by
 have e1:(r==I)=true:=by simpa using V
 have e2:(f==J)=true:=by simpa using S
 clear V S
 go_enter func121,ntmps121
 go_wp2
 go_region_held3 (fun w'=>w'.cell? ⟨w.heap.size,0,none⟩=some (.int .i64 O)/\w'.cell? ⟨w.heap.size,1,none⟩=some (.int .i64 r)/\w'.cell? ⟨w.heap.size,2,none⟩=some (.int .i64 u)/\w'.cell? ⟨w.heap.size,3,none⟩=some (.int .i64 I)/\w'.cell? ⟨w.heap.size+1,0,none⟩=some (.int .i64 L)/\w'.cell? ⟨w.heap.size+1,1,none⟩=some (.int .i64 f)/\w'.cell? ⟨w.heap.size+1,2,none⟩=some (.int .i64 G)/\w'.cell? ⟨w.heap.size+1,3,none⟩=some (.int .i64 J)) (go_keep) (fail)
 all_goals go_wp2
 all_goals (go_region_held3 (fun w'=>w'.cell? ⟨w.heap.size,0,none⟩=some (.int .i64 O)/\w'.cell? ⟨w.heap.size,1,none⟩=some (.int .i64 r)/\w'.cell? ⟨w.heap.size,2,none⟩=some (.int .i64 u)/\w'.cell? ⟨w.heap.size,3,none⟩=some (.int .i64 I)/\w'.cell? ⟨w.heap.size+1,0,none⟩=some (.int .i64 L)/\w'.cell? ⟨w.heap.size+1,1,none⟩=some (.int .i64 f)/\w'.cell? ⟨w.heap.size+1,2,none⟩=some (.int .i64 G)/\w'.cell? ⟨w.heap.size+1,3,none⟩=some (.int .i64 J)) (go_keep) (first| (go_at_call 148;refine(bBn _ _ _).mono ?_;rintro e w' ⟨rfl,rfl⟩)| (go_at_call 173;refine(aRl _ (Lib.compareInt r f) (Lib.compareInt O L) (Lib.compareInt u G) _ (by simp;rw[World.cell?_alloc_at _ _ _ _ XU];rfl) (by simp;rw[World.cell?_alloc_at _ _ _ _ XU];rfl) (by simp;rw[World.cell?_alloc_at _ _ _ _ XU];rfl)).mono ?_;rintro e w' ⟨rfl,rfl⟩)))
 all_goals go_wp2
 all_goals go_ret
 all_goals exact⟨rfl,2,_,by simp only[aCt,grow_grow,drew_grow];rfl⟩
set_option maxHeartbeats 4000000 in
theorem bKL (J G L r I f O u:Int) (w:World) (V:¬G=r) (S:¬f=u):Calls prog 121 #[.agg #[.int .i64 J,.int .i64 G,.int .i64 L,.int .i64 r],.agg #[.int .i64 I,.int .i64 f,.int .i64 O,.int .i64 u]] w fun e w'=>e=.returned (.int .i64 (yG (Lib.compareInt J I) (Lib.compareInt G f) (Lib.compareInt r u)))/\∃q Z,w'=grow (w.drewN q) Z:=by
 have e1:(G==r)=false:=by simpa using V
 have e2:(f==u)=false:=by simpa using S
 clear V S
 go_enter func121,ntmps121
 go_wp2
 go_region_held3 (fun w'=>w'.cell? ⟨w.heap.size,0,none⟩=some (.int .i64 J)/\w'.cell? ⟨w.heap.size,1,none⟩=some (.int .i64 G)/\w'.cell? ⟨w.heap.size,2,none⟩=some (.int .i64 L)/\w'.cell? ⟨w.heap.size,3,none⟩=some (.int .i64 r)/\w'.cell? ⟨w.heap.size+1,0,none⟩=some (.int .i64 I)/\w'.cell? ⟨w.heap.size+1,1,none⟩=some (.int .i64 f)/\w'.cell? ⟨w.heap.size+1,2,none⟩=some (.int .i64 O)/\w'.cell? ⟨w.heap.size+1,3,none⟩=some (.int .i64 u)) (go_keep) (fail)
 all_goals go_wp2
 all_goals (go_region_held3 (fun w'=>w'.cell? ⟨w.heap.size,0,none⟩=some (.int .i64 J)/\w'.cell? ⟨w.heap.size,1,none⟩=some (.int .i64 G)/\w'.cell? ⟨w.heap.size,2,none⟩=some (.int .i64 L)/\w'.cell? ⟨w.heap.size,3,none⟩=some (.int .i64 r)/\w'.cell? ⟨w.heap.size+1,0,none⟩=some (.int .i64 I)/\w'.cell? ⟨w.heap.size+1,1,none⟩=some (.int .i64 f)/\w'.cell? ⟨w.heap.size+1,2,none⟩=some (.int .i64 O)/\w'.cell? ⟨w.heap.size+1,3,none⟩=some (.int .i64 u)) (go_keep) (first| (go_at_call 148;refine(bBn _ _ _).mono ?_;rintro e w' ⟨rfl,rfl⟩)| (go_at_call 173;refine(aRl _ (Lib.compareInt J I) (Lib.compareInt G f) (Lib.compareInt r u) _ (by simp;rw[World.cell?_alloc_at _ _ _ _ XU];rfl) (by simp;rw[World.cell?_alloc_at _ _ _ _ XU];rfl) (by simp;rw[World.cell?_alloc_at _ _ _ _ XU];rfl)).mono ?_;rintro e w' ⟨rfl,rfl⟩)))
 all_goals go_wp2
 all_goals go_ret
 all_goals exact⟨rfl,2,_,by simp only[aCt,grow_grow,drew_grow];rfl⟩
theorem bKP (a b:Seg) (w:World):Calls prog 121 #[.agg (lY a).toArray,.agg (lY b).toArray] w fun e w'=>e=.returned (.int .i64 (qN a b))/\∃q G,w'=grow (w.drewN q) G:=by
 obtain⟨Z,L,O,I⟩:=a;obtain⟨V,u,S,J⟩:=b;unfold qN;dsimp only
 by_cases f:L=I<;>by_cases r:u=J
 ·rw[JK (by simp[r]),JK (by simp[f]),JV f];exact bKO _ _ _ _ _ _ _ _ w f r
 ·rw[JV ⟨f,r⟩];exact bKM _ _ _ _ _ _ _ _ w f r
 ·rw[JK (by simp[f]),JV ⟨r,f⟩];exact bKN _ _ _ _ _ _ _ _ w f r
 ·rw[JK (by simp[f]),JK (by simp[r]),JK f];exact bKL _ _ _ _ _ _ _ _ w f r
end Go.Proofs
namespace Go.Proofs
open Go.Proofs.Tryz
open Go.Shelf
def bNw:Go.Shelf.Ren:=⟨fun|6=>120|15=>172|14=>171|28=>211|29=>212|20=>203|21=>204|22=>205|23=>206|24=>207|25=>208|26=>209|27=>210|46=>238|47=>239|48=>240|49=>241|50=>242|57=>261|n=>n,fun|22=>75|24=>63|25=>192|3=>3|39=>247|0=>0|53=>292|55=>264|4=>4|46=>286|45=>285|50=>197|5=>5|9=>9|66=>308|70=>312|76=>322|77=>71|n=>n,fun|n=>n⟩
theorem aWE:Go.Proofs.SlLaysF0.n6 prog bNw:={
 mixed:=XW
 f6:=⟨f120.name,by decide,func120.trans (congrArg some XW)⟩
 f14:=⟨Tryz.f171.name,by decide,func171.trans (congrArg some XW)⟩
 f15:=func172.trans (congrArg some XW)
 f20:=⟨f203.name,by decide,func203.trans (congrArg some XW)⟩
 f21:=⟨f204.name,by decide,func204.trans (congrArg some XW)⟩
 f22:=⟨f205.name,by decide,func205.trans (congrArg some XW)⟩
 f23:=⟨f206.name,by decide,func206.trans (congrArg some XW)⟩
 f24:=⟨f207.name,by decide,func207.trans (congrArg some XW)⟩
 f25:=⟨f208.name,by decide,func208.trans (congrArg some XW)⟩
 f26:=⟨f209.name,by decide,func209.trans (congrArg some XW)⟩
 f27:=⟨f210.name,by decide,func210.trans (congrArg some XW)⟩
 f28:=func211.trans (congrArg some XW)
 f29:=func212.trans (congrArg some XW)
 f46:=⟨f238.name,by decide,func238.trans (congrArg some XW)⟩
 f47:=func239.trans (congrArg some XW)
 f48:=func240.trans (congrArg some XW)
 f49:=⟨f241.name,by decide,func241.trans (congrArg some XW)⟩
 f50:=⟨f242.name,by decide,func242.trans (congrArg some XW)⟩
 f57:=⟨f261.name,by decide,func261.trans (congrArg some XW)⟩
 t0:=underlying0
 a0:=isAgg0
 z0:=sizeOf0
 v0:=zeroValue0
 t3:=underlying3
 a3:=isAgg3
 z3:=sizeOf3
 v3:=zeroValue3
 t4:=underlying4
 a4:=isAgg4
 z4:=sizeOf4
 v4:=zeroValue4
 t5:=underlying5
 a5:=isAgg5
 z5:=sizeOf5
 v5:=zeroValue5
 t9:=underlying9
 a9:=isAgg9
 z9:=sizeOf9
 v9:=zeroValue9
 t22:=underlying75
 a22:=isAgg75
 z22:=sizeOf75
 v22:=zeroValue75
 t25:=underlying192
 a25:=isAgg192
 z25:=sizeOf192
 v25:=zeroValue192
 t39:=underlying247
 a39:=isAgg247
 z39:=sizeOf247
 v39:=zeroValue247
 t45:=underlying285
 a45:=isAgg285
 z45:=sizeOf285
 v45:=zeroValue285
 t46:=underlying286
 a46:=isAgg286
 z46:=sizeOf286
 v46:=zeroValue286
 t50:=underlying197
 a50:=isAgg197
 z50:=sizeOf197
 v50:=zeroValue197
 t53:=underlying292
 a53:=isAgg292
 z53:=sizeOf292
 v53:=zeroValue292
 t55:=underlying264
 a55:=isAgg264
 z55:=sizeOf264
 v55:=zeroValue264
 t66:=underlying308
 a66:=isAgg308
 z66:=sizeOf308
 v66:=zeroValue308
 t70:=underlying312
 a70:=isAgg312
 z70:=sizeOf312
 v70:=zeroValue312
 t76:=underlying322
 a76:=isAgg322
 z76:=sizeOf322
 v76:=zeroValue322
 t77:=underlying71
 a77:=isAgg71
 z77:=sizeOf71
 v77:=zeroValue71}
end Go.Proofs
namespace Go.Proofs.YtjjbojomlfgjlaaGreatDoor
open Go.Proofs.Tryz
open Go.Vm Go.RowKit Go.Lib Go.Sort
set_option linter.unusedVariables false
theorem bKG {α:Type} [Inhabited α] {enc:α->List Value} {k:Nat} {w:World} {base:Nat} {e:TypeId} {g n cap q:Nat} {cs:List Value} {d:Array α} (h:w.ownsRow base e k (.slice (some ⟨g,0,none⟩) n cap) n cs) (f:d.size=n):
  (putRowK enc k (Sort.ahead w q) g 0 d).ownsRow base e k (.slice (some ⟨g,0,none⟩) n cap) n (flatK enc k d).toList:=by
 rcases h.2 with ⟨e0,_⟩|⟨V,I,cur,e0,hb,L,G,hm,J,S⟩
 ·cases e0
 ·injection e0 with e1 _ e3
  injection e1 with e1
  injection e1 with e1
  subst e1;subst e3;have O:n*k<=cap*k:=JY k G;refine⟨by simp[f],.inr ⟨g,cap,putCells id 0 (flatK enc k d) cur,rfl,hb,?_,G,hm,by simpa[putCells] using J,?_⟩⟩
  ·simp[putRowK,putRow,mapBlock,Sort.ahead,Array.getElem?_modify,L,onCells]
  ·apply List.ext_getElem?;intro j;rw[JH,Array.getElem?_toList,Array.getElem?_toList]
   by_cases r:j<n*k
   ·have u:j<cur.size:=XY;rw[JV r];simp only[putCells,Array.getElem?_mapIdx,Array.getElem?_eq_getElem u,Option.map_some];rw[JV ⟨Nat.zero_le _,by rw[size_flatK,f];omega⟩,Array.getElem?_eq_getElem (by rw[size_flatK,f];exact r)];simp[getElem!_pos,show j<d.size*k by rw[f];exact r]
   ·rw[JK r,Array.getElem?_eq_none (by rw[size_flatK,f];omega)]
theorem bKI {w:World} {os:Array Obj} {base:Nat} {e:TypeId} {k:Nat} {u:Value} {n:Nat} {cs:List Value} (h:w.ownsRow base e k u n cs):(grow w os).ownsRow base e k u n cs:=by
 refine⟨h.1,?_⟩;rcases h.2 with G|⟨g,f,cur,J,I,r,rest⟩
 ·exact .inl G
 ·exact .inr ⟨g,f,cur,J,I,by rw[heap_grow_old _ _ (JQ.1 r).1];exact r,rest⟩
theorem bVe {B:Nat} {w0 w:World} {os:Array Obj} (h:Go.RowKit.Below B w0 w) (r:B<=w.heap.size):Go.RowKit.Below B w0 (grow w os):=
 ⟨h.os,h.tape,h.output,by have:=h.size;rw[size_grow];omega,fun k f=>by rw[heap_grow_old _ _ XY];exact h.block k f⟩
theorem aHa {w:World} {ρ:Own} {st:Nat->Prop} {k:IntKind} {n:Int} {v:Value} (h:Rel EE w ρ st (.int k n) v):v=.int k n:=by
 cases h;rfl
theorem k4 {k:Nat} (h:k<4):k=0\/k=1\/k=2\/k=3:=XY
theorem bTm {w:World} {ρ:Own} {st:Nat->Prop} {l:List Seg} {f:Nat->Value} (r:∀i (h:i<l.length) k (u:k<(EE.enc .seg l[i]).length),Rel EE w ρ st (EE.enc .seg l[i])[k] (f (i*UU.size .seg+k))):
  ∀i (h:i<l.length) k,k<4->f (i*4+k)=(lY l[i])[k]!:=by
 intro i hi k u;rcases k4 u with rfl|rfl|rfl|rfl
 ·exact aHa (r i hi 0 (show 0<4 by decide))
 ·exact aHa (r i hi 1 (show 1<4 by decide))
 ·exact aHa (r i hi 2 (show 2<4 by decide))
 ·exact aHa (r i hi 3 (show 3<4 by decide))
theorem bI4 {w:World} {ρ:Own} {st:Nat->Prop} {l:List Seg} {f:Nat->Value} (G:∀i (h:i<l.length) k,k<4->f (i*4+k)=(lY l[i])[k]!):
  ∀i (h:i<l.length) k (u:k<(EE.enc .seg l[i]).length),Rel EE w ρ st (EE.enc .seg l[i])[k] (f (i*UU.size .seg+k)):=by
 intro i hi k u;have r:k<4:=u;have e:=G i hi k r;rw[show i*UU.size .seg+k=i*4+k from rfl,e];rcases k4 r with rfl|rfl|rfl|rfl
 ·exact .int _ _
 ·exact .int _ _
 ·exact .int _ _
 ·exact .int _ _
theorem bQp (l:List Seg) (i k:Nat) (hi:i<l.length) (u:k<4):(flatK lY 4 l.toArray).toList.getD (i*4+k) undef=(lY l[i])[k]!:=by
 have lt:i*4+k<(flatK lY 4 l.toArray).size:=by
  rw[size_flatK];have:l.toArray.size=l.length:=XU;omega
 have f:(flatK lY 4 l.toArray)[i*4+k]! =(lY l.toArray[(i*4+k) / 4]!)[(i*4+k) % 4]!:=get_flatK _ _ _ _ (by rw[size_flatK] at lt;exact lt);rw[getElem!_pos (flatK lY 4 l.toArray) (i*4+k) lt] at f;have e1:(i*4+k) / 4=i:=XY;have r:(i*4+k) % 4=k:=XY;rw[e1,r,getElem!_pos l.toArray i (by simpa using hi)] at f;rw[QG,Array.getElem?_toList,Array.getElem?_eq_getElem lt,Option.getD_some,f];simp
theorem bFd {blk cap:Nat} {l:List Seg} {w:World} (hl:lU l) (hsz:l.length<=2000000) (hH:HoldsK lY 4 w blk 0 l.toArray) (I:blk<w.heap.size):
  Calls prog 120 #[.slice (some ⟨blk,0,none⟩) l.length cap,.func (.func 121) #[] #[]] w fun e w'=>e=.returned (.tuple #[])/\∃n G,w'=grow (putRowK lY 4 (Sort.ahead w n) blk 0 (jS l).toArray) G:=by
 have eg:∀f w,(callFunc 121 f).run prog w=.ok (.enter 121 f) w:=fun f w=>kQ (fn:=f121) func121 XW rfl f w
 have h:=AnyQ.slices_SortFunc aWE 4 (fun w=>XW) (fun w=>XW) lY (fun _=>rfl) (fun x v hv=>by
  simp only[lY,List.mem_cons,List.not_mem_nil,or_false] at hv;rcases hv with rfl|rfl|rfl|rfl<;>rfl) qN aRk 121 #[] blk 0 cap l.toArray w eg (fun m G dk hdk x y=>bKP x y _) hH I (by simp;omega)
 have h':Calls prog 120 #[.slice (some ⟨blk,0,none⟩) l.length cap,.func (.func 121) #[] #[]] w fun e w'=>
   e=.returned (.tuple #[])/\∃r n G,PermIn 0 l.toArray.size l.toArray r/\SortedIn (ltOf qN) 0 l.toArray.size r/\w'=sortWorldK lY 4 w blk 0 n r G:=h
 refine h'.mono ?_
 rintro e w' ⟨rfl,r,n,G,⟨J,p2,S⟩,hs,rfl⟩
 refine⟨rfl,n,G,?_⟩;have e1:r.toList.Perm l:=by
  have Z:(r.extract 0 l.toArray.size).toList=r.toList:=by rw[<- J];simp
  have V:(l.toArray.extract 0 l.toArray.size).toList=l:=XU;rw[Z,V] at S;exact S
 have u:r.toList.length=l.toArray.size:=by rw[Array.length_toList];exact J
 have e2:r.toList=jS l:=by
  refine bJl hl e1 ?_;rw[List.pairwise_iff_getElem];intro i j hi L O;have:=hs i j (Nat.zero_le _) O (by rw[u] at L;exact L);rw[aEP] at this;have gi:r[i]! =r.toList[i]:=by rw[getElem!_pos _ _ (by rw[u] at hi;rw[J];exact hi)];simp
  have gj:r[j]! =r.toList[j]:=by rw[getElem!_pos _ _ (by rw[u] at L;rw[J];exact L)];simp
  rw[gi,gj] at this;exact this
 unfold sortWorldK;rw[<- e2]
theorem bFe (c:Nat) (w:World):Calls prog 120 #[.slice none 0 c,.func (.func 121) #[] #[]] w fun e w'=>e=.returned (.tuple #[])/\w'=w:=
 AnyF.slices_SortFunc_none aWE none c (.func (.func 121) #[] #[]) w
noncomputable section
def aP4:vJ UU
 |[.osl 0 g,.fn 121 []],.row .seg f l=>cond (Nat.beq g f) (some ([lU l/\l.length<=2000000],.raw (.tuple #[]),.row .seg f (jS l))) none
 |_,_=>none
theorem bSP {C:Cfg UU} (hP:C.P=prog) (hE:C.E=EE) (w0:World):vI C 120 aP4 w0:=by
 refine⟨fun Z w=>by rw[hP];exact kQ (fn:=f120) func120 XW rfl Z w,fun st ρ w Z k0 xs ob ob' cs r hb hst hdom hsep hob hsz O nE hm hc kH hpr hown=>?_⟩;unfold aP4 at hm;split at hm
 ·rename_i g g' l;obtain⟨hg,hm⟩:=cM hm;obtain rfl:=QZ hg;cases hm;obtain rfl:0=k0:=by cases hown;rfl
  obtain⟨h1,h2⟩:lU l/\l.length<=2000000:=hc;rw[hE] at hob O ⊢;obtain⟨u,cells,hu,hup,hro,hcs⟩:=hob;have e0:=O 0 XU;have e1:=O 1 XU;obtain⟨al⟩:=Z
  match al,hsz with
  |[x,y],_=>
   simp at e0 e1;obtain rfl:x=u:=by
    cases e0 with
    |osl _ _ u' G _=>
     rw[hu] at G;cases G;rfl
    |oslOld _ _ g2 u' v G hlt=>
     rw[hu] at G;cases G;omega
   obtain rfl:y=.func (.func 121) #[] #[]:=by
    cases e1 with
    |fn _ _ vs hn hl=>
     have:vs=#[]:=Array.eq_empty_of_size_eq_zero hn;rw[this]
   rw[hP];have hcells:=bTm (f:=fun j=>cells.getD j undef) hcs;have hbase:w0.heap.size<=w.heap.size:=hb.size;have fin:∀(w':World) (L:List Value),w'.ownsRow w0.heap.size (UU.ety .seg) (UU.size .seg) x (jS l).length L->(∀i (h:i<(jS l).length) k,k<4->L.getD (i*4+k) undef=(lY (jS l)[i])[k]!)->Go.RowKit.Below w0.heap.size w w'->
     (∀b,b<w.heap.size->blk x≠some b->w'.heap[b]?=w.heap[b]?)->∃v ρ',Ending.returned (.tuple #[])=.returned v/\(((aC.raw (.tuple #[]):aC UU).nS=true->Rel EE w' cW (fun _=>False) (.raw (.tuple #[])) v)/\(uJ 0 (.raw (.tuple #[]):aC UU) (.row .seg g (jS l))=true->Rel EE w' ρ' (fun _=>False) (.raw (.tuple #[])) v))/\
   gE EE w' ρ' (fun b=>(st b\/w.heap.size<=b\/∃nm g u,ρ nm=some (g,u)/\blk u=some b)/\b<w'.heap.size/\∀nm g u,ρ' nm=some (g,u)->blk u≠some b) w0.heap.size 0 (.row .seg g (jS l))/\
   (∀nm g' u,ρ' nm=some (g',u)->nm.id=0/\((bK.row .seg g (jS l):bK UU).simple=true->nm=.ob 0))/\Chg (fun _=>False) (fun i=>i=0) w0.heap.size ρ ρ' w w':=by
    intro w' L q1 q2 q3 q4;refine⟨_,ρ,rfl,⟨fun _=>.raw _,fun h=>by cases h⟩,⟨x,L,hu,hup,q1,bI4 (f:=fun j=>L.getD j undef) q2⟩,hdom,⟨fun _ _=>rfl,fun _ _ _ _ h=>.inl h,q3,fun b hb I=>q4 b hb (I (.ob 0) _ _ rfl hu),fun nm q u k hn h J=>.inl ⟨nm,q,u,hn,h,J⟩,fun nm nm' q q' u u' k _ _ h h' I J=>hsep _ _ _ _ _ _ k h h' I J⟩⟩
   have S:(jS l).length=l.length:=(aDo l).length_eq;rcases hro.2 with ⟨rfl,hn⟩|⟨b,cap,cur,rfl,q1,q2,q3,q4,q5,q6⟩
   ·have rO:l=[]:=List.eq_nil_of_length_eq_zero hn;subst rO;refine(bFe 0 w).mono ?_
    rintro e w' ⟨rfl,rfl⟩
    have e3:jS ([]:List Seg)=[]:=List.eq_nil_of_length_eq_zero (by rw[S];rfl);refine fin w' [] ?_ (fun i h=>?_) (Go.RowKit.Below.refl _ _) (fun b hb _=>rfl)
    ·rw[e3];exact JE _ _ _ _
    ·rw[e3] at h;exact absurd h XU
   ·have J:b<w.heap.size:=(JQ.1 q2).1;have hH:HoldsK lY 4 w b 0 l.toArray:=by
     intro j hj;rw[size_flatK] at hj;have hj':j<l.length*4:=by simpa using hj
     have V:(cur.toList.take (l.length*4))[j]?=cells[j]?:=by
      have:UU.size .seg=4:=rfl;rw[this] at q6;rw[q6]
     rw[JH,JV hj',Array.getElem?_toList] at V;have hjc:j<cells.length:=by
      have:=hro.1;have e4:UU.size .seg=4:=rfl;rw[e4] at this;omega
     rw[QL hjc] at V;have hv:=hcells (j / 4) XY (j % 4) (Nat.mod_lt _ (by decide));have hjj:j / 4*4+j % 4=j:=XY;rw[hjj,QG,QL hjc,Option.getD_some] at hv;refine⟨?_,by simp[World.frozen?,q2]⟩;rw[JW,get_flatK _ _ _ _ hj];simp only[World.cell?,q2];simp only[Option.isSome_none,Bool.false_eq_true,if_false];rw[V,hv];rw[getElem!_pos l.toArray (j / 4) (by simp;omega)];simp
    refine(bFd h1 h2 hH J).mono ?_
    rintro e w' ⟨rfl,n,os,rfl⟩
    have hsz2:(jS l).toArray.size=l.length:=by simp[S]
    refine fin _ (flatK lY 4 (jS l).toArray).toList ?_ (fun i hi k hk=>bQp _ _ _ hi hk) ?_ (fun b' hb' I=>?_)
    ·rw[S];exact bKI (bKG hro hsz2)
    ·refine bVe ?_ (by rw[size_putRowK];exact hbase);exact below_putRow (Go.RowKit.Below.refl _ _) q1
    ·have hne':b≠b':=fun e=>I (by rw[e];rfl)
     rw[heap_grow_old _ _ (by rw[size_putRowK];exact hb')];simp[putRowK,putRow,mapBlock,Sort.ahead,Array.getElem?_modify,hne']
 ·cases hm
end
end Go.Proofs.YtjjbojomlfgjlaaGreatDoor
namespace Go.Proofs.YtjjbojomlfgjlaaGreatDoor
open Go.Proofs.Tryz
open Go.Vm Go.RowKit
set_option linter.unusedVariables false
noncomputable section
set_option maxHeartbeats 4000000 in
theorem bT7 (n:Int) (w:World) (f:w.cell? ⟨0,0,none⟩=some (.iface 271 (.agg #[.pointer (some ⟨5,114,none⟩)]))):
  Calls prog 53 #[.iface 186 (.agg #[.int .i64 n])] w fun e w'=>e=.returned (.int .i64 n)/\Below w.heap.size w w':=by
 have r:0<w.heap.size:=by
  rcases Nat.eq_zero_or_pos w.heap.size with J|h
  ·simp[World.cell?,J] at f
  ·exact h
 have I:=bSA n ⟨w.heap.size,0,none⟩ (.int .i64 0) (w.alloc (.cells #[.int .i64 0] 186)) (by rw[World.cell?_alloc_lt _ _ ⟨0,0,none⟩ r];exact f) XU (World.frozen?_alloc_at _ _ _ _ rfl);have G:Calls prog 118 #[.iface 186 (.agg #[.int .i64 n]),.iface 190 (.pointer (some ⟨w.heap.size,0,none⟩))] (w.alloc (.cells #[.int .i64 0] 186)) fun e w'=>e=.returned (.bool true)/\w'.cell? ⟨w.heap.size,0,none⟩=some (.int .i64 n)/\Below w.heap.size w w':=I.mono (by
  rintro e w' ⟨rfl,rfl⟩
  refine⟨rfl,?_,?_⟩
  ·refine World.cell?_setCell_same _ _ _ (u:=.int .i64 0) ?_;rw[World.cell?_alloc_lt _ _ ⟨w.heap.size,0,none⟩ (by simp;omega),World.cell?_alloc_lt _ _ ⟨w.heap.size,0,none⟩ (by simp;omega),World.cell?_alloc_lt _ _ ⟨w.heap.size,0,none⟩ (by simp;omega),World.cell?_alloc_lt _ _ ⟨w.heap.size,0,none⟩ XU,World.cell?_alloc_at _ _ _ _ rfl];rfl
  ·exact((((((Below.refl _ w).alloc (JX _) _).alloc XU _).alloc (by simp;omega) _).alloc (by simp;omega) _).alloc (by simp;omega) _).setCell XU _)
 clear I f
 go_enter func53,ntmps53
 go_wp2_with (go_at_call 118;refine G.mono ?_;rintro e w' ⟨rfl,L,hb⟩)
 go_ret
 exact⟨rfl,hb⟩
def aNm:Model UU
 |[.raw (.iface 186 (.agg ⟨[.int .i64 n]⟩))]=>some ([],.int .i64 n)
 |_=>none
theorem bIH {C:Cfg UU} (Z:C.E=EE) (J:aW C) (I:C.P=prog) (O:∀w,C.inv w->inv1 w):aW (C.add 53 aNm):=by
 refine J.put ⟨fun f w=>by rw[I];exact kQ (fn:=f53) func53 XW rfl f w,?_⟩;intro N w f xs cs r G V u hm S;unfold aNm at hm;split at hm
 ·rename_i n;cases hm;obtain⟨a,rfl,L⟩:=aCs u;rw[I];cases L;refine(bT7 n w (O w G).1.2).mono ?_
  rintro e w' ⟨rfl,hb⟩
  exact⟨_,rfl,mY.of rfl rfl (.int _ _),hb⟩
 ·cases hm
def aNk:Model UU
 |[]=>some ([],.frz .D)
 |_=>none
theorem bIF {C:Cfg UU} (O:C.E=EE) (J:aW C) (G:C.P=prog):aW (C.add 44 aNk):=by
 refine J.put ⟨fun f w=>by rw[G];exact kQ (fn:=f44) func44 XW rfl f w,?_⟩;intro N w f xs V r I L u hm S;unfold aNk at hm;split at hm
 ·cases hm;have:f=#[]:=Array.eq_empty_of_size_eq_zero u.1;subst this;rw[G,O];refine(bTO w).mono ?_
  rintro e w' ⟨rfl,rfl⟩
  refine⟨_,rfl,mY.of rfl rfl (aH8 .D ?_),bPU w _⟩;have st:∀i,i<4->fB N (gr w [M (lD (.map (some (w.heap.size+1))) (.map (some (w.heap.size+2))) (.map (some (w.heap.size+3)))),M (strs wl1),M (strs pH),M (strs wl3)]) (w.heap.size+i):=fun i hi=>by
   refine⟨?_,fun h=>by have:=L _ h;omega⟩;show _<(w.heap++_).size;simp;omega
  exact⟨_,_,_,⟨_,rfl,st 1 XY,aFI w _ 1⟩,⟨_,rfl,st 2 XY,aFI w _ 2⟩,⟨_,rfl,st 3 XY,aFI w _ 3⟩,⟨_,rfl,st 0 XY,aFI w _ 0⟩⟩
 ·cases hm
def wP:Cfg UU:=((((bEf.add 119 aNp).add 55 aNq).add 53 aNm).add 44 aNk).vD 120 aP4
theorem bH6:aW wP:=by
 have G:=bIK rfl bHy rfl;have u:=bIL rfl G rfl;have r:=bIH rfl u rfl fun _ h=>h
 have f:=bIF rfl r rfl;exact f.aDn fun w0 _=>bSP rfl rfl w0
def aOl (f:FuncId):Option (Func×Code):=cond (Nat.beq f 52) (some (f52,bo f52)) none
theorem bOk (f:FuncId) (fn:Func) (c:Code) (h:aOl f=some (fn,c)):prog.funcs[f]?=some fn/\fn.body=some c/\∀(args:Array Value) (w:World),(callFunc f args).run prog w=.ok (.enter f args) w:=by
 unfold aOl at h;obtain⟨r,h⟩:=cM h;obtain rfl:=QZ r;cases h;exact⟨func52,XW,fun args w=>kQ (fn:=f52) func52 XW rfl args w⟩
def rN (C:Cfg UU) (r:C.P=prog:=by rfl):Cfg UU:={C with inl:=aOl,inlOK:=fun f fn c h=>by rw[r];exact bOk f fn c h,dep:=1}
theorem bWM {C:Cfg UU} (G:C.P=prog) (O:aW C) (u:C.P.follows .mixedOrders=true) {f:FuncId} {m:Model UU} {fn:Func} {c:Code} (V:C.P.funcs[f]?=some fn) (S:(fn.name== "runtime.NumGoroutine")=false)
  (hb:fn.body=some c) (hx:∀xs J r,m xs=some (J,r)->eQ J->(Nat.ble xs.length fn.ntmps&&Nat.ble fn.ntmps 1000000)=true/\∃M fuel Z,sA (exec (rN C G) fn.ntmps M fuel 0 c (dD xs) (bJ (rN C G) Z fn fun L=>L=r))):aW (C.add f m):=by
 have I:aW (rN C G):=O;have:=aW.aCv (C:=rN C G) I u V S hb hx;exact this
set_option maxRecDepth 100000
def bS8 (F:Nat):=cY (bM aAz F 0 wP) wP f54.ntmps aAz F
def bIn (F:Nat):=dO (bM aAz F 0 wP) wP f54.ntmps aAz F
abbrev bCn:=Int->Int->List Seg->List Seg->Prop
def aOG (k:ASt UU->Prop):bCn:=(fun r f u G=>k ⟨tmL [(4,.osl 122 0),(13,.osl 121 0),(14,.int .i64 r),(15,.int .i64 f)],obL [(121,.row .seg 0 u),(122,.row .seg 0 G)]⟩)
def bUN:=(cL (cB (cS (cF (cS4 (bo f54))))))
def aK6 (F:Nat) (K:zK) (n r:Nat):bCn:=aOG fun s=>iter (bS8 F 0 bUN) (aAz 0 0) n r s K
def aWh (F:Nat) (Post:aC UU->Prop):zK:=bU 0 (bIn F 0 (cS4 (cS (bo f54))) (bJ wP true f54 Post))
theorem aUj (F:Nat) (K:zK):∀n r,aK6 F K n r=zX F (aOG (K (.exit 0))) n
 |0,_=>XW
 |n+1,r=>QY (b:=(fun u f G I=>aJX (aK6 F K n (r+1)) (aOG (K (.exit 0))) u f G I)) XW (by rewrite[aUj F K n (r+1)];kernel_rfl)
theorem bMG (F:Nat) (Post:aC UU->Prop):aK6 F (aWh F Post) F 0=aSA F (fun f=>Post (.new .seg f)):=
 (aUj F _ F 0).trans XW
theorem bRG (F:Nat) (Post:aC UU->Prop) (r:List Seg):exec wP f54.ntmps aAz F 0 (bo f54) (dD [.sl .seg r]) (bJ wP true f54 Post)=aQL F r (fun f=>Post (.new .seg f)):=
 QY (b:=aYv r (fun f=>Post (.new .seg f)) (aK6 F (aWh F Post) F 0)) XW (by rewrite[bMG F Post];kernel_rfl)
def aS5:Model UU
 |[.sl .seg f]=>some ([aMh f],.new .seg (k6 f))
 |_=>none
def vO:Cfg UU:=wP.add 54 aS5
theorem bGK:aW vO:=cV bH6 mixed func54 XW XW fun xs G r h f=>by
 unfold aS5 at h;split at h
 ·rename_i u;cases h;obtain⟨F,hF⟩:=bKm u f;exact⟨XW,aAz,F,true,⟨by rw[bRG];exact hF _ rfl⟩⟩
 ·cases h
set_option maxRecDepth 100000
def bSa (F:Nat):=cY (bM aBB F 1 (rN vO)) (rN vO) Tryz.f25.ntmps aBB F
def bIp (F:Nat):=dO (bM aBB F 1 (rN vO)) (rN vO) Tryz.f25.ntmps aBB F
abbrev bCt:=Int->List Opn->Int->Int->ByteArray->ByteArray->Int->Int->Int->Int->List aA->List aA->Int->Int->List aA->List Seg->Prop
def aE5 (k:ASt UU->Prop):bCt:=(fun G u r f L O S V gI gH fL Z I J gJ gB=>k ⟨tmL [(4,.ptr 4 0),(5,.int .i64 G),(7,.ptr 23 0),(24,.sl .op u),(25,.int .i64 r),(26,.int .i64 f)],obL [(50,.row .rect 0 gJ),(51,.row .seg 0 gB),(4,.cells [.nils,.nils]),(23,.cells [.str L,.str O,.int .i64 S,.int .i64 V,.int .i64 gI,.int .i64 gH,.sl .rect fL,.sl .rect Z,.int .i64 I,.int .i64 J,.osl 51 0,.osl 50 0])]⟩)
def bUR:=(cL (cB (cS (cF (cS4 (bo Tryz.f25))))))
def aKa (F:Nat) (K:zK) (n r:Nat):bCt:=aE5 fun s=>iter (bSa F 0 bUR) (aBB 0 0) n r s K
def aWn (F:Nat) (Post:aC UU->Prop):zK:=bU 0 (bIp F 0 (cS4 (cS (bo Tryz.f25))) (bJ (rN vO) true Tryz.f25 Post))
theorem aUp (F:Nat) (K:zK):∀n r,aKa F K n r=aDK F (aE5 (K .ret)) (aE5 (K (.exit 0))) n
 |0,_=>XW
 |n+1,r=>QY (b:=(fun I G u f O S V Z gI gH fL gL J L gJ gB=>aJY (aKa F K n (r+1)) (aE5 (K .ret)) (aE5 (K (.exit 0))) I G u f O S V Z gI gH fL gL J L gJ gB)) XW (by rewrite[aUp F K n (r+1)];kernel_rfl)
theorem bMM (F:Nat) (Post:aC UU->Prop):aKa F (aWn F Post) F 0=aSB F (fun f r u=>Post (.tup [.agg [.new .seg f,.new .rect r],.int .i64 u])):=
 (aUp F _ F 0).trans XW
theorem bRJ (F:Nat) (Post:aC UU->Prop) (Z V:ByteArray) (S O I G:Int) (L J:List aA) (a1:List Opn):exec (rN vO) Tryz.f25.ntmps aBB F 0 (bo Tryz.f25) (dD [.agg [.str Z,.str V,.int .i64 S,.int .i64 O,.int .i64 I,.int .i64 G,.sl .rect L,.sl .rect J],.sl .op a1]) (bJ (rN vO) true Tryz.f25 Post)=aLq F Z V S O I G L J a1 (fun f r u=>Post (.tup [.agg [.new .seg f,.new .rect r],.int .i64 u])):=
 QY (b:=aOv Z V S O I G L J a1 (fun f r u=>Post (.tup [.agg [.new .seg f,.new .rect r],.int .i64 u])) (aKa F (aWn F Post) F 0)) XW (by rewrite[bMM F Post];kernel_rfl)
def aS8:Model UU
 |[.agg [.str O,.str L,.int .i64 J,.int .i64 I,.int .i64 r,.int .i64 f,.sl .rect G,.sl .rect u],.sl .op S]=>some ([aMj O L J I r f G u S],.tup [.agg [.new .seg ((tZ O L J I r f G u S).1),.new .rect ((tZ O L J I r f G u S).2.1)],.int .i64 ((tZ O L J I r f G u S).2.2)])
 |_=>none
def bDi:Cfg UU:=vO.add 25 aS8
theorem bGN:aW bDi:=(bWM rfl bGK) mixed (c:=bo Tryz.f25) func25 XW XW fun xs cs r h V=>by
 unfold aS8 at h;split at h
 ·rename_i S O L J u f I G Z;cases h;obtain⟨F,hF⟩:=bKp S O L J u f I G Z V;exact⟨XW,aBB,F,true,⟨by rw[bRJ];exact hF _ rfl⟩⟩
 ·cases h
set_option maxRecDepth 100000
def aT5:Model UU
 |[.agg [.int .i64 f,.int .i64 L,.int .i64 O,.int .i64 I,.int .i64 J,.int .i64 r],.agg [.int .i64 u,.int .i64 G]]=>some ([x8 f L O I J r u G],.sl .int (l9 f L O I J r u G))
 |_=>none
def wL:Cfg UU:=bDi.add 100 aT5
theorem bHL:aW wL:=cV bGN mixed func100 XW XW fun xs cs r h hc=>by
 unfold aT5 at h;split at h
 ·rename_i f I J L O S u G;cases h;refine⟨XW,M0,0,false,⟨kF (fun Q:(zzI)->Prop=>cond (f==3) ((((([aB (I-u),aB (J-G)]).length+([L,O]).length)*8<=140737488355328)/\Q (([aB (I-u),aB (J-G)])++([L,O])))) (Q ([aB (I-u),aB (J-G)]))) (fun Q=>Q (l9 f I J L O S u G)) (fun r0=>(.sl .int r0:aC UU)=.sl .int (l9 f I J L O S u G)) XW (fun Q h=>?_) rfl⟩⟩
  try dsimp only at h ⊢
  unfold l9 at h;have hp:x8 f I J L O S u G:=hc;unfold x8 at hp;cases V:(f==3)
  ·try simp only[V,QJ] at h hp ⊢
   exact h
  ·try simp only[V,QX] at h hp ⊢
   have Z:=hp;refine⟨Z,?_⟩;exact h
 ·cases h
set_option maxRecDepth 100000
def aP1 (F:Nat):=cY (bM vH F 0 wL) wL Tryz.f24.ntmps vH F
def aM6 (F:Nat):=dO (bM vH F 0 wL) wL Tryz.f24.ntmps vH F
abbrev bD5:=ByteArray->Int->List Opn->Int->Int->ByteArray->Int->Int->Prop
def aAM (k:ASt UU->Prop):bD5:=(fun I G u r f J O L=>k ⟨tmL [(4,.str I),(5,.int .i64 G),(6,.ptr 6 0),(8,.ptr 8 0),(9,.ptr 9 0),(28,.sl .op u),(29,.int .i64 r),(30,.int .i64 f)],obL [(6,.cells [.frz .W2,.fn 100 [],.fn 102 []]),(8,.opq .bld J),(9,.cells [.int .i64 O,.int .i64 L])]⟩)
abbrev bD4:=ByteArray->Int->List Opn->Int->Int->zzI->Int->Int->ByteArray->Int->Int->Int->Int->Int->Int->Int->Int->Prop
def aOa (k:ASt UU->Prop):bD4:=(fun O L J I G u r f V aP aT Z gT gS gR gQ S=>k ⟨tmL [(4,.str O),(5,.int .i64 L),(6,.ptr 6 0),(8,.ptr 8 0),(9,.ptr 9 0),(11,.ptr 11 0),(28,.sl .op J),(29,.int .i64 I),(30,.int .i64 G),(60,.sl .int u),(61,.int .i64 r),(62,.int .i64 f)],obL [(6,.cells [.frz .W2,.fn 100 [],.fn 102 []]),(8,.opq .bld V),(9,.cells [.int .i64 aP,.int .i64 aT]),(11,.cells [.int .i64 Z,.int .i64 gT,.int .i64 gS,.int .i64 gR,.int .i64 gQ,.int .i64 S])]⟩)
def aF0:=(cL (cB (cS (cF (cS4 (cS (cS (bo Tryz.f24))))))))
def bVL:=(cL (cB (cS (cF (cS4 (cB (cF (cS (cS aF0)))))))))
def aFw (F:Nat) (K:zK) (n r:Nat):bD5:=aAM fun s=>iter (aP1 F 0 aF0) (vH 0 0) n r s K
def aL2 (F:Nat) (K:zK) (n r:Nat):bD4:=aOa fun s=>iter (aP1 F 2 bVL) (vH 0 2) n r s K
def aXq (F:Nat) (Post:aC UU->Prop):zK:=bU 0 (aM6 F 0 (cS4 (cS (cS (cS (bo Tryz.f24))))) (bJ wL false Tryz.f24 Post))
def aXp (F n r:Nat) (K:zK):zK:=bU 2 (aM6 F 1 (cS4 (cS (cB (cF (cS (cS aF0)))))) (bU 1 (aM6 F 0 (cS (cS (cS aF0))) (kN (aP1 F 0 aF0) (vH 0 0) n r K))))
theorem aVt (F:Nat) (K:zK):∀n r,aL2 F K n r=aHC F (aOa (K (.exit 2))) n
 |0,_=>XW
 |n+1,r=>QY (b:=(fun S O L J I G u f Z aP aT gU gT gS gR gQ V=>bAw (aL2 F K n (r+1)) (aOa (K (.exit 2))) S O L J I G u f Z aP aT gU gT gS gR gQ V)) XW (by rewrite[aVt F K n (r+1)];kernel_rfl)
theorem bNO (F n r:Nat) (K:zK):aL2 F (aXp F n r K) F 0=aNc F (aFw F K n (r+1)) (aAM (K .ret)) (aAM (K (.exit 0))):=
 (aVt F _ F 0).trans XW
theorem aVu (F:Nat) (K:zK):∀n r,aFw F K n r=xH F (aAM (K .ret)) (aAM (K (.exit 0))) n
 |0,_=>XW
 |n+1,r=>QY (b:=(fun J I G u f L S O=>bAx (aFw F K n (r+1)) (aAM (K .ret)) (aAM (K (.exit 0))) J I G u f L S O (aL2 F (aXp F n r K) F 0))) XW (by rewrite[bNO F n r K,aVu F K n (r+1)];kernel_rfl)
theorem bNP (F:Nat) (Post:aC UU->Prop):aFw F (aXq F Post) F 0=aSI F (fun r f=>Post (.tup [.str r,.int .i64 f])):=
 (aVu F _ F 0).trans XW
theorem bRr (F:Nat) (Post:aC UU->Prop) (ops:List Opn):exec wL Tryz.f24.ntmps vH F 0 (bo Tryz.f24) (dD [.int .i64 2,.sl .op ops]) (bJ wL false Tryz.f24 Post)=aLx F ops (fun r f=>Post (.tup [.str r,.int .i64 f])):=
 QY (b:=aPN ops (fun r f=>Post (.tup [.str r,.int .i64 f])) (aFw F (aXq F Post) F 0)) XW (by rewrite[bNP F Post];kernel_rfl)
def aTt:Model UU
 |[.int .i64 2,.sl .op ops]=>some ([aMt ops],.tup [.str ((o4 ops).1),.int .i64 ((o4 ops).2)])
 |_=>none
def aLk:Cfg UU:=wL.add 24 aTt
theorem bHd:aW aLk:=cV bHL mixed func24 XW XW fun xs u r h f=>by
 unfold aTt at h;split at h
 ·rename_i ops;cases h;obtain⟨F,hF⟩:=bL6 ops f;exact⟨XW,vH,F,false,⟨by rw[bRr];exact hF _ rfl⟩⟩
 ·cases h
set_option maxRecDepth 100000
theorem bRb (F:Nat) (Post:aC UU->Prop):exec aLk f8.ntmps bDd F 0 (bo f8) (dD []) (bJ aLk false f8 Post)=aLu F  (fun f=>Post (.bool f)):=
 by kernel_rfl
def aSz:Model UU
 |[]=>some ([],.bool aD8)
 |_=>none
def bDq:Cfg UU:=aLk.add 8 aSz
theorem bGd:aW bDq:=cV bHd mixed func8 XW XW fun xs u r h f=>by
 unfold aSz at h;split at h
 ·cases h;obtain⟨F,hF⟩:=bLQ ;exact⟨XW,bDd,F,false,⟨by rw[bRb];exact hF _ rfl⟩⟩
 ·cases h
set_option maxRecDepth 100000
def aTV:Model UU
 |[.str G,.str u,.int .i64 r,.int .i64 f]=>some ([],.int .i64 (oI G u r f))
 |_=>none
def wJ:Cfg UU:=bDq.add 132 aTV
theorem bHB:aW wJ:=cV bGd mixed func132 XW XW fun xs O r h L=>by
 unfold aTV at h;split at h
 ·rename_i I G u f;cases h;refine⟨XW,M0,0,false,⟨of_eq (q:=(fun Q:Int->Prop=>cond ((!(vn I))||(!(vn G))) (Q 2) (cond ((((decide (u<1))||(decide (60<u)))||(decide (f<0)))||(decide (2<f))) (Q 1) (Q 0))) fun J=>(.int .i64 J:aC UU)=.int .i64 (oI I G u f)) XW ?_⟩⟩;unfold oI;cases (((!(vn I))||(!(vn G))))<;>cases (((((decide (u<1))||(decide (60<u)))||(decide (f<0)))||(decide (2<f))))<;>rfl
 ·cases h
set_option maxRecDepth 100000
def bS3 (F:Nat):=cY (bM aAu F 0 wJ) wJ f133.ntmps aAu F
def bIi (F:Nat):=dO (bM aAu F 0 wJ) wJ f133.ntmps aAu F
def aEU (k:ASt UU->Prop):List aA->Bool->Int->Prop:=(fun u r f=>k ⟨tmL [(0,.sl .rect u),(2,.bool r),(3,.int .i64 f)],obL []⟩)
def bTv:=(cL (cB (cS (cF (cS (bo f133))))))
def aKO (F:Nat) (K:zK) (n r:Nat):List aA->Bool->Int->Prop:=aEU fun s=>iter (bS3 F 0 bTv) (aAu 0 0) n r s K
def aWR (F:Nat) (Post:aC UU->Prop):zK:=bU 0 (bIi F 0 (cS (cS (bo f133))) (bJ wJ false f133 Post))
theorem aUT (F:Nat) (K:zK):∀n r,aKO F K n r=aDE F (aEU (K .ret)) (aEU (K (.exit 0))) n
 |0,_=>XW
 |n+1,r=>QY (b:=(fun G u f=>aYP (aKO F K n (r+1)) (aEU (K .ret)) (aEU (K (.exit 0))) G u f)) XW (by rewrite[aUT F K n (r+1)];kernel_rfl)
theorem bLg (F:Nat) (Post:aC UU->Prop):aKO F (aWR F Post) F 0=aRy F (fun f=>Post (.bool f)):=
 (aUT F _ F 0).trans XW
theorem bQw (F:Nat) (Post:aC UU->Prop) (r:List aA):exec wJ f133.ntmps aAu F 0 (bo f133) (dD [.sl .rect r]) (bJ wJ false f133 Post)=aQC F r (fun f=>Post (.bool f)):=
 QY (b:=aYQ r (fun f=>Post (.bool f)) (aKO F (aWR F Post) F 0)) XW (by rewrite[bLg F Post];kernel_rfl)
def aSV:Model UU
 |[.sl .rect f]=>some ([sP f],.bool (jI f))
 |_=>none
def vK:Cfg UU:=wJ.add 133 aSV
theorem bGA:aW vK:=cV bHB mixed func133 XW XW fun xs G r h f=>by
 unfold aSV at h;split at h
 ·rename_i u;cases h;obtain⟨F,hF⟩:=bKc u f;exact⟨XW,aAu,F,false,⟨by rw[bQw];exact hF _ rfl⟩⟩
 ·cases h
def bS5 (F:Nat):=cY (bM aAw F 0 vK) vK f134.ntmps aAw F
def bIk (F:Nat):=dO (bM aAw F 0 vK) vK f134.ntmps aAw F
abbrev bCh:=List aA->Bool->Int->ByteArray->ByteArray->Int->Int->Int->Int->List aA->List aA->Prop
def aEW (k:ASt UU->Prop):bCh:=(fun u r f V Z O S J L G I=>k ⟨tmL [(1,.sl .rect u),(2,.ptr 2 0),(4,.bool r),(5,.int .i64 f)],obL [(2,.cells [.str V,.str Z,.int .i64 O,.int .i64 S,.int .i64 J,.int .i64 L,.sl .rect G,.sl .rect I])]⟩)
def bUB:=(cL (cB (cS (cF (cS (bo f134))))))
def aKU (F:Nat) (K:zK) (n r:Nat):bCh:=aEW fun s=>iter (bS5 F 0 bUB) (aAw 0 0) n r s K
def aWZ (F:Nat) (Post:aC UU->Prop):zK:=bU 0 (bIk F 0 (cS (cS (bo f134))) (bJ vK false f134 Post))
theorem aU1 (F:Nat) (K:zK):∀n r,aKU F K n r=aDG F (aEW (K .ret)) (aEW (K (.exit 0))) n
 |0,_=>XW
 |n+1,r=>QY (b:=(fun G u f Z aQ S V L O I J=>aY3 (aKU F K n (r+1)) (aEW (K .ret)) (aEW (K (.exit 0))) G u f Z aQ S V L O I J)) XW (by rewrite[aU1 F K n (r+1)];kernel_rfl)
theorem bLo (F:Nat) (Post:aC UU->Prop):aKU F (aWZ F Post) F 0=aRz F (fun f=>Post (.bool f)):=
 (aU1 F _ F 0).trans XW
theorem bRA (F:Nat) (Post:aC UU->Prop) (S O:ByteArray) (L J u r:Int) (I G V:List aA):exec vK f134.ntmps aAw F 0 (bo f134) (dD [.agg [.str S,.str O,.int .i64 L,.int .i64 J,.int .i64 u,.int .i64 r,.sl .rect I,.sl .rect G],.sl .rect V]) (bJ vK false f134 Post)=aQG F S O L J u r I G V (fun f=>Post (.bool f)):=
 QY (b:=aY4 S O L J u r I G V (fun f=>Post (.bool f)) (aKU F (aWZ F Post) F 0)) XW (by rewrite[bLo F Post];kernel_rfl)
def aSZ:Model UU
 |[.agg [.str O,.str L,.int .i64 J,.int .i64 I,.int .i64 r,.int .i64 f,.sl .rect G,.sl .rect u],.sl .rect S]=>some ([aCJ O L J I r f G u S],.bool (pJ O L J I r f G u S))
 |_=>none
def bDf:Cfg UU:=vK.add 134 aSZ
theorem bGE:aW bDf:=cV bGA mixed func134 XW XW fun xs cs r h V=>by
 unfold aSZ at h;split at h
 ·rename_i S O L J u f I G Z;cases h;obtain⟨F,hF⟩:=bKg S O L J u f I G Z V;exact⟨XW,aAw,F,false,⟨by rw[bRA];exact hF _ rfl⟩⟩
 ·cases h
set_option maxRecDepth 100000
def aTY:Model UU
 |[.agg [.str O,.str L,.int .i64 J,.int .i64 I,.int .i64 r,.int .i64 f,.sl .rect G,.sl .rect u]]=>some ([aCR O L J I r f G u],.int .i64 (uA O L J I r f G u))
 |_=>none
def bED:Cfg UU:=bDf.add 65 aTY
theorem bHE:aW bED:=cV bGE mixed func65 XW XW fun xs cs r h hc=>by
 unfold aTY at h;split at h
 ·rename_i S O L J I G f u;cases h;refine⟨XW,M0,0,false,⟨kF (fun Q:Int->Prop=>cond ((oI S O L J) !=0) (Q (oI S O L J)) (cond ((((decide (I<1))||(decide (1048576<I)))||(decide (G<1)))||(decide (1048576<G))) (Q 1) (cond ((decide (4<(f.length:Int)))||(decide (48<(u.length:Int)))) (Q 4) ((((sP f)/\((!(jI f))=false->sP u))/\cond ((!(jI f))||(!(jI u))) (Q 1) ((((aCJ S O L J I G f u f)/\((!(pJ S O L J I G f u f))=false->aCJ S O L J I G f u u))/\cond ((!(pJ S O L J I G f u f))||(!(pJ S O L J I G f u u))) (Q 13) (Q 0)))))))) (fun Q=>Q (uA S O L J I G f u)) (fun r0=>(.int .i64 r0:aC UU)=.int .i64 (uA S O L J I G f u)) XW (fun Q h=>?_) rfl⟩⟩
  try dsimp only at h ⊢
  unfold uA at h;have hp:aCR S O L J I G f u:=hc;unfold aCR at hp;cases kB:((oI S O L J) !=0)
  ·try simp only[kB,QJ] at h hp ⊢
   cases cQ:(((((decide (I<1))||(decide (1048576<I)))||(decide (G<1)))||(decide (1048576<G))))
   ·try simp only[cQ,QJ] at h hp ⊢
    cases dE:(((decide (4<(f.length:Int)))||(decide (48<(u.length:Int)))))
    ·try simp only[dE,QJ] at h hp ⊢
     obtain⟨aOr,aOq,hp⟩:=hp;refine⟨⟨aOr,aOq⟩,?_⟩;cases uY:(((!(jI f))||(!(jI u))))
     ·try simp only[uY,QJ] at h hp ⊢
      obtain⟨aFH,Z⟩:=hp;refine⟨⟨aFH,Z⟩,?_⟩;cases V:(((!(pJ S O L J I G f u f))||(!(pJ S O L J I G f u u))))
      ·try simp only[V,QJ] at h ⊢
       exact h
      ·try simp only[V,QX] at h ⊢
       exact h
     ·try simp only[uY,QX] at h hp ⊢
      exact h
    ·try simp only[dE,QX] at h hp ⊢
     exact h
   ·try simp only[cQ,QX] at h hp ⊢
    exact h
  ·try simp only[kB,QX] at h hp ⊢
   exact h
 ·cases h
set_option maxRecDepth 100000
def aTq:Model UU
 |[.agg [.int .i64 L,.int .i64 O,.int .i64 I,.int .i64 J],.agg [.int .i64 u,.int .i64 G,.int .i64 r,.int .i64 f]]=>some ([],.bool (aBs L O I J u G r f))
 |_=>none
def bE2:Cfg UU:=bED.add 125 aTq
theorem bHa:aW bE2:=tin bHE mixed func125 XW XW false fun xs f r h=>by
 unfold aTq at h;split at h
 ·cases h;exact⟨XW,XW⟩
 ·cases h
def aTs:Model UU
 |[.agg [.int .i64 L,.int .i64 O,.int .i64 I,.int .i64 J],.agg [.int .i64 u,.int .i64 G,.int .i64 r,.int .i64 f]]=>some ([],.int .i64 (o0 L O I J u G r f))
 |_=>none
def bE4:Cfg UU:=bE2.add 215 aTs
theorem bHc:aW bE4:=cV bHa mixed func215 XW XW fun xs cs r h Z=>by
 unfold aTs at h;split at h
 ·rename_i G I O S f u L J;cases h;refine⟨XW,M0,0,false,⟨of_eq (q:=(fun Q:Int->Prop=>cond ((!(kL G I O S))||(!(kL f u L J))) (Q 0) (Q (ma (ma (ma (ma 0 (aB ((aB (f-G))-O))) (aB ((aB (G-f))-L))) (aB ((aB (u-I))-S))) (aB ((aB (I-u))-J))))) fun V=>(.int .i64 V:aC UU)=.int .i64 (o0 G I O S f u L J)) XW ?_⟩⟩;unfold o0;cases (((!(kL G I O S))||(!(kL f u L J))))<;>rfl
 ·cases h
def aTd:Model UU
 |[.agg [.int .i64 L,.int .i64 O,.int .i64 I,.int .i64 J],.agg [.int .i64 u,.int .i64 G,.int .i64 r,.int .i64 f]]=>some ([],.bool (aRD L O I J u G r f))
 |_=>none
def bEQ:Cfg UU:=bE4.add 213 aTd
theorem bHU:aW bEQ:=tin bHc mixed func213 XW XW false fun xs f r h=>by
 unfold aTd at h;split at h
 ·cases h;exact⟨XW,XW⟩
 ·cases h
def aT0:Model UU
 |[.agg [.int .i64 L,.int .i64 O,.int .i64 I,.int .i64 J],.agg [.int .i64 u,.int .i64 G,.int .i64 r,.int .i64 f]]=>some ([],.bool (aD9 L O I J u G r f))
 |_=>none
def bEF:Cfg UU:=bEQ.add 141 aT0
theorem bHG:aW bEF:=tin bHU mixed func141 XW XW false fun xs f r h=>by
 unfold aT0 at h;split at h
 ·cases h;exact⟨XW,XW⟩
 ·cases h
def aT2:Model UU
 |[.agg [.int .i64 L,.int .i64 O,.int .i64 I,.int .i64 J],.agg [.int .i64 u,.int .i64 G,.int .i64 r,.int .i64 f]]=>some ([],.int .i64 (aBp L O I J u G r f))
 |_=>none
def bEG:Cfg UU:=bEF.add 139 aT2
theorem bHI:aW bEG:=cV bHG mixed func139 XW XW fun xs cs r h Z=>by
 unfold aT2 at h;split at h
 ·rename_i G I O S f u L J;cases h;refine⟨XW,M0,0,false,⟨of_eq (q:=(fun Q:Int->Prop=>cond ((!(jE G I O S))||(!(jE f u L J))) (Q 0) (Q (ma (ma (ma 0 (aB ((aB (G-f))-L))) (aB ((aB (f-G))-O))) (ma (ma 0 (aB ((aB (I-u))-J))) (aB ((aB (u-I))-S)))))) fun V=>(.int .i64 V:aC UU)=.int .i64 (aBp G I O S f u L J)) XW ?_⟩⟩;unfold aBp;cases (((!(jE G I O S))||(!(jE f u L J))))<;>rfl
 ·cases h
def aTU:Model UU
 |[.agg [.int .i64 L,.int .i64 O,.int .i64 I,.int .i64 J],.agg [.int .i64 u,.int .i64 G,.int .i64 r,.int .i64 f]]=>some ([],.bool (aRC L O I J u G r f))
 |_=>none
def bEB:Cfg UU:=bEG.add 183 aTU
theorem bHA:aW bEB:=tin bHI mixed func183 XW XW false fun xs f r h=>by
 unfold aTU at h;split at h
 ·cases h;exact⟨XW,XW⟩
 ·cases h
set_option maxRecDepth 100000
def aTh:Model UU
 |[.agg [.int .i64 O,.int .i64 L,.int .i64 J,.int .i64 I],.ref [.int .i64 G,.int .i64 u,.int .i64 r,.int .i64 f] 0]=>some ([],.bool (aMC O L J I G u r f))
 |_=>none
def wM:Cfg UU:=bEB.add 124 aTh
theorem bHZ:aW wM:=tin bHA mixed func124 XW XW false fun xs f r h=>by
 unfold aTh at h;split at h
 ·cases h;exact⟨XW,XW⟩
 ·cases h
def bSz (F:Nat):=cY (bM aB0 F 0 wM) wM f166.ntmps aB0 F
def bJO (F:Nat):=dO (bM aB0 F 0 wM) wM f166.ntmps aB0 F
def aEx (k:ASt UU->Prop):aAp:=(fun G I J L O u r f=>k ⟨tmL [(0,.sl .rect G),(1,.fn 124 [.ref [.int .i64 I,.int .i64 J,.int .i64 L,.int .i64 O] 0]),(4,.int .i64 u),(7,.int .i64 r),(8,.int .i64 f)],obL []⟩)
def bVI:=(cL (cB (cS (cF (cS (bo f166))))))
def aLZ (F:Nat) (K:zK) (n r:Nat):aAp:=aEx fun s=>iter (bSz F 0 bVI) (aB0 0 0) n r s K
def aXm (F:Nat) (Post:aC UU->Prop):zK:=bU 0 (bJO F 0 (cS (cS (bo f166))) (bJ wM false f166 Post))
theorem aVq (F:Nat) (K:zK):∀n r,aLZ F K n r=aHA F (aEx (K .ret)) (aEx (K (.exit 0))) n
 |0,_=>XW
 |n+1,r=>QY (b:=bAq (aLZ F K n (r+1)) (aEx (K .ret)) (aEx (K (.exit 0)))) XW (by rewrite[aVq F K n (r+1)];kernel_rfl)
theorem bNL (F:Nat) (Post:aC UU->Prop):aLZ F (aXm F Post) F 0=aIh F (fun f=>Post (.int .i64 f)):=
 (aVq F _ F 0).trans XW
theorem bRo (F:Nat) (Post:aC UU->Prop) (l:List aA) (G u r f:Int):exec wM f166.ntmps aB0 F 0 (bo f166) (dD [.sl .rect l,.fn 124 [.ref [.int .i64 G,.int .i64 u,.int .i64 r,.int .i64 f] 0]]) (bJ wM false f166 Post)=aQm F l G u r f (fun I=>Post (.int .i64 I)):=
 QY (b:=bAr l G u r f (fun I=>Post (.int .i64 I)) (aLZ F (aXm F Post) F 0)) XW (by rewrite[bNL F Post];kernel_rfl)
def aTj:Model UU
 |[.sl .rect l,.fn 124 [.ref [.int .i64 G,.int .i64 u,.int .i64 r,.int .i64 f] 0]]=>some ([aHq l G u r f],.int .i64 (aHV l G u r f))
 |_=>none
def bEX:Cfg UU:=wM.add 166 aTj
theorem bH2:aW bEX:=cV bHZ mixed func166 XW XW fun xs L r h J=>by
 unfold aTj at h;split at h
 ·rename_i l I G u f;cases h;obtain⟨F,hF⟩:=bL3 l I G u f J;exact⟨XW,aB0,F,false,⟨by rw[bRo];exact hF _ rfl⟩⟩
 ·cases h
set_option maxRecDepth 100000
def aUM:Model UU
 |[.sl .rect l,.fn 124 [.ref [.int .i64 G,.int .i64 u,.int .i64 r,.int .i64 f] 0]]=>some ([aEB l G u r f],.bool (aBx l G u r f))
 |_=>none
def bEe:Cfg UU:=bEX.add 115 aUM
theorem bHx:aW bEe:=cV bH2 mixed func115 XW XW fun xs S r h L=>by
 unfold aUM at h;split at h
 ·rename_i l I G u f;cases h;refine⟨XW,M0,0,false,⟨kF (fun Q:Bool->Prop=>((aHq l I G u f)/\Q (decide (0<=(aHV l I G u f))))) (fun Q=>Q (aBx l I G u f)) (fun J=>(.bool J:aC UU)=.bool (aBx l I G u f)) XW (fun Q h=>?_) rfl⟩⟩
  try dsimp only at h ⊢
  unfold aBx at h;have hp:aEB l I G u f:=L;unfold aEB at hp;have O:=hp;refine⟨O,?_⟩;exact h
 ·cases h
def aUB:Model UU
 |[.agg [.int .i64 u,.int .i64 G,.int .i64 f,.int .i64 r],.sl .rect I]=>some ([aCS u G f r I],.bool (sL u G f r I))
 |_=>none
def wS:Cfg UU:=bEe.add 58 aUB
theorem bHl:aW wS:=cV bHx mixed func58 XW XW fun xs V r h O=>by
 unfold aUB at h;split at h
 ·rename_i G I f u J;cases h;refine⟨XW,M0,0,false,⟨kF (fun Q:Bool->Prop=>((aEB J G I f u)/\Q (aBx J G I f u))) (fun Q=>Q (sL G I f u J)) (fun L=>(.bool L:aC UU)=.bool (sL G I f u J)) XW (fun Q h=>?_) rfl⟩⟩
  try dsimp only at h ⊢
  unfold sL at h;have hp:aCS G I f u J:=O;unfold aCS at hp;have S:=hp;refine⟨S,?_⟩;exact h
 ·cases h
set_option maxRecDepth 100000
def bSd (F:Nat):=cY (bM aBE F 0 wS) wS f123.ntmps aBE F
def bIs (F:Nat):=dO (bM aBE F 0 wS) wS f123.ntmps aBE F
def aOT (k:ASt UU->Prop):aAc:=(fun G u r f I=>k ⟨tmL [(1,.int .i64 G),(2,.int .i64 u),(7,.osl 67 0),(13,.int .i64 r),(14,.int .i64 f)],obL [(67,.row .rect 0 I)]⟩)
def bU3:=(cL (cB (cS (cF (cS (cS (bo f123)))))))
def aKl (F:Nat) (K:zK) (n r:Nat):aAc:=aOT fun s=>iter (bSd F 0 bU3) (aBE 0 0) n r s K
def aXB (F:Nat) (Post:aC UU->Prop):zK:=bU 0 (bIs F 0 (cS (cS (cS (bo f123)))) (bJ wS true f123 Post))
theorem aVE (F:Nat) (K:zK):∀n r,aKl F K n r=aG6 F (aOT (K (.exit 0))) n
 |0,_=>XW
 |n+1,r=>QY (b:=aZ4 (aKl F K n (r+1)) (aOT (K (.exit 0)))) XW (by rewrite[aVE F K n (r+1)];kernel_rfl)
theorem bM0 (F:Nat) (Post:aC UU->Prop):aKl F (aXB F Post) F 0=aIT F (fun f=>Post (.new .rect f)):=
 (aVE F _ F 0).trans XW
theorem bRS (F:Nat) (Post:aC UU->Prop) (G:List aA) (u r:Int):exec wS f123.ntmps aBE F 0 (bo f123) (dD [.sl .rect G,.int .i64 u,.int .i64 r]) (bJ wS true f123 Post)=aQV F G u r (fun f=>Post (.new .rect f)):=
 QY (b:=aZ5 G u r (fun f=>Post (.new .rect f)) (aKl F (aXB F Post) F 0)) XW (by rewrite[bM0 F Post];kernel_rfl)
def aSg:Model UU
 |[.sl .rect u,.int .i64 r,.int .i64 f]=>some ([aDt u r f],.new .rect (xP u r f))
 |_=>none
def vS:Cfg UU:=wS.add 123 aSg
theorem bGV:aW vS:=cV bHl mixed func123 XW XW fun xs J r h f=>by
 unfold aSg at h;split at h
 ·rename_i I G u;cases h;obtain⟨F,hF⟩:=bKx I G u f;exact⟨XW,aBE,F,true,⟨by rw[bRS];exact hF _ rfl⟩⟩
 ·cases h
set_option maxRecDepth 100000
def bS6 (F:Nat):=cY (bM aAx F 0 vS) vS f214.ntmps aAx F
def bIl (F:Nat):=dO (bM aAx F 0 vS) vS f214.ntmps aAx F
def aEX (k:ASt UU->Prop):aA5:=(fun G u r f L O I J=>k ⟨tmL [(2,.ptr 2 0),(4,.bool G),(7,.sl .rect u),(8,.int .i64 r),(9,.int .i64 f)],obL [(2,.cells [.int .i64 L,.int .i64 O,.int .i64 I,.int .i64 J])]⟩)
def bUC:=(cL (cB (cS (cF (cS (bo f214))))))
def aKV (F:Nat) (K:zK) (n r:Nat):aA5:=aEX fun s=>iter (bS6 F 0 bUC) (aAx 0 0) n r s K
def aW0 (F:Nat) (Post:aC UU->Prop):zK:=bU 0 (bIl F 0 (cS (cS (bo f214))) (bJ vS false f214 Post))
theorem aU2 (F:Nat) (K:zK):∀n r,aKV F K n r=aGP F (aEX (K .ret)) (aEX (K (.exit 0))) n
 |0,_=>XW
 |n+1,r=>QY (b:=aY5 (aKV F K n (r+1)) (aEX (K .ret)) (aEX (K (.exit 0)))) XW (by rewrite[aU2 F K n (r+1)];kernel_rfl)
theorem bLp (F:Nat) (Post:aC UU->Prop):aKV F (aW0 F Post) F 0=aIH F (fun f=>Post (.bool f)):=
 (aU2 F _ F 0).trans XW
theorem bRB (F:Nat) (Post:aC UU->Prop) (G I r u:Int) (J:List aA):exec vS f214.ntmps aAx F 0 (bo f214) (dD [.agg [.int .i64 G,.int .i64 I,.int .i64 r,.int .i64 u],.sl .rect J]) (bJ vS false f214 Post)=aQH F G I r u J (fun f=>Post (.bool f)):=
 QY (b:=aY6 G I r u J (fun f=>Post (.bool f)) (aKV F (aW0 F Post) F 0)) XW (by rewrite[bLp F Post];kernel_rfl)
def aS0:Model UU
 |[.agg [.int .i64 u,.int .i64 G,.int .i64 f,.int .i64 r],.sl .rect I]=>some ([aMe u G f r I],.bool (xO u G f r I))
 |_=>none
def tK:Cfg UU:=vS.add 214 aS0
theorem bGF:aW tK:=cV bGV mixed func214 XW XW fun xs O r h f=>by
 unfold aS0 at h;split at h
 ·rename_i I J u G L;cases h;obtain⟨F,hF⟩:=bKh I J u G L f;exact⟨XW,aAx,F,false,⟨by rw[bRB];exact hF _ rfl⟩⟩
 ·cases h
set_option maxRecDepth 100000
def aJf (F:Nat):=cY (bM tH F 0 tK) tK f175.ntmps tH F
def aM5 (F:Nat):=dO (bM tH F 0 tK) tK f175.ntmps tH F
def aEg (k:ASt UU->Prop):aAg:=(fun u r f I J L O Z V S G=>k ⟨tmL [(1,.ptr 1 0),(2,.int .i64 u),(3,.osl 12 1),(16,.osl 12 1),(17,.int .i64 r),(18,.int .i64 f)],obL [(1,.cells [.str I,.str J,.int .i64 L,.int .i64 O,.sl .rect Z,.sl .rect V,.sl .rect S]),(12,.row .rect 1 G)]⟩)
def aAH (k:ASt UU->Prop):zG:=(fun u r f G=>k ⟨tmL [(2,.int .i64 u),(3,.osl 12 1),(46,.osl 12 1),(47,.int .i64 r),(48,.int .i64 f)],obL [(12,.row .rect 1 G)]⟩)
def aEf (k:ASt UU->Prop):aAf:=(fun J I G u r f Z V S O L=>k ⟨tmL [(2,.int .i64 J),(3,.osl 12 1),(7,.ptr 7 0),(46,.osl 12 1),(47,.int .i64 I),(48,.int .i64 G),(55,.ovw 12 1 0 u 4),(56,.int .i64 r),(57,.int .i64 f)],obL [(7,.cells [.int .i64 Z,.int .i64 V,.int .i64 S,.int .i64 O]),(12,.row .rect 1 L)]⟩)
def bUl:=(cL (cB (cS (cF (cS (cS (bo f175)))))))
def aKD:=(cL (cB (cS (cF (cS (cS (cS (bo f175))))))))
def bUk:=(cL (cB (cS (cS (cB (cF (cS (cS aKD))))))))
def aLC (F:Nat) (K:zK) (n r:Nat):aAg:=aEg fun s=>iter (aJf F 0 bUl) (tH 0 0) n r s K
def aFr (F:Nat) (K:zK) (n r:Nat):zG:=aAH fun s=>iter (aJf F 2 aKD) (tH 0 2) n r s K
def aLB (F:Nat) (K:zK) (n r:Nat):aAf:=aEf fun s=>iter (aJf F 4 bUk) (tH 0 4) n r s K
def aXV (F:Nat) (Post:aC UU->Prop):zK:=bU 0 (aM5 F 0 (cS (cS (cS (bo f175)))) (bJ tK false f175 Post))
def aXU (F:Nat) (Post:aC UU->Prop):zK:=bU 2 (aM5 F 0 (cS4 (bo f175)) (bJ tK false f175 Post))
def aXT (F n r:Nat) (K:zK):zK:=bU 4 (bU 3 (aM5 F 2 (cS (cS (cS aKD))) (kN (aJf F 2 aKD) (tH 0 2) n r K)))
theorem aVX (F:Nat) (K:zK):∀n r,aLB F K n r=aGi F (aEf (K .ret)) (aEf (K (.exit 4))) n
 |0,_=>XW
 |n+1,r=>QY (b:=bAD (aLB F K n (r+1)) (aEf (K .ret)) (aEf (K (.exit 4)))) XW (by rewrite[aVX F K n (r+1)];kernel_rfl)
theorem bMi (F n r:Nat) (K:zK):aLB F (aXT F n r K) F 0=aN1 F (aFr F K n (r+1)) (aAH (K (.exit 2))) (aAH (K .ret)):=
 (aVX F _ F 0).trans XW
theorem aVY (F:Nat) (K:zK):∀n r,aFr F K n r=b7 F (aAH (K (.exit 2))) (aAH (K .ret)) n
 |0,_=>XW
 |n+1,r=>QY (b:=bAE (aFr F K n (r+1)) (aAH (K (.exit 2))) (aAH (K .ret)) (aLB F (aXT F n r K) F 0)) XW (by rewrite[bMi F n r K,aVY F K n (r+1)];kernel_rfl)
theorem bMj (F:Nat) (Post:aC UU->Prop):aFr F (aXU F Post) F 0=aEN F (fun f=>Post (.int .i64 f)):=
 (aVY F _ F 0).trans XW
theorem aVZ (F:Nat) (K:zK):∀n r,aLC F K n r=aDV F (aEg (K .ret)) (aEg (K (.exit 0))) n
 |0,_=>XW
 |n+1,r=>QY (b:=bAF (aLC F K n (r+1)) (aEg (K .ret)) (aEg (K (.exit 0)))) XW (by rewrite[aVZ F K n (r+1)];kernel_rfl)
theorem bMk (F:Nat) (Post:aC UU->Prop):aLC F (aXV F Post) F 0=aI3 F (fun f=>Post (.int .i64 f)):=
 (aVZ F _ F 0).trans (QY (b:=aDV F (aPD (fun f=>Post (.int .i64 f))) (aPC (fun f=>Post (.int .i64 f)) (aFr F (aXU F Post) F 0)) F) XW (by rewrite[bMj F Post];kernel_rfl))
theorem bR6 (F:Nat) (Post:aC UU->Prop) (L J:ByteArray) (I G:Int) (O u r:List aA):exec tK f175.ntmps tH F 0 (bo f175) (dD [.agg [.str L,.str J,.int .i64 I,.int .i64 G,.sl .rect O,.sl .rect u,.sl .rect r]]) (bJ tK false f175 Post)=aQ8 F L J I G O u r (fun f=>Post (.int .i64 f)):=
 QY (b:=bAG L J I G O u r (fun f=>Post (.int .i64 f)) (aLC F (aXV F Post) F 0)) XW (by rewrite[bMk F Post];kernel_rfl)
def aSu:Model UU
 |[.agg [.str J,.str I,.int .i64 G,.int .i64 u,.sl .rect L,.sl .rect r,.sl .rect f]]=>some ([aMp J I G u L r f],.int .i64 (aHP J I G u L r f))
 |_=>none
def iU:Cfg UU:=tK.add 175 aSu
theorem aRK:aW iU:=cV bGF mixed func175 XW XW fun xs V r h S=>by
 unfold aSu at h;split at h
 ·rename_i L J I G O u f;cases h;obtain⟨F,hF⟩:=bLL L J I G O u f S;exact⟨XW,tH,F,false,⟨by rw[bR6];exact hF _ rfl⟩⟩
 ·cases h
end
end Go.Proofs.YtjjbojomlfgjlaaGreatDoor
namespace Go.Vm
open Go.RowKit
set_option linter.unusedVariables false
section
variable {U:eW} {E:Enc U} {n:Nat} {N N':Nat->Prop} {w0 F':Fr} {w w':World} {ρ ρ':Own} {s s':ASt U} {a a':Act} {C:Cfg U}
theorem RR.anchor (h:RR E n N w0 ρ s a w) (e0:F'.w0=w0.w0) (e1:∀id p,F'.pin id=some p->(∃ob,s.objs id=some ob)/\ρ (.ob id)=some p) (e2:F'.hv=w0.hv) (e3:a'.defers=F'.ds) (ea:a'.tmps=a.tmps) (e4:F'.we=w')
  (hN:∀b,N' b->b<w0.w0.heap.size\/F'.K b) (L:∀b,bF N ρ w b->¬N' b) (G:∀nm g u b,ρ nm=some (g,u)->blk u=some b->¬F'.K b) (S:∀nm g u b,ρ nm=some (g,u)->blk u=some b->¬N' b)
  (r:∀b,b<w.heap.size->¬N' b->w'.heap[b]?=w.heap[b]?) (hb:Below w0.w0.heap.size w0.w0 w') (hsz:w.heap.size<=w'.heap.size):RR E n N' F' ρ s a' w':=by
 have f:∀b,bF N ρ w b->bF N' ρ w' b/\w'.heap[b]?=w.heap[b]?:=fun b J=>⟨⟨JI J.1 hsz,L b J,J.2.2⟩,r b J.1 (L b J)⟩
 have Z:∀t,a'.kY F' t=a.kY w0 t:=fun t=>by
  unfold Act.kY;rw[e2,ea]
 have V:F'.heap=w0.w0.heap:=by
  unfold Fr.heap;rw[e0]
 refine⟨e3,by rw[ea];exact h.size,fun t=>by rw[Z];exact(h.tmps t).mono f (fun _ _ _ I=>.inl I),fun id ob ho=>?_,h.dom,h.sep,by rw[V,e0];exact hb,fun b hb'=>by rw[V];exact hN b hb',⟨by rw[e4];exact JX _,fun b hk=>by rw[e4]⟩,G,e1,h.nle⟩;have:=(h.objs id ob ho).mono f (fun _ _ _ I=>.inl I) (fun _ _=>rfl) (fun nm g u b _ I O=>r b ((h.own I).2 b O).2 (S nm g u b I O));rw[V];exact this
theorem RR.forget (h:RR E n N w0 ρ s a w) (ho:s'.objs=s.objs) (I:a'.defers=a.defers) (f:a'.tmps.size=a.tmps.size) (r:∀t,Rel E w ρ (bF N ρ w) (s'.tmps t) (a'.kY w0 t)):RR E n N w0 ρ s' a' w:=
 ⟨I.trans h.defers,f.trans h.size,r,fun id ob O=>h.objs id ob (by rw[<- ho];exact O),fun nm g u G=>by obtain⟨ob,L,J⟩:=h.dom nm g u G;exact⟨ob,by rw[ho];exact L,J⟩,h.sep,h.below,h.nlt,h.kept,h.free,fun id p hp=>by rw[ho];exact h.pin id p hp,h.nle⟩
theorem RR.less (h:RR E n N w0 ρ s a w) (ho:s'.objs=s.objs) (f:∀t,s'.tmps t=.any\/s'.tmps t=s.tmps t):RR E n N w0 ρ s' a w:=
 h.forget ho rfl rfl fun t=>by
  rcases f t with e|e
  ·rw[e];exact .any _
  ·rw[e];exact h.tmps t
theorem RR.bJe (h:RR E n N w0 ρ s a w) {d:Nat} (r:d<n) (f:s.tmps d=.any) (u:Value):RR E n N w0 ρ s (a.put (some d) u) w:=by
 refine h.forget rfl rfl (by simp[Act.put]) fun t=>?_
 by_cases e:t=d
 ·subst e;rw[f];exact .any _
 ·have hv:(a.put (some d) u).kY w0 t=a.kY w0 t:=by
   unfold Act.kY;simp only[Act.put];rw[aFJ a.tmps d u (by rw[h.size];exact r) t,JK e]
  rw[hv];exact h.tmps t
theorem RR.bJb (h:RR E n N w0 ρ s a w) {d:Nat} (f:d<n) {u:Value} {x:aC U} (hx:Rel E w ρ (bF N ρ w) x u) (ho:s'.objs=s.objs) (r:s'.tmps d=x) (he:∀t,t≠d->s'.tmps t=s.tmps t):RR E n N w0 ρ s' (a.put (some d) u) w:=by
 refine h.forget ho rfl (by simp[Act.put]) fun t=>?_
 by_cases e:t=d
 ·subst e;rw[r];have hv:(a.put (some t) u).kY w0 t=u:=by
   rw[aBb (JI f h.nle)];simp only[Act.put];rw[aFJ a.tmps t u (by rw[h.size];exact f) t,JV rfl]
  rw[hv];exact hx
 ·have hv:(a.put (some d) u).kY w0 t=a.kY w0 t:=by
   unfold Act.kY;simp only[Act.put];rw[aFJ a.tmps d u (by rw[h.size];exact f) t,JK e]
  rw[hv,he t e];exact h.tmps t
def FrA (w0 W:World) (Kp:Nat->Prop) (f:∀b,Kp b->b<W.heap.size) (r:w0.heap.size<=W.heap.size) (u:Nat->Option (Nat×Value)) (hp:∀id p,u id=some p->∃a,p.2=.pointer a) (ds:List Deferred):Fr:=
 {w0:=w0,we:=W,K:=Kp,lt:=f,le:=r,pin:=u,pinp:=hp,ds:=ds}
end
end Go.Vm
namespace Go.Proofs.YtjjbojomlfgjlaaGreatDoor
open Go.Proofs.Tryz
open Go.Vm Go.RowKit
set_option linter.unusedVariables false
set_option maxRecDepth 100000
noncomputable section
def bK5:Oper:={dst:=none,op:=.move (.tmp 0),type:=0,pos:= "",after:=#[],guard:=none}
def opn (c:Code) (i:Nat):Oper:=(cR c).toList.getD i bK5
theorem bEp {o:Oper} {f:Nat->Option Bool} (h:o.guard=none):Region.wanted o f=true:=by
 unfold Region.wanted;rw[h]
variable {P:Program} {a a':Act} {w w':World} {ops:Array Oper} {Q:Exit->Act->World->Prop} {K:Act->World->Prop} {rest:List Oper} {o:Oper}
theorem mD {u:Value} {d:Nat} (r:o.guard=none) (G:o.dst=some d) (f:(execOp a.eval o).run P w=.ok (.value u) w') (h:wpl P ops Q rest K (a.put (some d) u) w'):wpl P ops Q (o::rest) K a w:=by
 unfold wpl;rw[JV (bEp r)];exact lP f (by rw[G];exact h)
theorem aJb {x:Operand} (ho:o.op=.assign x):(execOp a.eval o).run P w=.ok (.value (a.eval x)) w:=by
 unfold execOp;rw[ho];rfl
theorem aRa {d t:Nat} {u:Value} (f:d<a.tmps.size):(a.put (some d) u).tmps.getD t undef=if t=d then u else a.tmps.getD t undef:=by
 simp only[Act.put];exact aFJ a.tmps d u f t
section
variable {P:Program} {a:Act} {w:World} {o:Oper} {x y:Operand} {t t' e:TypeId} {i:TypeInfo} {n c:Nat}
theorem aFR (ho:o.op=.move x):(execOp a.eval o).run P w=.ok (.value (a.eval x)) w:=by
 unfold execOp;rw[ho];rfl
theorem bRw {f:Option Addr} (ho:o.op=.call {callee:=.builtin .len,args:=#[x],argTypes:=#[t]}) (hx:a.eval x=.slice f n c) (hu:P.underlying t=some (.slice e)):(execOp a.eval o).run P w=.ok (.value (.int .i64 n)) w:=by
 unfold execOp;rw[ho];simp[resolve,invoke,builtin,hx,Builtin.len_,QR hu,goInt]
theorem bRy {n m:Int} (ho:o.op=.binOp .gtr t x y t') (hx:a.eval x=.int .i64 n) (hy:a.eval y=.int .i64 m):(execOp a.eval o).run P w=.ok (.value (.bool (decide (m<n)))) w:=by
 unfold execOp;rw[ho];simp[hx,hy,eqGuard,binOp,Op.intCmp]
theorem bC3 (f:Addr):f.add 0=f:=by
 unfold Addr.add;split
 ·rfl
 ·rename_i h;exact absurd rfl h
theorem bRx {f:Addr} (ho:o.op=.indexAddr t x y) (hx:a.eval x=.slice (some f) n c) (hy:a.eval y=.int .i64 0) (u:0<n) (r:P.underlying t=some (.slice e)) (hi:P.info? e=some i):(execOp a.eval o).run P w=.ok (.value (.pointer (some f))) w:=by
 unfold execOp;rw[ho];simp[hx,hy,Instr.indexAt,QR r,sizeOf,typeInfo,hi,asIntOf,u,bC3]
theorem bRv {r:Addr} {k:Int} (ho:o.op=.load t x) (hx:a.eval x=.pointer (some r)) (u:P.underlying t=some (.int .i64)) (G:w.cell? r=some (.int .i64 k)):(execOp a.eval o).run P w=.ok (.value (.int .i64 k)) w:=by
 have f:(isAgg t).run P w=.ok false w:=by simp[isAgg,QR u]
 unfold execOp;rw[ho];simp only[hx,Instr.loadAt,Instr.sureAddr,QM,JU,QP,loadVar,f,Bool.false_eq_true,if_false,run_load,G]
theorem bRu {b q:Nat} (ho:o.op=.slice t x (some y) none none) (hx:a.eval x=.slice (some ⟨b,q,none⟩) n c) (hy:a.eval y=.int .i64 1) (G:1<=n) (f:P.underlying t=some (.slice (P.elem t))) (hi:P.info? (P.elem t)=some i) (u:i.size=1):
  (execOp a.eval o).run P w=.ok (.value (.slice (some ⟨b,if c=1 then q else q+1,none⟩) (n-1) (c-1))) w:=by
 unfold execOp;rw[ho];simp only[hx,hy,Option.map_some,Option.map_none,run_sliceAt_slice w t _ _ _ _ f,QM];rw[run_slice_l w t _ n c f .i64 1 XY XY];simp only[sizeOf,typeInfo,QM,run_program,hi,JU,QP,sliced,u]
 by_cases r:c=1
 ·simp[r]
 ·simp[r,Addr.add]
theorem bIM (k:Int) (w:World):(Instr.buildSlice 45 1 #[(0,.int .i64 k)]).run prog w=.ok (.slice (some ⟨w.heap.size,0,none⟩) 1 1) (w.alloc (.cells #[.int .i64 k] 3)):=by
 obtain⟨J,hi,r,u,I⟩:=info_parts (P:=prog) (e:=3) (z:=.int .i64 0) (size:=1) (bytes:=8) XW;simp[Instr.buildSlice,QR underlying45,sizeOf,typeInfo,hi,u,zeroValue,r,Instr.fill,newRow,Value.cells];have e:∀f:Nat->Value,(Array.map f (Array.range 1)).setIfInBounds 0 (.int .i64 k)=#[.int .i64 k]:=fun f=>by
  refine Array.ext XU fun j L G=>?_
  obtain rfl:j=0:=by
   have:j<1:=G;omega
  simp
 rw[e]
theorem bBU {k:Int} (ho:o.op=.buildSlice 45 1 #[(0,x)]) (hx:a.eval x=.int .i64 k):(execOp a.eval o).run prog w=.ok (.value (.slice (some ⟨w.heap.size,0,none⟩) 1 1)) (w.alloc (.cells #[.int .i64 k] 3)):=by
 unfold execOp;rw[ho];have:=bIM k w;simp only[List.map_toArray,List.map_cons,List.map_nil,hx,QM,this,QP,JU]
def QB (w:World) (v:Value) (b:Nat) (xs:zzI):Prop:=∃q f cur,v=.slice (some ⟨b,q,none⟩) xs.length f/\w.heap[b]?=some (.cells cur 3 (0,0))/\xs.length<=f/\q+f<=cur.size/\∀j (h:j<xs.length),cur[q+j]?=some (.int .i64 xs[j])
theorem QB.lt {v:Value} {b:Nat} {xs:zzI} (h:QB w v b xs):b<w.heap.size:=by
 obtain⟨q,r,cur,_,f,_⟩:=h;exact(JQ.1 f).1
theorem QB.same {v:Value} {b:Nat} {xs:zzI} (h:QB w v b xs) {w':World} (r:w'.heap[b]?=w.heap[b]?):QB w' v b xs:=by
 obtain⟨q,f,cur,I,G,u⟩:=h;exact⟨q,f,cur,I,r.trans G,u⟩
theorem QB.one (k:Int) (w:World):QB (w.alloc (.cells #[.int .i64 k] 3)) (.slice (some ⟨w.heap.size,0,none⟩) 1 1) w.heap.size [k]:=
 ⟨0,1,_,rfl,heap_alloc_new w _,XU,XU,fun j h=>by
  obtain rfl:j=0:=by
   have:j<1:=h;omega
  simp⟩
theorem QB.tail {b q cap:Nat} {k:Int} {xs:zzI} (h:QB w (.slice (some ⟨b,q,none⟩) (k::xs).length cap) b (k::xs)):QB w (.slice (some ⟨b,if cap=1 then q else q+1,none⟩) xs.length (cap-1)) b xs:=by
 obtain⟨J,r,cur,f,I,G,O,u⟩:=h;simp only[KW,QQ,KR,and_true,true_and] at f;obtain⟨rfl,rfl⟩:=f;rw[QT] at G;refine⟨_,_,cur,rfl,I,XY,?_,fun j L=>?_⟩
 ·split<;>omega
 ·have:=u (j+1) (by rw[QT];omega);rw[JK XY,JP,Nat.add_comm 1 j];simpa using this
theorem QB.append {v:Value} {b:Nat} {xs:zzI} {k:Int} {c:Nat} {L:Nat} (h:QB w v b xs) (hx:w.heap[L]?=some (.cells #[.int .i64 k] 3 (0,0))) (hlen:xs.length<=1000) (ty:TypeId):
  ∃v' w' b',(Builtin.append_ #[45,45] ty #[v,.slice (some ⟨L,0,none⟩) 1 c]).run prog w=.ok v' w'/\QB w' v' b' (xs++[k])/\(b'=b\/w.heap.size<=b')/\(∀j,j<w.heap.size->j≠b'->w'.heap[j]?=w.heap[j]?)/\w.heap.size<=w'.heap.size/\w'.os=w.os/\w'.tape=w.tape/\w'.output=w.output:=by
 obtain⟨i0,hi,qA,O,qS⟩:=info_parts (P:=prog) (e:=3) (z:=.int .i64 0) (size:=1) (bytes:=8) XW;obtain⟨q,G,cur,rfl,h2,h3,h4,h5⟩:=h;have I:∀(j:Nat) (u:Value),[Value.int .i64 k][j]?=some u->w.cell? ((⟨L,0,none⟩:Addr).add j)=some u:=fun j u f=>by
  obtain rfl:j=0:=by
   have:=(QA.1 f).1;have:j<1:=this;omega
  rw[bC3,cell_of_row w L 0 _ _ _ hx];simpa using f
 by_cases hr:xs.length+1<=G
 ·have hf:=run_firstCells_some (P:=prog) w i0.size 1 ⟨L,0,none⟩ 1 c [.int .i64 k] (by rw[O];rfl) I;have S:=run_storeCells_at prog b (q+xs.length) 3 [.int .i64 k] 0 cur w h2 (by simp;omega) (by simp[Value.oneCell']);simp only[JL] at S;refine⟨.slice (some ⟨b,q,none⟩) (xs.length+1) G,w.setRow b (cur.toList.take (q+xs.length)++[Value.int .i64 k]++cur.toList.drop (q+xs.length+1)).toArray,b,?_,⟨q,G,(cur.toList.take (q+xs.length)++[Value.int .i64 k]++cur.toList.drop (q+xs.length+1)).toArray,XU,setRow_heap w b cur _ 3 _ h2,by simp;omega,?_,fun j f=>?_⟩,.inl rfl,fun j _ f=>setRow_other w b j _ f,XU,rfl,rfl,rfl⟩
  ·rw[O] at hf;simp[Builtin.append_,QR underlying45,sizeOf,typeInfo,hi,O,Builtin.lenOf,hr,hf,Addr.add_lit,S]
  ·simp only[KB,QH,KQ,KZ,Array.length_toList,QT,JZ];omega
  ·rw[QH] at f;have hj':j<xs.length+1:=f;have hcl:cur.toList.length=cur.size:=Array.length_toList;have hl:(cur.toList.take (q+xs.length)).length=q+xs.length:=by rw[KQ,hcl];omega
   rw[List.getElem?_toArray,KP]
   by_cases r:j<xs.length
   ·rw[KN XY,JH,JV XY,Array.getElem?_toList,h5 j r,JO r]
   ·obtain rfl:j=xs.length:=XY;rw[List.getElem?_append_right XY,hl,Nat.sub_self];simp
 ·have J:∀(j:Nat) (u:Value),(xs.map (Value.int .i64))[j]?=some u->w.cell? ((⟨b,q,none⟩:Addr).add j)=some u:=fun j u f=>by
   have V:j<xs.length:=by simpa using (QA.1 f).1
   rw[Addr.add_lit,cell_of_row w b (q+j) cur 3 (0,0) h2,h5 j V,<- f];simp[V]
  have hg:=run_append_grow (P:=prog) w 45 ty 3 i0 (.int .i64 0) underlying45 hi qA ⟨b,q,none⟩ xs.length G (xs.map (Value.int .i64)) (by rw[O];simp) J ⟨L,0,none⟩ 1 c [.int .i64 k] (by rw[O];rfl) I XY XY (by rw[qS];exact growslice_fits XY XY);have Z:=grownCap_ge w (xs.length+1) G 3;refine⟨_,_,w.heap.size,hg,⟨0,_,_,by rw[QH];rfl,heap_alloc_new w.drew _,by rw[QH];exact Z,?_,fun j f=>?_⟩,.inr (JX _),fun j f hne=>heap_alloc_old w.drew _ f,XU,rfl,rfl,rfl⟩
  ·simp[size_zeroCells,Value.cells];omega
  ·rw[QH] at f;have hj':j<xs.length+1:=f;rw[JW]
   by_cases r:j<xs.length
   ·rw[JO r];rw[Array.getElem?_append_left (by simp;omega),Array.getElem?_append_left (by simp;omega)];simp[r]
   ·obtain rfl:j=xs.length:=XY;simp[Array.getElem?_append]
theorem bRz {v:Value} {b:Nat} {xs:zzI} {k:Int} {u:Nat} (ho:o.op=.call {callee:=.builtin .append,args:=#[x,y],argTypes:=#[45,45]}) (hx:a.eval x=v) (hy:a.eval y=.slice (some ⟨u,0,none⟩) 1 1) (h:QB w v b xs) (hb:w.heap[u]?=some (.cells #[.int .i64 k] 3 (0,0))) (hlen:xs.length<=1000):
  ∃r w' f,(execOp a.eval o).run prog w=.ok (.value r) w'/\QB w' r f (xs++[k])/\(f=b\/w.heap.size<=f)/\(∀j,j<w.heap.size->j≠f->w'.heap[j]?=w.heap[j]?)/\w.heap.size<=w'.heap.size/\w'.os=w.os/\w'.tape=w.tape/\w'.output=w.output:=by
 obtain⟨r,w',f,G,rest⟩:=h.append (c:=1) hb hlen o.type;refine⟨r,w',f,?_,rest⟩;unfold execOp;rw[ho];simp[resolve,invoke,builtin,hx,hy,G]
end
end
end Go.Proofs.YtjjbojomlfgjlaaGreatDoor
namespace Go.Proofs.YtjjbojomlfgjlaaGreatDoor
open Go.Proofs.Tryz
open Go.Vm Go.RowKit
set_option linter.unusedVariables false
set_option maxRecDepth 100000
noncomputable section
def cq:Code:=bo f174
def cq4:Code:=cS (cS (cS (cS cq)))
def qLB:Code:=cL (cB (cF cq4))
def qTL:Code:=cS cq4
def qR4:Code:=cF (cF qLB)
def qB1:Code:=cB (cS qLB)
def qR7:Code:=cF (cS (cS qB1))
def qIB:Code:=cL (cB (cS (cS (cS qB1))))
def qR8:Code:=cF qIB
def qB3:Code:=cB (cF (cS (cS qIB)))
def qR9:Code:=cF qB3
def aM8:Code:=cF (cS qB3)
def aM7:Code:=cF (cT (cS (cS qB3)))
def qL:Code:=cS (cT (cS (cS qB3)))
def aCI:Code:=cS (cS (cS qIB))
theorem bTX:cq=.seq (cF cq) (.seq (cF (cS cq)) (.seq (cF (cS (cS cq))) (.seq (cF (cS (cS (cS cq)))) (.seq (.block 0 (.loop qLB)) qTL)))):=XW
theorem bJT:qLB=.seq (.seq qR4 (.cond (.tmp 17) .skip (.exit 0))) (.block 1 (.seq (cF qB1) (.seq (cF (cS qB1)) (.seq qR7 (.block 2 (.loop qIB)))))):=XW
theorem bJU:qIB=.seq qR8 (.seq (.cond (.tmp 26) .skip (.exit 2)) (.seq (.block 3 (.seq qR9 (.seq aM8 (.cond (.tmp 43) (.seq aM7 qL) .skip)))) aCI)):=XW
theorem bJ6:cF (cS (cS (cS cq)))=.region 3 (cR (cF (cS (cS (cS cq))))) false:=XW
theorem bJ3:qR4=.region 4 (cR qR4) false:=XW
theorem bJ0:cF qB1=.region 5 (cR (cF qB1)) false:=XW
theorem bJX:cF (cS qB1)=.region 6 (cR (cF (cS qB1))) false:=XW
theorem bJ9:qL=.region 12 (cR qL) false:=XW
theorem bJ5:(cR (cF (cS (cS (cS cq))))).toList=[opn (cF (cS (cS (cS cq)))) 0,opn (cF (cS (cS (cS cq)))) 1]:=XW
theorem bJ2:(cR qR4).toList=[opn qR4 0,opn qR4 1,opn qR4 2]:=XW
theorem bJZ:(cR (cF qB1)).toList=[opn (cF qB1) 0,opn (cF qB1) 1,opn (cF qB1) 2,opn (cF qB1) 3]:=XW
theorem bJW:(cR (cF (cS qB1))).toList=[opn (cF (cS qB1)) 0,opn (cF (cS qB1)) 1,opn (cF (cS qB1)) 2]:=XW
theorem bJ8:(cR qL).toList=[opn qL 0,opn qL 1,opn qL 2,opn qL 3,opn qL 4]:=XW
def stQ (l:List aA) (m:List Bool) (ex:Nat->aC UU):ASt UU:=⟨fun u=>cond (Nat.beq u 0) (.sl .rect l) (cond (Nat.beq u 3) (.osl 61 0) (ex u)),fun u=>cond (Nat.beq u 61) (some (.row .bool 0 m)) none⟩
def xQ (v:Value):Nat->aC UU:=fun u=>cond (Nat.beq u 4) (.raw v) .any
def xA (v:Value) (a:Int):Nat->aC UU:=fun u=>cond (Nat.beq u 4) (.raw v) (cond (Nat.beq u 5) (.int .i64 a) .any)
def xI (v:Value) (a n k:Int):Nat->aC UU:=fun u=>cond (Nat.beq u 4) (.raw v) (cond (Nat.beq u 5) (.int .i64 a) (cond (Nat.beq u 24) (.int .i64 n) (cond (Nat.beq u 25) (.int .i64 k) .any)))
def xC (v:Value) (a n k:Int) (c:Bool):Nat->aC UU:=fun u=>cond (Nat.beq u 4) (.raw v) (cond (Nat.beq u 5) (.int .i64 a) (cond (Nat.beq u 24) (.int .i64 n) (cond (Nat.beq u 25) (.int .i64 k) (cond (Nat.beq u 26) (.bool c) .any))))
def xK (v:Value) (a n k:Int):Nat->aC UU:=fun u=>cond (Nat.beq u 4) (.raw v) (cond (Nat.beq u 5) (.int .i64 a) (cond (Nat.beq u 6) (.int .i64 k) (cond (Nat.beq u 24) (.int .i64 n) (cond (Nat.beq u 25) (.int .i64 k) .any))))
def xT (v:Value) (a n k:Int) (c:Bool):Nat->aC UU:=fun u=>cond (Nat.beq u 4) (.raw v) (cond (Nat.beq u 5) (.int .i64 a) (cond (Nat.beq u 6) (.int .i64 k) (cond (Nat.beq u 24) (.int .i64 n) (cond (Nat.beq u 25) (.int .i64 k) (cond (Nat.beq u 43) (.bool c) .any)))))
def mNo:Nat->Nat->Nat->Canon UU:=fun _ _ _=>⟨[],[],[],[],[]⟩
def mQ (l:List Nat):Canon UU:=⟨0::3::l,[],[(.tmp 3,61,.bool)],[],[]⟩
def pY (m:Canon UU) (Kc:ASt UU->Prop) (K:AEx->ASt UU->Prop):AEx->ASt UU->Prop:=fun e s=>match e with
 | .normal=>match canon m s with
  |some s'=>Kc s'
  |none=>False
 |e=>K e s
def KF:AEx->ASt UU->Prop:=fun _ _=>False
abbrev exq (cur:Nat) (c:Code) (s:ASt UU) (K:AEx->ASt UU->Prop):Prop:=exec iU f174.ntmps mNo 0 cur c s K
abbrev ksq (cur:Nat) (c:Code) (K:AEx->ASt UU->Prop):AEx->ASt UU->Prop:=dO (bM mNo 0 0 iU) iU f174.ntmps mNo 0 cur c K
theorem e0 (Kc:ASt UU->Prop) (l:List aA):exq 0 (cF cq) (dD [.sl .rect l]) (ksq 0 (cF (cS cq)) (ksq 0 (cF (cS (cS cq))) (pY (mQ []) Kc KF)))=
  ((0<=(l.length:Int)/\(l.length:Int)=(l.length:Int)/\(l.length:Int)*1<=140737488355328)/\((0<=(0:Int)/\(0:Int)<(List.replicate ((l.length:Int).toNat) (false:Bool)).length)/\Kc (stQ l ((List.replicate ((l.length:Int).toNat) (false:Bool)).set 0 true) fun _=>.any))):=XW
theorem e7 (Kc:ASt UU->Prop) (l:List aA) (m:List Bool) (v:Value) (a:Int):exq 1 qR7 (stQ l m (xA v a)) (pY (mQ [4,5,24,25]) Kc KF)=Kc (stQ l m (xI v a l.length 0)):=XW
theorem e8 (Kc:ASt UU->Prop) (l:List aA) (m:List Bool) (v:Value) (a n k:Int):exq 2 qR8 (stQ l m (xI v a n k)) (pY (mQ [4,5,24,25,26]) Kc KF)=Kc (stQ l m (xC v a n k (decide (k<n)))):=XW
theorem e9 (Kc:ASt UU->Prop) (l:List aA) (m:List Bool) (v:Value) (a n k:Int):exq 3 qR9 (stQ l m (xC v a n k true)) (ksq 3 aM8 (pY (mQ [4,5,6,24,25,43]) Kc KF))=
  ((0<=k/\k<m.length)/\cond (!(m.getD k.toNat default)) (((0<=a/\a<l.length)/\((0<=k/\k<l.length)/\Kc (stQ l m (xT v a n k (xL (l.getD a.toNat default) (l.getD k.toNat default))))))) (Kc (stQ l m (xT v a n k false)))):=XW
theorem kI (Kc:ASt UU->Prop) (l:List aA) (m:List Bool) (v:Value) (a n k:Int):exq 3 aM7 (stQ l m (xT v a n k true)) (pY (mQ [4,5,6,24,25]) Kc KF)=((0<=k/\k<m.length)/\Kc (stQ l (m.set k.toNat true) (xK v a n k))):=XW
theorem e13 (Kc:ASt UU->Prop) (l:List aA) (m:List Bool) (v:Value) (a n k:Int):exq 2 aCI (stQ l m (xK v a n k)) (pY (mQ [4,5,24,25]) Kc KF)=Kc (stQ l m (xI v a n (aB (k+1)))):=XW
theorem bTE (Kc:ASt UU->Prop) (l:List aA) (m:List Bool) (v:Value) (a n k:Int):exq 2 aCI (stQ l m (xT v a n k false)) (pY (mQ [4,5,24,25]) Kc KF)=Kc (stQ l m (xI v a n (aB (k+1)))):=XW
end
end Go.Proofs.YtjjbojomlfgjlaaGreatDoor
namespace Go.Proofs.YtjjbojomlfgjlaaGreatDoor
open Go.Proofs.Tryz
open Go.Vm Go.RowKit
set_option linter.unusedVariables false
set_option maxRecDepth 100000
noncomputable section
variable {N:Nat->Prop} {w0:World} {l:List aA} {m:List Bool} {ex ex':Nat->aC UU} {v:Value} {b:Nat} {xs:zzI} {ρ:Vm.Own} {a:Act} {w:World} {Q:Exit->Act->World->Prop} {cur:Nat} {c d z:Code} {mc:Canon UU}
def NQ (N:Nat->Prop) (b:Nat):Nat->Prop:=fun x=>N x\/x=b
abbrev FQ (w0 we:World) (b:Nat) (f:∀x,x=b->x<we.heap.size) (r:w0.heap.size<=we.heap.size):Fr:=FrA w0 we (fun x=>x=b) f r (fun _=>none) (fun _ _ h=>by cases h) []
structure QS (N:Nat->Prop) (w0:World) (l:List aA) (m:List Bool) (ex:Nat->aC UU) (v:Value) (b:Nat) (xs:zzI) (ρ:Vm.Own) (a:Act) (w:World):Prop where
 ge:w0.heap.size<=b
 q:QB w v b xs
 rr:∃we hlt hle,RR EE 61 (NQ N b) (FQ w0 we b hlt hle) ρ (stQ l m ex) a w
theorem aMT {F:Fr} {N:Nat->Prop} {s:ASt UU} {Kc:ASt UU->Prop} (r:jC iU F.w0) (hp:∀id,F.pin id=none) (S:RR EE 61 N F ρ s a w) (h:exq cur c s (pY mc Kc KF))
  (V:∀s' ρ' a' w',Kc s'->RR EE 61 N F ρ' s' a' w'->Q .normal a' w'):c.wp prog Q a w:=by
 refine aCf (C:=iU) (w0:=F) r mixed (fun _ _ _ id u h=>by rw[hp] at h;cases h) c cur s _ ρ a w Q h S (fun e s' ρ' a' w' f O=>?_);cases e with
 |normal=>
  simp only[pY] at f;split at f
  ·rename_i L G;obtain⟨J,I⟩:=aFY O G (fun id u h=>by rw[hp] at h;cases h);exact V L J a' w' f I
  ·exact f.elim
 |exit id=>exact(show False from f).elim
 |ret=>exact(show False from f).elim
theorem aMS {F:Fr} {N:Nat->Prop} {s:ASt UU} {K:AEx->ASt UU->Prop} (r:jC iU F.w0) (hp:∀id,F.pin id=none) (L:RR EE 61 N F ρ s a w) (h:exq cur c s (ksq cur d K)) (I:∀e s',e≠ .normal->K e s'->False)
  (J:∀s' ρ' a' w',exq cur d s' K->RR EE 61 N F ρ' s' a' w'->z.wp prog Q a' w'):(Code.seq c z).wp prog Q a w:=by
 refine wp_seq (aCf (C:=iU) (w0:=F) r mixed (fun _ _ _ id u h=>by rw[hp] at h;cases h) c cur s _ ρ a w _ h L (fun e s' ρ' a' w' f G=>?_));cases e with
 |normal=>exact J s' ρ' a' w' f G
 |exit id=>exact(I (.exit id) s' XU f).elim
 |ret=>exact(I .ret s' XU f).elim
theorem bBj {Kc:ASt UU->Prop}:∀e s',e≠ .normal->pY mc Kc KF e s'->False:=fun e s' he h=>by
 cases e with
 |normal=>exact he rfl
 |exit id=>exact h
 |ret=>exact h
theorem QS.kept {G:List Bool} {we:World} {f:∀x,x=b->x<we.heap.size} {r:w0.heap.size<=we.heap.size} {ρ':Vm.Own} {a':Act} {w':World} (I:QS N w0 l m ex v b xs ρ a w) (J:RR EE 61 (NQ N b) (FQ w0 we b f r) ρ (stQ l m ex) a w)
  (u:RR EE 61 (NQ N b) (FQ w0 we b f r) ρ' (stQ l G ex') a' w'):QS N w0 l G ex' v b xs ρ' a' w':=
 ⟨I.ge,I.q.same ((u.kept.2 b rfl).trans (J.kept.2 b rfl).symm),we,f,r,u⟩
theorem QS.vm {Pq:List Bool->(Nat->aC UU)->Prop} (J:QS N w0 l m ex v b xs ρ a w) (r:jC iU w0) (h:exq cur c (stQ l m ex) (pY mc (fun s'=>∃f ex',s'=stQ l f ex'/\Pq f ex') KF))
  (O:∀f ex' ρ' a' w',Pq f ex'->QS N w0 l f ex' v b xs ρ' a' w'->Q .normal a' w'):c.wp prog Q a w:=by
 obtain⟨we,u,G,L⟩:=J.rr;refine aMT (F:=FQ w0 we b u G) r (fun _=>rfl) L h fun s' ρ' a' w' S I=>?_
 obtain⟨f,ex',rfl,hp⟩:=S;exact O f ex' ρ' a' w' hp (J.kept L I)
theorem QS.vm2 {Pq:List Bool->(Nat->aC UU)->Prop} (L:QS N w0 l m ex v b xs ρ a w) (f:jC iU w0) (h:exq cur c (stQ l m ex) (ksq cur d (pY mc (fun s'=>∃r ex',s'=stQ l r ex'/\Pq r ex') KF)))
  (S:∀r ex' ρ' a' w',Pq r ex'->QS N w0 l r ex' v b xs ρ' a' w'->z.wp prog Q a' w'):(Code.seq c (Code.seq d z)).wp prog Q a w:=by
 obtain⟨we,u,G,O⟩:=L.rr;refine aMS (F:=FQ w0 we b u G) f (fun _=>rfl) O h bBj fun s1 ρ1 a1 w1 Z I=>?_
 refine wp_seq (aMT (F:=FQ w0 we b u G) f (fun _=>rfl) I Z fun s' ρ' a' w' V J=>?_);obtain⟨r,ex',rfl,hp⟩:=V;exact S r ex' ρ' a' w' hp (L.kept O J)
theorem QS.size (f:QS N w0 l m ex v b xs ρ a w):a.tmps.size=61:=by
 obtain⟨we,u,G,r⟩:=f.rr;exact r.size
theorem QS.rel (r:QS N w0 l m ex v b xs ρ a w) (t:Nat) (f:t<61):Rel EE w ρ (bF (NQ N b) ρ w) ((stQ l m ex).tmps t) (a.eval (.tmp t)):=by
 obtain⟨we,G,I,u⟩:=r.rr;have:=u.eval (.tmp t);have e:(stQ l m ex).eval (.tmp t)=(stQ l m ex).tmps t:=by
  exact aNt (JI f (by decide))
 rw[e] at this;exact this
theorem QS.raw {u:Value} (r:QS N w0 l m ex v b xs ρ a w) (t:Nat) (f:t<61) (he:(stQ l m ex).tmps t=.raw u):a.eval (.tmp t)=u:=by
 have:=r.rel t f;rw[he] at this;generalize a.eval (.tmp t)=x at this;cases this;rfl
theorem QS.int {k:Int} (r:QS N w0 l m ex v b xs ρ a w) (t:Nat) (f:t<61) (he:(stQ l m ex).tmps t=.int .i64 k):a.eval (.tmp t)=.int .i64 k:=by
 have:=r.rel t f;rw[he] at this;generalize a.eval (.tmp t)=x at this;cases this;rfl
theorem QS.bool {k:Bool} (r:QS N w0 l m ex v b xs ρ a w) (t:Nat) (f:t<61) (he:(stQ l m ex).tmps t=.bool k):a.eval (.tmp t)=.bool k:=by
 have:=r.rel t f;rw[he] at this;generalize a.eval (.tmp t)=x at this;cases this;rfl
theorem QS.free (f:QS N w0 l m ex v b xs ρ a w) {d:Nat} (J:d<61) (I:(stQ l m ex).tmps d=.any) (u:Value):QS N w0 l m ex v b xs ρ (a.put (some d) u) w:=by
 obtain⟨we,r,G,L⟩:=f.rr;exact⟨f.ge,f.q,we,r,G,L.bJe J I u⟩
theorem QS.put (f:QS N w0 l m ex v b xs ρ a w) {d:Nat} (J:d<61) {u:Value} {x:aC UU} (hx:∀st,Rel EE w ρ st x u) (I:(stQ l m ex').tmps d=x) (he:∀t,t≠d->(stQ l m ex').tmps t=(stQ l m ex).tmps t):QS N w0 l m ex' v b xs ρ (a.put (some d) u) w:=by
 obtain⟨we,r,G,L⟩:=f.rr;exact⟨f.ge,f.q,we,r,G,L.bJb J (hx _) rfl I he⟩
theorem QS.less (f:QS N w0 l m ex v b xs ρ a w) (G:∀t,ex' t=.any\/ex' t=ex t):QS N w0 l m ex' v b xs ρ a w:=by
 obtain⟨we,r,u,I⟩:=f.rr;refine⟨f.ge,f.q,we,r,u,I.less rfl fun t=>?_⟩;show cond (Nat.beq t 0) (aC.sl .rect l:aC UU) _=(aC.any:aC UU)\/cond (Nat.beq t 0) (aC.sl .rect l:aC UU) _=cond (Nat.beq t 0) _ _;cases Nat.beq t 0
 ·cases Nat.beq t 3
  ·exact G t
  ·exact .inr rfl
 ·exact .inr rfl
theorem QS.got (r:QS N w0 l m ex v b xs ρ a w) {d:Nat} (f:d<61) (u:Value):(a.put (some d) u).eval (.tmp d)=u:=(aRa (by rw[r.size];exact f)).trans (JV rfl)
theorem QS.oth (G:QS N w0 l m ex v b xs ρ a w) {d t:Nat} (r:d<61) (f:t≠d) (u:Value):(a.put (some d) u).eval (.tmp t)=a.eval (.tmp t):=(aRa (by rw[G.size];exact r)).trans (JK f)
theorem QS.world (hS:QS N w0 l m ex v b xs ρ a w) (hN:∀x,N x->x<w0.heap.size) {w1:World} {v1:Value} {I:Nat} {xs1:zzI} (hq:QB w1 v1 I xs1) (hb:I=b\/w.heap.size<=I) (hs:∀j,j<w.heap.size->j≠I->w1.heap[j]?=w.heap[j]?)
  (hz:w.heap.size<=w1.heap.size) (ho:w1.os=w.os) (ht:w1.tape=w.tape) (S:w1.output=w.output):QS N w0 l m ex v1 I xs1 ρ a w1:=by
 obtain⟨we,hlt,hle,G⟩:=hS.rr;have O:Below w0.heap.size w0 w:=G.below;have hsz:=O.size;have Z:w0.heap.size<=I:=by
  rcases hb with rfl|hb
  ·exact hS.ge
  ·omega
 have cQ:Below w0.heap.size w0 w1:=⟨ho.trans O.os,ht.trans O.tape,S.trans O.output,XY,fun k hk=>(hs k XY XY).trans (O.block k hk)⟩;refine⟨Z,hq,w1,fun x hx=>by rw[hx];exact hq.lt,XY,G.anchor rfl (fun _ _ h=>by cases h) rfl G.defers rfl rfl (fun x hx=>hx.elim (fun h=>.inl (hN x h)) fun h=>.inr h) (fun x J r=>?_) (fun nm g u x L f r=>?_) (fun nm g u x L f r=>?_) (fun x hx r=>hs x hx fun e=>r (.inr e)) cQ hz⟩
 ·rcases r with r|rfl
  ·exact J.2.1 (.inl r)
  ·rcases hb with rfl|hb
   ·exact J.2.1 (.inr rfl)
   ·exact absurd J.1 XY
 ·have V:x=I:=r;subst V;rcases hb with rfl|hb
  ·exact G.free nm g u _ L f rfl
  ·exact absurd ((G.own L).2 _ f).2 XY
 ·rcases r with r|rfl
  ·exact G.aEG L f (.inl r)
  ·rcases hb with rfl|hb
   ·exact G.free nm g u _ L f rfl
   ·exact absurd ((G.own L).2 _ f).2 XY
theorem QS.start {N:Nat->Prop} (hN:∀x,N x->x<w0.heap.size) (I:RR EE 61 N (Fr.pure w0) ρ (stQ l m ex) a w) (k:Int):QS N w0 l m ex (.slice (some ⟨w.heap.size,0,none⟩) 1 1) w.heap.size [k] ρ a (w.alloc (.cells #[.int .i64 k] 3)):=by
 have J:Below w0.heap.size w0 w:=I.below;have S:=J.size;have f:∀j:Nat,j<w.heap.size->(w.alloc (.cells #[.int .i64 k] 3)).heap[j]?=w.heap[j]?:=fun j hj=>heap_alloc_old w _ hj
 have hz:(w.alloc (.cells #[.int .i64 k] 3)).heap.size=w.heap.size+1:=XU;have cQ:Below w0.heap.size w0 (w.alloc (.cells #[.int .i64 k] 3)):=⟨J.os,J.tape,J.output,XY,fun k hk=>(f k XY).trans (J.block k hk)⟩;have Z:=QB.one k w;generalize w.alloc (.cells #[.int .i64 k] 3)=W1 at f hz cQ Z ⊢;refine⟨S,Z,W1,fun x hx=>XY,XY,I.anchor rfl (fun _ _ h=>by cases h) rfl I.defers rfl rfl (fun x hx=>hx.elim (fun h=>.inl (hN x h)) fun h=>.inr h) (fun x L r=>?_) (fun nm g u x O G r=>?_) (fun nm g u x O G r=>?_) (fun x hx _=>f x hx) cQ XY⟩
 ·rcases r with r|rfl
  ·exact L.2.1 r
  ·exact absurd L.1 (Nat.lt_irrefl _)
 ·have V:x=w.heap.size:=r;subst V;exact absurd ((I.own O).2 _ G).2 (Nat.lt_irrefl _)
 ·rcases r with r|rfl
  ·exact I.aEG O G r
  ·exact absurd ((I.own O).2 _ G).2 (Nat.lt_irrefl _)
end
end Go.Proofs.YtjjbojomlfgjlaaGreatDoor
