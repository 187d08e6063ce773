/- Lemmas, walks and laws of this proof, part 6. Conditions: those that each names. -/
import Derived.Test.YtgcpildegdgekaaGreatDoorMM5
import Derived.Test.YtgcpildegdgekaaGreatDoorMM4
import Derived.Test.YtgcpildegdgekaaGreatDoorMM3
import Derived.WalkKit
import Derived.OwnWalk
import Derived.Lib.Walk
import Derived.Lib.SliceRun
import Derived.Deep.LoopGhost
import Derived.LaidEql
import Derived.RowKitTokens
import Derived.Deep.RegionHeld3
import Derived.Shelf.SlSortCmp.QuietGrown
import Derived.Ground.SlsfProg
import Derived.Shelf.SlSortCmp.NoneTotal
import Derived.Test.YtgcpildegdgekaaGreatDoorProg
import Derived.Lib.OwnBridge
set_option maxRecDepth 100000
set_option linter.unusedVariables false
namespace Go.Proofs.YtgcpildegdgekaaGreatDoor
open Go.Proofs.Tryz
open Go.RowKit Go.Vm
noncomputable section
def rOK (r:aA):Prop:=(-4194304<=r.X/\r.X<=4194304)/\(-4194304<=r.Y/\r.Y<=4194304)/\(0<=r.W/\r.W<=2097152)/\(0<=r.H/\r.H<=2097152)
def okL (n:Nat) (l:List aA):Prop:=l.length<=n/\∀r∈l,rOK r
def arR (r:aA):Int:=r.W*r.H
theorem Qv {r:aA} (h:rOK r): -4398046511104<=arR r/\arR r<=4398046511104:=by
 have j:0<=r.W*r.H:=Int.mul_nonneg h.2.2.1.1 h.2.2.2.1;have f:r.W*r.H<=2097152*2097152:=Int.mul_le_mul h.2.2.1.2 h.2.2.2.2 h.2.2.2.1 KI;unfold arR;omega
theorem xl {a b c d:Int} (h:0<=b/\b<=2097152):0<=kA a b c d/\kA a b c d<=2097152:=by
 unfold kA;omega
theorem Fp {c r:aA} (f:rOK c):0<=shP c r/\shP c r<=4398046511104:=by
 obtain⟨I,G⟩:=xl (a:=c.X) (c:=r.X) (d:=r.W) f.2.2.1;obtain⟨j,u⟩:=xl (a:=c.Y) (c:=r.Y) (d:=r.H) f.2.2.2;have L:0<=shP c r:=Int.mul_nonneg I j;have J:shP c r<=2097152*2097152:=Int.mul_le_mul G u j KI;omega
theorem tp {c r:aA} (f:rOK c) (j:rOK r):Ku c.X c.Y c.W c.H r.X r.Y r.W r.H=shP c r:=by
 have hb:=Fp (r:=r) f;unfold rOK at f j;unfold Ku;rw[cN (n:=c.X+c.W) KI KI,cN (n:=r.X+r.W) KI KI,cN (n:=c.Y+c.H) KI KI,cN (n:=r.Y+r.H) KI KI];simp only[miE,maE];rw[cN (n:=min (c.X+c.W) (r.X+r.W)-max c.X r.X) KI KI,cN (n:=min (c.Y+c.H) (r.Y+r.H)-max c.Y r.Y) KI KI];have e:max (min (c.X+c.W) (r.X+r.W)-max c.X r.X) 0*max (min (c.Y+c.H) (r.Y+r.H)-max c.Y r.Y) 0=shP c r:=rfl;grind [cN]
theorem xL {f:aA->Int} {B:Int}:∀{l:List aA},(∀r∈l, -B<=f r/\f r<=B)-> -(l.length*B)<=dG f l/\dG f l<=l.length*B
 |[],_=>by
  show -((0:Int)*B)<=0/\0<=(0:Int)*B;omega
 |r::l,h=>by
  have G:=h r (QI ..);have u:=xL fun s j=>h s (QA _ j)
  rw[pB,show (((r::l).length:Nat):Int)*B=l.length*B+B by simp_all[Int.add_mul]];omega
theorem se (f:aA->Int) (l:List aA) (i:Nat) (h:i<l.length):dG f (l.take (i+1))=dG f (l.take i)+f (l.getD i default):=by
 grind [M1,dG]
theorem M4 (f:aA->Int):∀l:List aA,dG (fun r=> -f r) l= -dG f l
 |[]=>rfl
 |r::l=>by
  rw[pB,pB,M4 f l];omega
theorem Te (l:List aA) (f:aA->Int) (B s0:Int) (hf:∀r∈l, -B<=f r/\f r<=B) (G:0<=B) (h1: -4000000000000000000<=s0-l.length*B) (h2:s0+l.length*B<=4000000000000000000) (W:Nat->Int->Int->Prop)
  (L:∀n (i:Nat) s,i<l.length-> -4000000000000000000<=s->s<=4000000000000000000-> -4000000000000000000<=s+f (l.getD i default)->s+f (l.getD i default)<=4000000000000000000->W n ((i+1:Nat):Int) (s+f (l.getD i default))->W (n+1) i s)
  (O:∀n,W (n+1) l.length (s0+dG f l)) (n:Nat) (S:l.length<n):W n 0 s0:=by
 have I:∀i,i<=l.length-> -4000000000000000000<=s0+dG f (l.take i)/\s0+dG f (l.take i)<=4000000000000000000:=fun i hi=>by
  have Z:=xL (f:=f) (B:=B) (l:=l.take i) fun r u=>hf r (List.mem_of_mem_take u)
  have V:((l.take i).length:Int)*B<=l.length*B:=Int.mul_le_mul_of_nonneg_right (by grind) G;omega
 have j:∀(n i:Nat),i<=l.length->l.length<n+i->W n i (s0+dG f (l.take i)):=by
  intro n
  induction n with
  |zero=>omega
  |succ n J=>
   grind [se]
 have:=j n 0 (Nat.zero_le _) KI;grind [dG]
def Us (cells f j:List aA):Prop:=okL 10000 cells/\okL 20 f/\okL 20 j
def x8 (cells f j:List aA):Bool:=(cells.all fun c=>decide (kB f j c=arR c))&&decide (mU f-mU j-dG (kB f j) cells=0)
theorem aVH {j u:List aA} (I:j.length<=20) (hh:u.length<=20) {c:aA} (G:rOK c): -87960930222080<=kB j u c/\kB j u c<=87960930222080:=by
 have S:=xL (f:=shP c) (B:=4398046511104) (l:=j) fun r _=>by have:=Fp (r:=r) G;omega
 have O:=xL (f:=shP c) (B:=4398046511104) (l:=u) fun r _=>by have:=Fp (r:=r) G;omega
 have L:=M3 (tq c) j;have J:=M3 (tq c) u;unfold kB;omega
theorem aRP (a0 a1 j:List aA) (h:Us a0 a1 j):∃F,∀Q:Bool->Prop,Q (x8 a0 a1 j)->aKr F a0 a1 j Q:=by
 obtain⟨⟨c1,c2⟩,⟨r1,r2⟩,⟨s1,s2⟩⟩:=h;obtain⟨F,hF⟩:∃F:Nat,20000<F:=⟨20001,KI⟩;refine⟨F,fun Q hQ=>?_⟩;have ba1:=xL (f:=arR) (B:=4398046511104) (l:=a1) fun r u=>Qv (r2 r u)
 have ba2:=xL (f:=arR) (B:=4398046511104) (l:=j) fun r u=>Qv (s2 r u)
 show We F Q a0 a1 j 0 a1 a1.length 0;unfold We;refine Te a1 arR 4398046511104 0 (fun r u=>Qv (r2 r u)) KI KI KI (fun n i s=>Ju F (ga Q (Mm F Q)) n a0 a1 j s a1 a1.length i) (fun n i s hi Z V O L hw=>?_) (fun n=>?_) F KI
 ·show cond (decide ((i:Int)<(a1.length:Int))) _ _;grind [arR,cN]
 show cond (decide ((a1.length:Int)<(a1.length:Int))) _ _;rw[dB KI,QK,Int.zero_add];show Mm F Q a0 a1 j (dG arR a1) j j.length 0;unfold Mm;refine Te j (fun r=> -arR r) 4398046511104 (dG arR a1) (fun r u=>by have:=Qv (s2 r u);omega) KI KI KI (fun n i s=>Jt F (fy Q (Ml F Q)) n a0 a1 j s j j.length i) (fun n i s hi Z V O L hw=>?_) (fun n=>?_) F KI
 ·show cond (decide ((i:Int)<(j.length:Int))) _ _;grind [arR,cN]
 show cond (decide ((j.length:Int)<(j.length:Int))) _ _;rw[dB KI,QK,M4,<- Int.sub_eq_add_neg];show Ml F Q a1 j (mU a1-mU j) a0 a0.length 0;have hA: -200000000000000<=mU a1-mU j/\mU a1-mU j<=200000000000000:=by
  have e1:mU a1=dG arR a1:=rfl;have e2:mU j=dG arR j:=rfl;omega
 unfold x8 at hQ;generalize mU a1-mU j=A at hQ hA ⊢;have J:∀i,i<=a0.length-> -1000000000000000000<=A-dG (kB a1 j) (a0.take i)/\A-dG (kB a1 j) (a0.take i)<=1000000000000000000:=fun i hi=>by
  have h3:=xL (f:=kB a1 j) (B:=87960930222080) (l:=a0.take i) fun r u=>aVH r1 s1 (c2 r (List.mem_of_mem_take u))
  grind
 unfold Ml;have e0:A=A-dG (kB a1 j) (a0.take ((0:Int)).toNat):=(Int.sub_zero A).symm;rw[e0];refine uB a0 (fun c=>!(decide (kB a1 j c=arR c))) (Q false) (Q (decide (A-dG (kB a1 j) a0=0))) (fun (n:Nat) (i:Int)=>Js F (fun _ _ t7 _ _ _=>Q (t7==0)) (fun _ _ t6 _ _ _ _=>Q t6) n a1 j (A-dG (kB a1 j) (a0.take i.toNat)) a0 a0.length i) (fun n i hi hx hw=>?_) (fun n hy=>?_) F KI (fun q=>?_) (fun q=>?_)
 ·show cond (decide ((i:Int)<(a0.length:Int))) _ _;rw[dD KI,QY];refine⟨⟨KI,KI⟩,?_⟩;have I:=c2 _ (eF hi);have hbi:=J i KI;have G:=J (i+1) KI;have ebd:=Qv I;have eT:=se (kB a1 j) a0 i hi;rw[QZ] at hw ⊢;rw[eT] at hw G;generalize dG (kB a1 j) (a0.take i)=S at hw hbi G ⊢;clear eT e0;generalize a0.getD i default=c at hx hw I G ebd ⊢;unfold V4;refine Te a1 (shP c) 4398046511104 0 (fun r u=>by have:=Fp (r:=r) I;omega) KI KI KI (fun m k s=>Jr F _ m a1 j (A-S) s a0 a0.length i a1 a1.length k c.X c.Y c.W c.H) (fun m k s hk Z V O L hw'=>?_) (fun m=>?_) F KI
  ·show cond (decide ((k:Int)<(a1.length:Int))) _ _;grind [tp,cN]
  show cond (decide ((a1.length:Int)<(a1.length:Int))) _ _;rw[dB KI,QK,Int.zero_add];have bs1:=xL (f:=shP c) (B:=4398046511104) (l:=a1) fun r _=>by have:=Fp (r:=r) I;omega
  show Wd F _ _ _ a1 j (A-S) (dG (shP c) a1) a0 a0.length i j j.length 0 c.X c.Y c.W c.H;unfold Wd;refine Te j (fun r=> -shP c r) 4398046511104 (dG (shP c) a1) (fun r u=>by have:=Fp (r:=r) I;omega) KI KI KI (fun m k s=>Sa F _ m a1 j (A-S) s a0 a0.length i j j.length k c.X c.Y c.W c.H) (fun m k s hk Z V O L hw'=>?_) (fun m=>?_) F KI
  ·show cond (decide ((k:Int)<(j.length:Int))) _ _;grind [tp,cN]
  show cond (decide ((j.length:Int)<(j.length:Int))) _ _;grind [M4,kB,arR,cN]
 ·show cond (decide ((a0.length:Int)<(a0.length:Int))) _ _;grind [dB,List.take_length]
 ·grind
 grind
def Ux (cells f j:List aA):Prop:=(Us cells f j)
def Kt (cells f j:List aA):Bool:=(x8 cells f j)
def Iz:CnT:=cnL [(0,⟨[0,1,4,7,8],[],[],[],[]⟩)]
abbrev Dc:=List (List aA)->List aA->List aA->Int->Int->Int->Prop
def aG7 (l:List (List aA)) (f u:List aA) (Q:Int->Prop) (j:Dc):Prop:=j l f u 0 (l.length:Int) 0
def aG6 (J S O:Dc):Dc:=fun j G u L I f=>cond (decide (f<I)) ((let e0:=(j.getD f.toNat default);(((0<=f/\f<j.length)/\(Ux e0 G u))/\cond (Kt e0 G u) (S j G u f I f) (J j G u L I (aB (f+1)))))) (O j G u L I f)
def St (F:Nat) (j f:Dc):Nat->Dc
 |0=>fun _ _ _ _ _ _=>False
 |n+1=>aG6 (St F j f n) j f
def Wq (F:Nat) (Q:Int->Prop):Dc:=St F (fun _ _ _ f _ _=>Q f) (fun _ _ _ _ _ _=>Q (-1)) F
def aLI (F:Nat) (l:List (List aA)) (f j:List aA) (Q:Int->Prop):Prop:=aG7 l f j Q (Wq F Q)
theorem aVV {α:Type} [Inhabited α] (l:List α) (p:α->Bool) (Q:Int->Prop) (W:Nat->Int->Prop) (G:∀n (i:Nat),i<l.length->(p (l.getD i default)=true->Q i)->(p (l.getD i default)=false->W n ((i+1:Nat):Int))->W (n+1) i)
  (j:∀n,Q (-1)->W (n+1) l.length):∀(n i:Nat),i<=l.length->l.length<n+i->Q (pJ p (l.drop i) i)->W n i:=by
 intro n
 induction n with
 |zero=>omega
 |succ n u=>
  intro i J I f
  by_cases h:i<l.length
  ·grind [nR,pJ]
  ·obtain rfl:i=l.length:=KI;rw[KK] at f;exact j n f
def Hp (f j c:List aA):Bool:=x8 c f j
def Vb (l:List (List aA)) (f j:List aA):Prop:=l.length<=2000000/\okL 20 f/\okL 20 j/\∀c∈l,okL 10000 c
def Tt (l:List (List aA)) (f j:List aA):Int:=pJ (Hp f j) l 0
theorem aR9 (l:List (List aA)) (f j:List aA) (h:Vb l f j):∃F,∀Q:Int->Prop,Q (Tt l f j)->aLI F l f j Q:=by
 obtain⟨S,J,I,G⟩:=h;refine⟨l.length+1,fun Q u=>?_⟩;show Wq (l.length+1) Q l f j 0 l.length 0;unfold Wq;refine aVV l (Hp f j) Q (fun n i=>St (l.length+1) _ _ n l f j 0 l.length i) (fun n i hi O hw=>?_) (fun n L=>?_) (l.length+1) 0 KI KI u
 ·show cond (decide ((i:Int)<(l.length:Int))) _ _;rw[dD KI,QY];refine⟨⟨⟨KI,KI⟩,G _ (eF KI),J,I⟩,?_⟩;rw[QZ,dX hi KI];show cond (Hp f j (l.getD i default)) _ _;grind
 ·show cond (decide ((l.length:Int)<(l.length:Int))) _ _;grind
def Mb (l:List (List aA)) (f j:List aA):Prop:=(Vb l f j)
def Fk (l:List (List aA)) (f j:List aA):Bool:=decide (0<=(Tt l f j))
def Lx (a0:List (List aA)) (a1 f:List aA):Prop:=(Mb a0 a1 f)
def nE (a0:List (List aA)) (a1 f:List aA):Bool:=(Fk a0 a1 f)
def Iw:CnT:=cnL [(0,⟨[0,1,4,12,13],[],[],[],[]⟩)]
abbrev Db:=List aA->List aA->Bool->Int->Int->Prop
def ig (a0 a1:List aA) (Q:Bool->Prop) (f:Db):Prop:=cond ((a0.length:Int) !=(a1.length:Int)) (Q false) (f a0 a1 false (a0.length:Int) 0)
def Hb (I O L:Db):Db:=fun G u J j f=>cond (decide (f<j)) ((let e0:=(G.getD f.toNat default);((0<=f/\f<G.length)/\(let e1:=(u.getD f.toNat default);((0<=f/\f<u.length)/\cond (!((e0.X==e1.X)&&((e0.Y==e1.Y)&&((e0.W==e1.W)&&((e0.H==e1.H)&&true))))) (O G u false j f) (I G u J j (aB (f+1)))))))) (L G u J j f)
def Sn (F:Nat) (j f:Db):Nat->Db
 |0=>fun _ _ _ _ _=>False
 |n+1=>Hb (Sn F j f n) j f
def X6 (F:Nat) (Q:Bool->Prop):Db:=Sn F (fun _ _ f _ _=>Q f) (fun _ _ _ _ _=>Q true) F
def ra (F:Nat) (a0 a1:List aA) (Q:Bool->Prop):Prop:=ig a0 a1 Q (X6 F Q)
open Classical in
def eqB {α:Type} (a b:α):Bool:=decide (a=b)
open Classical in
theorem Hi {α:Type} {a b:α}:eqB a b=true↔a=b:=by unfold eqB;grind
theorem aHN {α:Type} (a:α):eqB a a=true:=Hi.2 rfl
theorem aXO (r s:aA):((r.X==s.X)&&((r.Y==s.Y)&&((r.W==s.W)&&((r.H==s.H)&&true))))=eqB r s:=by
 rw[Bool.eq_iff_iff,Hi];obtain⟨a,b,c,d⟩:=r;obtain⟨a',u,j,f⟩:=s;grind
theorem aHM {α:Type} [Inhabited α] (a b:List α) (f:a.length=b.length) (I:a.length<=2000000) (W:Nat->Int->Prop) (X Y:Int->Prop)
  (G:∀n i,i<a.length->(W (n+1) (i:Nat)↔cond (!(eqB (a.getD i default) (b.getD i default))) (X (i:Nat)) (W n ((i+1:Nat):Int)))) (he:∀n,W (n+1) (a.length:Nat)↔Y (a.length:Nat))
  (L:eqB a b=false->∀j,X j) (J:eqB a b=true->Y (a.length:Nat)):∀(n i:Nat),i<=a.length->a.length<n+i->a.take i=b.take i->W n (i:Nat):=by
 intro n
 induction n with
 |zero=>omega
 |succ n u=>
  intro i V S O
  by_cases h:i<a.length
  ·grind [Hi,List.take_add_one]
  grind [Hi]
theorem aHO {α:Type} {a b:List α} (h:a.length≠b.length):eqB a b=false:=by
 grind [Hi]
def R8 (a b:List aA):Prop:=a.length<=2000000
def Tq (a b:List aA):Bool:=eqB a b
theorem aR6 (a0 a1:List aA) (h:R8 a0 a1):∃F,∀Q:Bool->Prop,Q (Tq a0 a1)->ra F a0 a1 Q:=by
 have u:a0.length<=2000000:=h;refine⟨a0.length+1,fun Q G=>?_⟩;unfold ra ig;unfold Tq at G
 by_cases f:a0.length=a1.length
 ·rw[show ((a0.length:Int) !=(a1.length:Int))=false by grind,QK];unfold X6;refine aHM a0 a1 f u (fun n i=>Sn (a0.length+1) _ _ n a0 a1 false a0.length i) (fun j=>Q false) (fun j=>Q true) (fun n i hi=>?_) (fun n=>?_) (fun q j=>by grind) (fun q=>by grind) (a0.length+1) 0 KI KI rfl
  ·show Hb _ _ _ _ _ _ _ _↔_;grind [Hb,aXO,dX]
  ·show Hb _ _ _ _ _ _ _ _↔_;grind [Hb]
 grind [aHO]
def zX:CnT:=cnL [(0,⟨[4,5,7,9,10,40,41,42],[7],[(.tmp 9,75,.rects),(.cell 7 0,76,.seg),(.cell 7 1,77,.rect),(.tmp 10,78,.rect)],[],[75]⟩),(2,⟨[4,5,7,9,10,40,41,42,58,59,60],[7],[(.tmp 9,75,.rects),(.tmp 10,76,.rect),(.cell 7 0,77,.seg),(.cell 7 1,78,.rect)],[],[75]⟩)]
abbrev zT:=Bool->Int->List Pce->Int->Int->List (List aA)->List Seg->List aA->List aA->Prop
def aFq (y0 y1:ByteArray) (y2 y3 y4 y5:Int) (y6 y7:List aA) (y8:List Pce) (a1:List Opn) (Q:Bool->Int->Prop) (u:zT):Prop:=((Lq y0 y1 y2 y3 y4 y5 y6 y7 y8)/\cond ((jK y0 y1 y2 y3 y4 y5 y6 y7 y8) !=0) (Q false (jK y0 y1 y2 y3 y4 y5 y6 y7 y8)) ((let f:=(iH y0 y1 y2 y3 y4 y5 y6 y7 a1);((Lt y0 y1 y2 y3 y4 y5 y6 y7 a1)/\cond (f.2.2 !=0) (Q false 0) ((let j:=(kG y0 y1 y2 y3 y4 y5 y6 y7 f.1);((Ut y0 y1 y2 y3 y4 y5 y6 y7 f.1)/\cond (j.2 !=0) (Q false 0) (u false 0 y8 (y8.length:Int) 0 j.1 f.1 f.2.1 ([])))))))))
abbrev Cy:=Bool->Int->List Pce->Int->Int->List aA->Int->Int->List (List aA)->List aA->List Seg->List aA->Prop
def aFp (rec Z V:zT) (i1:Cy):zT:=fun S O j u f G J L I=>cond (decide (f<u)) ((let e0:=(j.getD f.toNat default);((0<=f/\f<j.length)/\(((I.length+e0.Forms.length)*32<=140737488355328)/\((Lx G e0.Rects e0.Cuts)/\cond (!(nE G e0.Rects e0.Cuts)) (Z false 0 j u f G J L (I++e0.Forms)) (i1 S O j u f e0.Cuts (e0.Cuts.length:Int) 0 G (I++e0.Forms) J L)))))) (V S O j u f G J L I)
def aFo (Z x0 x1:Cy):Cy:=fun t4 t5 J I G j u f L O V S=>cond (decide (f<u)) ((let e0:=(j.getD f.toNat default);((0<=f/\f<j.length)/\((Lx L ([e0]) ([]))/\cond (!(nE L ([e0]) ([]))) (x0 false 0 J I G j u f L O V S) (Z t4 t5 J I G j u (aB (f+1)) L O V S))))) (x1 t4 t5 J I G j u f L O V S)
def Sd (F:Nat) (j f:Cy):Nat->Cy
 |0=>fun _ _ _ _ _ _ _ _ _ _ _ _=>False
 |n+1=>aFo (Sd F j f n) j f
def V7 (F:Nat) (V Z x1:zT):Cy:=Sd F (fun I G u j f _ _ _ L J S O=>Z I G u j f L S O J) (fun I G u j f _ _ _ L J S O=>V I G u j (aB (f+1)) L S O J) F
def p7 (F:Nat) (j f:zT):Nat->zT
 |0=>fun _ _ _ _ _ _ _ _ _=>False
 |n+1=>aFp (p7 F j f n) j f (V7 F (p7 F j f n) j f)
def V8 (F:Nat) (Q:Bool->Int->Prop):zT:=p7 F (fun G u _ _ _ _ _ _ _=>Q G u) (fun _ _ _ _ _ _ _ j f=>((R8 f j)/\Q (Tq f j) 0)) F
def aKw (F:Nat) (y0 y1:ByteArray) (y2 y3 y4 y5:Int) (y6 y7:List aA) (y8:List Pce) (a1:List Opn) (Q:Bool->Int->Prop):Prop:=aFq y0 y1 y2 y3 y4 y5 y6 y7 y8 a1 Q (V8 F Q)
end
end Go.Proofs.YtgcpildegdgekaaGreatDoor
namespace Go.Proofs.YtgcpildegdgekaaGreatDoor
open Go.Proofs.Tryz
section
variable {β:Type}
def uT (rect:Pl->β) (done:List Pl) (L:Pl->Option Nat) (out:List (List β)):Prop:=∀j,j<out.length->out.getD j default=(done.filter fun d=>decide (L d=some j)).map rect
theorem uT.step {nb:Pl->List Pl} {rect:Pl->β} {done:List Pl} {L:Pl->Option Nat} {out:List (List β)} (V:lM nb rect done L out) (h:uT rect done L out) (c:Pl):
  uT rect (done++[c]) (pE nb rect (L,out) c).1 (pE nb rect (L,out) c).2:=by
 have I:∀(L1:Pl->Option Nat) (O:List (List β)) (f:Nat),L1 c=some f->f<O.length->uT rect done L1 O->uT rect (done++[c]) L1 (O.set ((L1 c).getD 0) (O.getD ((L1 c).getD 0) default++[rect c])):=fun L1 O f u S hp j J=>by
  have hg:(L1 c).getD 0=f:=by rw[u];rfl
  rw[hg] at J ⊢;rw[KR] at J;rw[List.filter_append,List.map_append]
  by_cases e:f=j
  ·subst e;rw[List.getD_eq_getElem?_getD,List.getElem?_set_self S,Option.getD_some,hp f S];have:[c].filter (fun d=>decide (L1 d=some f))=[c]:=by
    rw[List.filter_cons,JQ (by rw[u];simp)];rfl
   rw[this];rfl
  ·rw[List.getD_eq_getElem?_getD,List.getElem?_set_ne e,<- List.getD_eq_getElem?_getD,hp j J];have:[c].filter (fun d=>decide (L1 d=some j))=[]:=by
    rw[List.filter_cons,QF (by rw[u];simpa using e)];rfl
   rw[this,List.map_nil,JP]
 unfold pE;dsimp only
 by_cases u:L c=none
 ·rw[JQ u,JQ u];have Z:lY nb L c out.length c=some out.length:=by
   unfold lY;rw[JQ .base]
  have hd:∀d∈done,lY nb L c out.length d=L d:=fun d G=>by
   unfold lY;rw[QF fun q=>V.lab d G (q.none_ u)]
  refine I _ _ out.length Z XQ fun j S=>?_
  have hf:(done.filter fun d=>decide (lY nb L c out.length d=some j))=done.filter fun d=>decide (L d=some j):=List.filter_congr fun d G=>by rw[hd d G]
  rw[hf];rw[QM,JE] at S
  by_cases e:j=out.length
  ·subst e;have:(done.filter fun d=>decide (L d=some out.length))=[]:=by
    rw[List.filter_eq_nil_iff];intro d G q;have:=V.bound d out.length (by simpa using q);omega
   rw[this,List.getD_eq_getElem?_getD,List.getElem?_append_right (QP _),Nat.sub_self];rfl
  ·rw[List.getD_eq_getElem?_getD,KC KI,<- List.getD_eq_getElem?_getD];exact h j KI
 ·rw[QF u,QF u];obtain⟨f,pO⟩:=Option.ne_none_iff_exists'.1 u;exact I L out f pO (V.bound c f pO) h
theorem uT.run {nb:Pl->List Pl} (f:∀d e,e∈nb d->d∈nb e) {rect:Pl->β}:∀(l done:List Pl) (s:(Pl->Option Nat)×List (List β)),lM nb rect done s.1 s.2->uT rect done s.1 s.2->lM nb rect (done++l) (nW nb rect l s).1 (nW nb rect l s).2/\uT rect (done++l) (nW nb rect l s).1 (nW nb rect l s).2:=by
 intro l
 induction l with
 |nil=>intro done s h1 h2;rw[JP];exact⟨h1,h2⟩
 |cons c l j=>
  intro done s h1 h2;have:=j (done++[c]) (pE nb rect s c) (h1.step f c) (h2.step h1 c);rw[KZ] at this;exact this
theorem aMc {nb:Pl->List Pl} (f:∀d e,e∈nb d->d∈nb e) (rect:Pl->β) (cells:List Pl):∃L,lM nb rect cells L (yA nb rect cells)/\uT rect cells L (yA nb rect cells):=by
 have:=uT.run f cells [] (fun _=>none,[]) (lM.nil nb rect) (fun j h=>by cases h);rw[List.nil_append] at this;exact⟨_,this⟩
end
end Go.Proofs.YtgcpildegdgekaaGreatDoor
namespace Go.Proofs.YtgcpildegdgekaaGreatDoor
open Go.Proofs.Tryz
open Go.RowKit Go.Vm
noncomputable section
def cvV (ls:List Seg) (x y:Int):Prop:=∃s∈ls,s.X1=x/\s.X2=x/\s.Y1<=y/\y<s.Y2
def cvH (ls:List Seg) (x y:Int):Prop:=∃s∈ls,s.Y1=y/\s.Y2=y/\s.X1<=x/\x<s.X2
theorem Hm (a b:List Seg) (x y:Int):cvV (a++b) x y↔cvV a x y\/cvV b x y:=by
 unfold cvV;constructor
 ·rintro ⟨s,f,h⟩
  rcases QO.1 f with f|f
  ·exact .inl ⟨s,f,h⟩
  ·exact .inr ⟨s,f,h⟩
 ·rintro (⟨s,f,h⟩|⟨s,f,h⟩)
  ·exact⟨s,QO.2 (.inl f),h⟩
  ·exact⟨s,QO.2 (.inr f),h⟩
theorem Hn (a b:List Seg) (x y:Int):cvH (a++b) x y↔cvH a x y\/cvH b x y:=by
 unfold cvH;constructor
 ·rintro ⟨s,f,h⟩
  rcases QO.1 f with f|f
  ·exact .inl ⟨s,f,h⟩
  ·exact .inr ⟨s,f,h⟩
 ·rintro (⟨s,f,h⟩|⟨s,f,h⟩)
  ·exact⟨s,QO.2 (.inl f),h⟩
  ·exact⟨s,QO.2 (.inr f),h⟩
theorem kz (s:Seg) (x y:Int):cvV [s] x y↔s.X1=x/\s.X2=x/\s.Y1<=y/\y<s.Y2:=by unfold cvV;simp
theorem lg (s:Seg) (x y:Int):cvH [s] x y↔s.Y1=y/\s.Y2=y/\s.X1<=x/\x<s.X2:=by unfold cvH;simp
theorem Zz (x y:Int):¬cvV [] x y:=fun ⟨_,h,_⟩=>by cases h
theorem A0 (x y:Int):¬cvH [] x y:=fun ⟨_,h,_⟩=>by cases h
theorem aYk {a b:List Seg} (h:a.Perm b) (x y:Int):cvV a x y↔cvV b x y:=
 ⟨fun ⟨s,f,p⟩=>⟨s,h.mem_iff.1 f,p⟩,fun ⟨s,f,p⟩=>⟨s,h.mem_iff.2 f,p⟩⟩
theorem aYm {a b:List Seg} (h:a.Perm b) (x y:Int):cvH a x y↔cvH b x y:=
 ⟨fun ⟨s,f,p⟩=>⟨s,h.mem_iff.1 f,p⟩,fun ⟨s,f,p⟩=>⟨s,h.mem_iff.2 f,p⟩⟩
def uP (z x:Seg):Prop:=(z.Y1=z.Y2->x.Y1=x.Y2->z.Y1=x.Y1->z.X1<=x.X1)/\(¬z.Y1=z.Y2->¬x.Y1=x.Y2->z.X1=x.X1->z.Y1<=x.Y1)
theorem bAv {z x:Seg} (h:¬ltS x z):uP z x:=by
 unfold ltS at h;unfold uP;omega
theorem aTV {out:List Seg} {x:Seg} (hx:lP x) (ho:kK out) (hb:∀z,out.getLast?=some z->uP z x):
  (∀a b,cvV (nI out x) a b↔cvV out a b\/cvV [x] a b)/\(∀a b,cvH (nI out x) a b↔cvH out a b\/cvH [x] a b)/\
   ∀z,(nI out x).getLast?=some z->z=x\/∃u,out.getLast?=some u/\∀w,uP u w->uP z w:=by
 rcases List.eq_nil_or_concat out with rfl|⟨m,z,rfl⟩
 ·have e:nI [] x=[x]:=rfl;rw[e];refine⟨fun a b=>⟨.inr,fun h=>h.elim (fun h=>absurd h (Zz a b)) id⟩,fun a b=>⟨.inr,fun h=>h.elim (fun h=>absurd h (A0 a b)) id⟩,fun z G=>?_⟩;left;simpa using G.symm
 ·rw[List.concat_eq_append] at ho hb ⊢;have G:lP z:=ho z XQ;have J:=hb z XQ;rw[zj];cases L:qJ z x with
  |false=>
   rw[QK];have e:m++[z,x]=(m++[z])++[x]:=XQ;rw[e];refine⟨fun a b=>Hm _ _ a b,fun a b=>Hn _ _ a b,fun u j=>?_⟩;left;rw[List.getLast?_concat] at j;exact(QU j).symm
  |true=>
   rw[QY];have f:(∀a b,cvV [qI z x] a b↔cvV [z] a b\/cvV [x] a b)/\(∀a b,cvH [qI z x] a b↔cvH [z] a b\/cvH [x] a b)/\∀w,uP z w->uP (qI z x) w:=by
    unfold uP at J;unfold uP qI;simp only[kz,lg,maE];rcases Ft hx with ⟨e1,I⟩|⟨e1,I⟩
    ·obtain⟨Z,V,S,O⟩:=(Nz G e1 I).1 L;refine⟨fun a b=>?_,fun a b=>?_,fun w hw=>?_⟩<;>omega
    ·obtain⟨Z,V,S,O⟩:=(Ny G e1 I).1 L;refine⟨fun a b=>?_,fun a b=>?_,fun w hw=>?_⟩<;>omega
   refine⟨fun a b=>?_,fun a b=>?_,fun u j=>?_⟩
   ·rw[Hm,Hm,f.1,or_assoc]
   ·rw[Hn,Hn,f.2.1,or_assoc]
   ·right;rw[List.getLast?_concat] at j;obtain rfl:=QU j;exact⟨z,XQ,f.2.2⟩
theorem aTU:∀(l out:List Seg),l.Pairwise (fun a b=>¬ltS b a)->kK l->kK out->(∀z,out.getLast?=some z->∀x∈l,uP z x)->
  (∀a b,cvV (l.foldl nI out) a b↔cvV out a b\/cvV l a b)/\(∀a b,cvH (l.foldl nI out) a b↔cvH out a b\/cvH l a b):=by
 intro l
 induction l with
 |nil=>exact fun out _ _ _ _=>⟨fun a b=>⟨.inl,fun h=>h.elim id fun h=>absurd h (Zz a b)⟩,fun a b=>⟨.inl,fun h=>h.elim id fun h=>absurd h (A0 a b)⟩⟩
 |cons x l J=>
  intro out j I ho hb;obtain⟨s1,s2⟩:=List.pairwise_cons.1 j;have G:lP x:=I x (QI ..);obtain⟨c1,Z,V⟩:=aTV G ho fun z f=>hb z f x (QI ..)
  obtain⟨O,L⟩:=J (nI out x) s2 (fun s j=>I s (QA _ j)) (zk G ho) fun z f w hw=>by
   rcases V z f with rfl|⟨u,S,h⟩
   ·exact bAv (s1 w hw)
   ·exact h w (hb u S w (QA _ hw))
  have e:x::l=[x]++l:=rfl;rw[JY];refine⟨fun a b=>?_,fun a b=>?_⟩
  ·rw[O,c1,e,Hm,or_assoc]
  ·rw[L,Z,e,Hn,or_assoc]
theorem aLV {l:List Seg} (h:kK l):(∀a b,cvV (nD l) a b↔cvV l a b)/\(∀a b,cvH (nD l) a b↔cvH l a b):=by
 obtain⟨G,u⟩:=aTU (iX l) [] (wm l) (fun s f=>h s ((yG l).mem_iff.1 f)) (fun s f=>by cases f) fun z j=>by cases j
 refine⟨fun a b=>?_,fun a b=>?_⟩
 ·show cvV ((iX l).foldl nI []) a b↔_;rw[G,aYk (yG l)];exact⟨fun h=>h.elim (fun h=>absurd h (Zz a b)) id,.inr⟩
 ·show cvH ((iX l).foldl nI []) a b↔_;rw[u,aYm (yG l)];exact⟨fun h=>h.elim (fun h=>absurd h (A0 a b)) id,.inr⟩
theorem mS {l:zzI} (h:asc l) {i j:Nat} (f:i<j) (u:j<l.length):l.getD i default<l.getD j default:=by
 have:=List.pairwise_iff_getElem.1 h i j KI u f;grind
theorem fi (l:zzI) {j:Nat} (h:j<l.length):l.getD j default=l[j]:=by
 grind
theorem pW {l:zzI} (h:asc l) {i j:Nat} (G:i<=j) (u:j<l.length):l.getD i default<=l.getD j default:=by
 rcases Nat.lt_or_ge i j with f|f
 ·exact Int.le_of_lt (mS h f u)
 grind
def sdX (l:List aA) (x:Int):Prop:=∃r∈l,x=r.X\/x=aB (r.X+r.W)
def sdY (l:List aA) (y:Int):Prop:=∃r∈l,y=r.Y\/y=aB (r.Y+r.H)
theorem ub (r:aA) (l:List aA) (x:Int):sdX (r::l) x↔(x=r.X\/x=aB (r.X+r.W))\/sdX l x:=by unfold sdX;simp
theorem ua (r:aA) (l:List aA) (x:Int):sdY (r::l) x↔(x=r.Y\/x=aB (r.Y+r.H))\/sdY l x:=by unfold sdY;simp
theorem O5 (x:Int):¬sdX [] x:=fun ⟨_,h,_⟩=>by cases h
theorem O4 (x:Int):¬sdY [] x:=fun ⟨_,h,_⟩=>by cases h
theorem aMe (a b:List aA) (x:Int):sdX (a++b) x↔sdX a x\/sdX b x:=by
 induction a with
 |nil=>simp[O5]
 |cons r a f=>grind [ub]
theorem aMd (a b:List aA) (x:Int):sdY (a++b) x↔sdY a x\/sdY b x:=by
 induction a with
 |nil=>simp[O4]
 |cons r a f=>grind [ua]
theorem aXo:∀(l:List aA) (s:zzI×zzI),(∀x,x∈(l.foldl uH s).1↔x∈s.1\/sdX l x)/\∀x,x∈(l.foldl uH s).2↔x∈s.2\/sdY l x:=by
 intro l
 induction l with
 |nil=>grind [O5,O4]
 |cons r l f=>
  grind [uH,ub,ua]
theorem jy:∀(ps:List Pce) (s:zzI×zzI),(∀x,x∈(ps.foldl gE s).1↔x∈s.1\/sdX (ps.flatMap Pce.Rects) x)/\∀x,x∈(ps.foldl gE s).2↔x∈s.2\/sdY (ps.flatMap Pce.Rects) x:=by
 intro ps
 induction ps with
 |nil=>grind [O5,O4]
 |cons p ps f=>
  simp_all[gE,aXo,aMe,or_assoc,aMd]
theorem uC {x y j f:Int}:∀(ps:List Pce) (k:Nat),(∀p∈ps,∀r∈p.Rects,onR x y r=onR j f r)->pI x y ps k=pI j f ps k:=by
 intro ps
 induction ps with
 |nil=>intro k _;rfl
 |cons p ps u=>
  grind [pI]
theorem aDS {x y:Int} (ps:List Pce) (h:∀p∈ps,∀r∈p.Rects,onR x y r=false):lab ps x y= -1:=
 aDT x y ps 0 fun j u=>JR.2 fun r f=>by grind
theorem J1 {l:zzI} (h:asc l) {t:Int} (u:t∈l) {j:Nat} (L:0<j) (G:j<l.length):t<l.getD j default↔t<=l.getD (j-1) default:=by
 obtain⟨i,hi,rfl⟩:=List.mem_iff_getElem.1 u;rw[<- fi l hi];constructor
 ·intro I;rcases Nat.lt_or_ge i j with f|f
  ·exact pW h KI KI
  ·have:=pW h f hi;omega
 ·intro J;have:=mS h (show j-1<j by omega) G;omega
theorem Hy {l:zzI} (h:asc l) {t:Int} (f:t∈l):l.getD 0 default<=t:=by
 obtain⟨i,hi,rfl⟩:=List.mem_iff_getElem.1 f;rw[<- fi l hi];exact pW h (Nat.zero_le _) hi
theorem Hx {l:zzI} (h:asc l) {t:Int} (f:t∈l) {j:Nat} (u:j<l.length) (G:l.length<=j+1):t<=l.getD j default:=by
 obtain⟨i,hi,rfl⟩:=List.mem_iff_getElem.1 f;rw[<- fi l hi];exact pW h KI u
def gdR (r:aA):Prop:= -4194304<=r.X/\ -4194304<=r.Y/\r.X<=4194304/\r.Y<=4194304/\0<=r.W/\r.W<=8388608/\0<=r.H/\r.H<=8388608
def inB (x:Int):Prop:= -1000000000000<=x/\x<=1000000000000
def okE (e:Edg):Prop:=(e.qag=e.qak/\e.qaf<e.qaj\/e.qaf=e.qaj/\e.qag<e.qak)/\inB e.qaf/\inB e.qag/\inB e.qaj/\inB e.qak
theorem bBX {mk:Int->Int->Int->Int->Edg} {B:Int->Prop}:∀(l:List (Int×Int×Int)) (b one f:Int),(l.Pairwise fun x y=>x.1<y.1)->(∀x∈l,B x.1)->(one=f\/(B b/\∀x∈l,b<x.1))->∀e∈alF mk b one f l,∃a c u v,B a/\B c/\a<c/\e=mk a c u v:=by
 intro l
 induction l with
 |nil=>intro b one f _ _ _ e he;cases he
 |cons x l j=>
  grind [List.pairwise_cons,alF]
theorem xJ {mk:Int->Int->Int->Int->Edg} {B:Int->Prop} {l:zzI} (G:asc l) (I:∀x∈l,B x) (f:Int->Int×Int):∀e∈alF mk 0 (-1) (-1) (gZ f l),∃a c u v,B a/\B c/\a<c/\e=mk a c u v:=by
 refine bBX _ _ _ _ ?_ (fun x j=>?_) (.inl rfl)
 ·grind [gZ,List.Pairwise.imp_of_mem,List.pairwise_lt_range,mS]
 grind [gZ]
theorem vX (z b n u v:Int):(kM z b n u v).qaf=b/\(kM z b n u v).qag=z/\(kM z b n u v).qaj=n/\(kM z b n u v).qak=z:=by
 grind [kM,gH]
theorem vW (z b n u v:Int):(kL z b n u v).qaf=z/\(kL z b n u v).qag=b/\(kL z b n u v).qaj=z/\(kL z b n u v).qak=n:=by
 grind [kL,gH]
theorem aGv {α β:Type} (f:α->List β) (e:β):∀(l:List α) (m:List β),e∈l.foldl (fun m y=>m++f y) m->e∈m\/∃y∈l,e∈f y:=by
 intro l
 induction l with
 |nil=>grind
 |cons y l j=>
  grind
theorem aHZ (ps:List Pce) (h:∀p∈ps,∀r∈p.Rects,gdR r):∀e∈eQ ps,okE e:=by
 obtain⟨e1,e2⟩:=jy ps ([],[]);have bx:∀x∈cY (ps.foldl gE ([],[])).1,inB x:=fun x j=>by
  rw[xN,e1] at j;obtain⟨r,f,G⟩:=j.resolve_left (fun h=>by cases h);obtain⟨p,hp,f⟩:=List.mem_flatMap.1 f;obtain⟨g1,g2,g3,g4,g5,Z,V,S⟩:=h p hp r f;grind [cN,inB]
 have I:∀x∈cY (ps.foldl gE ([],[])).2,inB x:=fun x j=>by
  rw[xN,e2] at j;obtain⟨r,f,G⟩:=j.resolve_left (fun h=>by cases h);obtain⟨p,hp,f⟩:=List.mem_flatMap.1 f;obtain⟨g1,g2,g3,g4,g5,Z,V,S⟩:=h p hp r f;grind [cN,inB]
 have ax:=xO (ps.foldl gE ([],[])).1;have ay:=xO (ps.foldl gE ([],[])).2;intro e he;unfold eQ at he;rcases aGv _ e _ _ he with he|⟨x,j,he⟩
 ·rcases aGv _ e _ _ he with he|⟨y,hy,he⟩
  ·cases he
  ·obtain⟨a,c,u,v,O,L,J,rfl⟩:=xJ (mk:=kM y) ax bx _ e he;grind [vX,okE]
 ·obtain⟨a,c,u,v,O,L,J,rfl⟩:=xJ (mk:=kL x) ay I _ e he;grind [vW,okE]
def iI (e:Edg):Seg:=⟨e.qaf,e.qag,e.qaj,e.qak⟩
def Eu:Int->Int->Int->List (Int×Int×Int)->Int->Prop
 |_,_,_,[],_=>False
 |b,one,f,(n,a,c)::r,t=>(one≠f/\b<=t/\t<n)\/Eu n a c r t
def Pc (one f:Int) (r:List (Int×Int×Int)):Prop:=(r=[]->one=f)/\∀z,r.getLast?=some z->z.2.1=z.2.2
theorem aWl {one f:Int} {x:Int×Int×Int} {r:List (Int×Int×Int)} (h:Pc one f (x::r)):Pc x.2.1 x.2.2 r:=by
 refine⟨fun e=>?_,fun z j=>h.2 z ?_⟩
 ·subst e;exact h.2 x rfl
 grind
theorem bBY {mk:Int->Int->Int->Int->Edg} {lo hi:Edg->Int} (S:∀b n u v,lo (mk b n u v)=b) (V:∀b n u v,hi (mk b n u v)=n):∀(r:List (Int×Int×Int)) (b one f p:Int),(one=f\/b<=p)->(∀x∈r,p<=x.1)->(r.Pairwise fun x y=>x.1<y.1)->Pc one f r->
  ∀t,(∃e∈alF mk b one f r,lo e<=t/\t<hi e)↔Eu b one f r t:=by
 intro r
 induction r with
 |nil=>
  intro b one f p _ _ _ _ t;exact⟨fun ⟨e,he,_⟩=>(by cases he),fun h=>False.elim h⟩
 |cons x r G=>
  intro b one f p hb hp O hf t;obtain⟨n,a,c⟩:=x;obtain⟨s1,s2⟩:=List.pairwise_cons.1 O;have Z:p<=n:=hp _ (QI ..);have I:∀x∈r,n<=x.1:=fun x L=>Int.le_of_lt (s1 x L)
  have j:Pc a c r:=aWl hf;unfold alF;show _↔(one≠f/\b<=t/\t<n)\/Eu n a c r t;cases J:(a==one)&&(c==f) with
  |true=>
   rw[QY];simp only[QW,KG] at J;obtain⟨rfl,rfl⟩:=J;rw[G b a c n (hb.imp id fun h=>KI) I s2 j t];cases r with
   |nil=>
    have:a=c:=j.1 rfl;constructor
    ·exact fun h=>False.elim h
    ·rintro (h|h)
     ·omega
     ·exact h
   |cons y r=>
    grind [Eu]
  |false=>
   rw[QK];rw[<- G n a c n (.inr (Int.le_refl _)) I s2 j t];grind
theorem L9 (f:Int->Int×Int) {l:zzI} (j:asc l):(gZ f l).Pairwise fun x y=>x.1<y.1:=by
 grind [gZ,List.Pairwise.imp_of_mem,List.pairwise_lt_range,mS]
theorem aL5 (f:Int->Int×Int) (l:zzI):Pc (-1) (-1) (gZ f l):=by
 refine⟨fun _=>rfl,fun z j=>?_⟩;grind [gZ]
theorem aL4 (f:Int->Int×Int) (l:zzI) (t:Int):∀(k i:Nat) (b one u:Int),i+k=l.length->
  (Eu b one u ((gZ f l).drop i) t↔(i<l.length/\one≠u/\b<=t/\t<l.getD i default)\/∃j,i<=j/\j+1<l.length/\l.getD j default<=t/\t<l.getD (j+1) default/\(f (l.getD j default)).1≠(f (l.getD j default)).2):=by
 intro k
 induction k with
 |zero=>
  intro i b one u hi;have e:(gZ f l).drop i=[]:=by
   grind [Td]
  rw[e];constructor
  ·exact fun h=>False.elim h
  omega
 |succ k G=>
  grind [L8,Eu]
theorem aIY {mk:Int->Int->Int->Int->Edg} {lo hi:Edg->Int} (G:∀b n u v,lo (mk b n u v)=b) (I:∀b n u v,hi (mk b n u v)=n) (f:Int->Int×Int) {l:zzI} (L:asc l) (t:Int):
  (∃e∈alF mk 0 (-1) (-1) (gZ f l),lo e<=t/\t<hi e)↔∃j,j+1<l.length/\l.getD j default<=t/\t<l.getD (j+1) default/\(f (l.getD j default)).1≠(f (l.getD j default)).2:=by
 have hp:∀x∈gZ f l,l.getD 0 default<=x.1:=fun x J=>by
  unfold gZ at J;obtain⟨i,hi,rfl⟩:=JK.1 J;exact pW L (Nat.zero_le _) (JH.1 hi)
 rw[bBY G I (gZ f l) 0 (-1) (-1) (l.getD 0 default) (.inl rfl) hp (L9 f L) (aL5 f l) t];have:=aL4 f l t l.length 0 0 (-1) (-1) KI;grind
theorem J2 {l:zzI} {t:Int}:∀(n:Nat),n<l.length->l.getD 0 default<=t->t<l.getD n default->∃j,j+1<=n/\l.getD j default<=t/\t<l.getD (j+1) default:=by
 intro n
 induction n with
 |zero=>omega
 |succ n f=>
  grind
theorem aGu {α β:Type} (f:α->List β) (e:β):∀(l:List α) (m:List β),e∈l.foldl (fun m y=>m++f y) m↔e∈m\/∃y∈l,e∈f y:=by
 intro l
 induction l with
 |nil=>grind
 |cons y l j=>
  grind
theorem Vs {ys:zzI} (h:asc ys) {r:aA} (G:r.Y∈ys) (u:aB (r.Y+r.H)∈ys) {j:Nat} (f:j+1<ys.length) {y:Int} (a:ys.getD j default<=y) (b:y<ys.getD (j+1) default) (x:Int):onR x y r=onR x (ys.getD j default) r:=by
 have e1:=J1 h G (show 0<j+1 by omega) f;have I:=J1 h u (show 0<j+1 by omega) f;grind [onR]
theorem aRB {ys:zzI} {r:aA} (u:r.Y∈ys) (j:aB (r.Y+r.H)∈ys) {y:Int} (f:y ∉ ys) (x:Int):onR x (y-1) r=onR x y r:=by
 grind [onR]
theorem aDQ {ps:List Pce} {ys:zzI} (h:asc ys) (G:∀p∈ps,∀r∈p.Rects,r.Y∈ys/\aB (r.Y+r.H)∈ys) {y:Int} (S:∀j,j+1<ys.length->¬(ys.getD j default<=y/\y<ys.getD (j+1) default)) (x:Int):lab ps x y= -1:=by
 refine aDS ps fun p hp r J=>?_
 obtain⟨f,I⟩:=G p hp r J;cases ho:onR x y r with
 |false=>rfl
 |true=>
  exfalso;unfold onR at ho;simp only[QW,JN] at ho;have u:0<ys.length:=List.length_pos_of_mem f;have O:=Hy h f;have L:=Hx h I (j:=ys.length-1) KI KI;obtain⟨j,V,h1,Z⟩:=J2 (l:=ys) (t:=y) (ys.length-1) KI KI KI;grind
theorem Vt {xs:zzI} (h:asc xs) {r:aA} (G:r.X∈xs) (u:aB (r.X+r.W)∈xs) {j:Nat} (f:j+1<xs.length) {x:Int} (a:xs.getD j default<=x) (b:x<xs.getD (j+1) default) (y:Int):onR x y r=onR (xs.getD j default) y r:=by
 have e1:=J1 h G (show 0<j+1 by omega) f;have I:=J1 h u (show 0<j+1 by omega) f;grind [onR]
theorem aRC {xs:zzI} {r:aA} (u:r.X∈xs) (j:aB (r.X+r.W)∈xs) {x:Int} (f:x ∉ xs) (y:Int):onR (x-1) y r=onR x y r:=by
 grind [onR]
theorem aDR {ps:List Pce} {xs:zzI} (h:asc xs) (G:∀p∈ps,∀r∈p.Rects,r.X∈xs/\aB (r.X+r.W)∈xs) {x:Int} (S:∀j,j+1<xs.length->¬(xs.getD j default<=x/\x<xs.getD (j+1) default)) (y:Int):lab ps x y= -1:=by
 refine aDS ps fun p hp r J=>?_
 obtain⟨f,I⟩:=G p hp r J;cases ho:onR x y r with
 |false=>rfl
 |true=>
  exfalso;unfold onR at ho;simp only[QW,JN] at ho;have u:0<xs.length:=List.length_pos_of_mem f;have O:=Hy h f;have L:=Hx h I (j:=xs.length-1) KI KI;obtain⟨j,V,h1,Z⟩:=J2 (l:=xs) (t:=x) (xs.length-1) KI KI KI;grind
theorem aHY (ps:List Pce) (h:∀p∈ps,∀r∈p.Rects,gdR r):(∀x y,cvV ((eQ ps).map iI) x y↔lab ps x y≠lab ps (x-1) y)/\∀x y,cvH ((eQ ps).map iI) x y↔lab ps x y≠lab ps x (y-1):=by
 obtain⟨e1,e2⟩:=jy ps ([],[]);have hx:∀x,x∈cY (ps.foldl gE ([],[])).1↔sdX (ps.flatMap Pce.Rects) x:=fun x=>by
  rw[xN,e1];simp
 have hy:∀x,x∈cY (ps.foldl gE ([],[])).2↔sdY (ps.flatMap Pce.Rects) x:=fun x=>by
  rw[xN,e2];simp
 have ax:=xO (ps.foldl gE ([],[])).1;have ay:=xO (ps.foldl gE ([],[])).2;have hm:∀e,e∈eQ ps↔(∃y∈cY (ps.foldl gE ([],[])).2,e∈sR ps (cY (ps.foldl gE ([],[])).1) y)\/∃x∈cY (ps.foldl gE ([],[])).1,e∈qP ps (cY (ps.foldl gE ([],[])).2) x:=fun e=>by
  unfold eQ;show e∈(cY (ps.foldl gE ([],[])).1).foldl (fun m x=>m++qP ps (cY (ps.foldl gE ([],[])).2) x) _↔_;rw[aGu,aGu];simp
 generalize cY (ps.foldl gE ([],[])).1=xs at hx ax hm;generalize cY (ps.foldl gE ([],[])).2=G at hy ay hm;have mx:∀p∈ps,∀r∈p.Rects,r.X∈xs/\aB (r.X+r.W)∈xs:=fun p hp r f=>
  ⟨(hx _).2 ⟨r,List.mem_flatMap.2 ⟨p,hp,f⟩,.inl rfl⟩,(hx _).2 ⟨r,List.mem_flatMap.2 ⟨p,hp,f⟩,.inr rfl⟩⟩
 have my:∀p∈ps,∀r∈p.Rects,r.Y∈G/\aB (r.Y+r.H)∈G:=fun p hp r f=>
  ⟨(hy _).2 ⟨r,List.mem_flatMap.2 ⟨p,hp,f⟩,.inl rfl⟩,(hy _).2 ⟨r,List.mem_flatMap.2 ⟨p,hp,f⟩,.inr rfl⟩⟩
 have wx:∀x∈xs,aB (x-1)=x-1:=fun x I=>by
  obtain⟨r,f,hrx⟩:=(hx x).1 I;obtain⟨p,hp,f⟩:=List.mem_flatMap.1 f;obtain⟨g1,g2,g3,g4,g5,g6,g7,g8⟩:=h p hp r f;grind [cN]
 have wy:∀x∈G,aB (x-1)=x-1:=fun x I=>by
  obtain⟨r,f,hrx⟩:=(hy x).1 I;obtain⟨p,hp,f⟩:=List.mem_flatMap.1 f;obtain⟨g1,g2,g3,g4,g5,g6,g7,g8⟩:=h p hp r f;grind [cN]
 constructor
 ·intro x y;have hc:∀z,(∃e∈qP ps G z,e.qag<=y/\y<e.qak)↔∃j,j+1<G.length/\G.getD j default<=y/\y<G.getD (j+1) default/\lab ps z (G.getD j default)≠lab ps (aB (z-1)) (G.getD j default):=fun z=>
   aIY (mk:=kL z) (lo:=Edg.qag) (hi:=Edg.qak) (fun b n u v=>(vW z b n u v).2.1) (fun b n u v=>(vW z b n u v).2.2.2) (tU ps z) ay y
  constructor
  ·rintro ⟨s,hs,h1,h2,Z,V⟩
   obtain⟨e,he,rfl⟩:=JK.1 hs;rcases(hm e).1 he with ⟨z,hz,he⟩|⟨z,hz,he⟩
   ·obtain⟨a,c,u,v,_,_,_,rfl⟩:=xJ (mk:=kM z) (B:=fun _=>True) ax (fun _ _=>trivial) _ e he;obtain⟨l1,l2,l3,l4⟩:=vX z a c u v;change (kM z a c u v).qag<=y at Z;change y<(kM z a c u v).qak at V;omega
   ·have hzx:z=x:=by
     obtain⟨a,c,u,v,_,_,_,rfl⟩:=xJ (mk:=kL z) (B:=fun _=>True) ay (fun _ _=>trivial) _ e he;obtain⟨l1,l2,l3,l4⟩:=vW z a c u v;change (kL z a c u v).qaf=x at h1;omega
    subst hzx;obtain⟨j,S,O,L,j4⟩:=(hc z).1 ⟨e,he,Z,V⟩;rw[wx z hz] at j4;unfold lab at j4 ⊢;rw[uC ps 0 fun p hp r f=>Vs ay (my p hp r f).1 (my p hp r f).2 S O L z,uC ps 0 fun p hp r f=>Vs ay (my p hp r f).1 (my p hp r f).2 S O L (z-1)];exact j4
  ·intro J;have I:x∈xs:=Classical.byContradiction fun hn=>J (by
    grind [lab,uC,aRC])
   obtain⟨j,S,O,L⟩:∃j,j+1<G.length/\G.getD j default<=y/\y<G.getD (j+1) default:=Classical.byContradiction fun hn=>J (by
    grind [aDQ])
   obtain⟨e,he,Z,V⟩:=(hc x).2 ⟨j,S,O,L,by
    grind [lab,uC,Vs]⟩
   refine⟨iI e,JK.2 ⟨e,(hm e).2 (.inr ⟨x,I,he⟩),rfl⟩,?_⟩;obtain⟨a,c,u,v,_,_,_,rfl⟩:=xJ (mk:=kL x) (B:=fun _=>True) ay (fun _ _=>trivial) _ e he;obtain⟨l1,l2,l3,l4⟩:=vW x a c u v;exact⟨l1,l3,Z,V⟩
 ·intro x y;have hc:∀z,(∃e∈sR ps xs z,e.qaf<=x/\x<e.qaj)↔∃j,j+1<xs.length/\xs.getD j default<=x/\x<xs.getD (j+1) default/\lab ps (xs.getD j default) z≠lab ps (xs.getD j default) (aB (z-1)):=fun z=>
   aIY (mk:=kM z) (lo:=Edg.qaf) (hi:=Edg.qaj) (fun b n u v=>(vX z b n u v).1) (fun b n u v=>(vX z b n u v).2.2.1) (tV ps z) ax x
  constructor
  ·rintro ⟨s,hs,h1,h2,Z,V⟩
   obtain⟨e,he,rfl⟩:=JK.1 hs;rcases(hm e).1 he with ⟨z,hz,he⟩|⟨z,hz,he⟩
   ·have hzy:z=y:=by
     obtain⟨a,c,u,v,_,_,_,rfl⟩:=xJ (mk:=kM z) (B:=fun _=>True) ax (fun _ _=>trivial) _ e he;obtain⟨l1,l2,l3,l4⟩:=vX z a c u v;change (kM z a c u v).qag=y at h1;omega
    subst hzy;obtain⟨j,S,O,L,j4⟩:=(hc z).1 ⟨e,he,Z,V⟩;rw[wy z hz] at j4;unfold lab at j4 ⊢;rw[uC ps 0 fun p hp r f=>Vt ax (mx p hp r f).1 (mx p hp r f).2 S O L z,uC ps 0 fun p hp r f=>Vt ax (mx p hp r f).1 (mx p hp r f).2 S O L (z-1)];exact j4
   ·obtain⟨a,c,u,v,_,_,_,rfl⟩:=xJ (mk:=kL z) (B:=fun _=>True) ay (fun _ _=>trivial) _ e he;obtain⟨l1,l2,l3,l4⟩:=vW z a c u v;change (kL z a c u v).qaf<=x at Z;change x<(kL z a c u v).qaj at V;omega
  ·intro J;have hym:y∈G:=Classical.byContradiction fun hn=>J (by
    grind [lab,uC,aRB])
   obtain⟨j,S,O,L⟩:∃j,j+1<xs.length/\xs.getD j default<=x/\x<xs.getD (j+1) default:=Classical.byContradiction fun hn=>J (by
    grind [aDR])
   obtain⟨e,he,Z,V⟩:=(hc y).2 ⟨j,S,O,L,by
    grind [lab,uC,Vt]⟩
   refine⟨iI e,JK.2 ⟨e,(hm e).2 (.inl ⟨y,hym,he⟩),rfl⟩,?_⟩;obtain⟨a,c,u,v,_,_,_,rfl⟩:=xJ (mk:=kM y) (B:=fun _=>True) ax (fun _ _=>trivial) _ e he;obtain⟨l1,l2,l3,l4⟩:=vX y a c u v;exact⟨l2,l4,Z,V⟩
inductive Sj (C:Int->Int->Prop) (x y:Int):Int->Int->Prop
 |base:Sj C x y x y
 |right {a b:Int}:Sj C x y a b->C (a+1) b->Sj C x y (a+1) b
 |left {a b:Int}:Sj C x y a b->C (a-1) b->Sj C x y (a-1) b
 |up {a b:Int}:Sj C x y a b->C a (b+1)->Sj C x y a (b+1)
 |down {a b:Int}:Sj C x y a b->C a (b-1)->Sj C x y a (b-1)
theorem rO {l:zzI} (h:asc l) {x:Int} (u:x∈l) {i:Nat} (hi:i<l.length):(i=dU l x↔l.getD i default=x)/\(dU l x<=i↔x<=l.getD i default)/\(i<dU l x↔l.getD i default<x):=by
 obtain⟨J,I⟩:=uO h u;have f:=Ce l x h.le i hi;refine⟨⟨fun e=>by rw[e];exact I,fun e=>?_⟩,?_,f.symm⟩
 ·have G:=Ce l x h.le i hi;rcases Nat.lt_or_ge i (dU l x) with q|q
  ·have:=G.2 q;omega
  ·rcases Nat.lt_or_ge (dU l x) i with j|j
   ·have:=h.get j hi;omega
   ·omega
 ·constructor
  ·intro q;refine Classical.byContradiction fun n=>?_
   have:=f.1 KI;omega
  ·intro q;refine Classical.byContradiction fun n=>?_
   have:=f.2 KI;omega
section
variable {γ:Type} (w h:Int) (ls:List Seg) (hok:∀s∈ls,jY w h s) (col:Int->Int->γ)
include hok
theorem aUA {i k:Nat} (hi:i<(gxs w ls).length) (j:k<(gys h ls).length):lfG (gxs w ls) (gys h ls) ls i k=true↔cvV ls ((gxs w ls).getD i default) ((gys h ls).getD k default):=by
 unfold lfG;rw[KV];constructor
 ·rintro ⟨s,f,O⟩
  obtain⟨G,I,u⟩:=JU O;have V:=(rO (lX w ls) (nP.2 (.inr (.inr ⟨s,f,.inl rfl⟩))) hi).1.1 G;have L:=(rO (lW h ls) (nO.2 (.inr (.inr ⟨s,f,.inl rfl⟩))) j).2.1.1 I;have J:=(rO (lW h ls) (nO.2 (.inr (.inr ⟨s,f,.inr rfl⟩))) j).2.2.1 u;obtain⟨_,o⟩:=hok s f;exact⟨s,f,KI,KI,L,J⟩
 ·rintro ⟨s,f,G,I,u,S⟩
  refine⟨s,f,JA ⟨?_,?_,?_⟩⟩
  ·exact(rO (lX w ls) (nP.2 (.inr (.inr ⟨s,f,.inl rfl⟩))) hi).1.2 G.symm
  ·exact(rO (lW h ls) (nO.2 (.inr (.inr ⟨s,f,.inl rfl⟩))) j).2.1.2 u
  ·exact(rO (lW h ls) (nO.2 (.inr (.inr ⟨s,f,.inr rfl⟩))) j).2.2.2 S
theorem bAj {i k:Nat} (hi:i<(gxs w ls).length) (G:k<(gys h ls).length):blG (gxs w ls) (gys h ls) ls i k=true↔cvH ls ((gxs w ls).getD i default) ((gys h ls).getD k default):=by
 unfold blG;rw[KV];constructor
 ·rintro ⟨s,f,O⟩
  obtain⟨u,I,j⟩:=JU O;have V:=(rO (lW h ls) (nO.2 (.inr (.inr ⟨s,f,.inl rfl⟩))) G).1.1 j;have L:=(rO (lX w ls) (nP.2 (.inr (.inr ⟨s,f,.inl rfl⟩))) hi).2.1.1 u;have J:=(rO (lX w ls) (nP.2 (.inr (.inr ⟨s,f,.inr rfl⟩))) hi).2.2.1 I;obtain⟨_,o⟩:=hok s f;exact⟨s,f,KI,KI,L,J⟩
 ·rintro ⟨s,f,u,I,j,S⟩
  refine⟨s,f,JA ⟨?_,?_,?_⟩⟩
  ·exact(rO (lX w ls) (nP.2 (.inr (.inr ⟨s,f,.inl rfl⟩))) hi).2.1.2 j
  ·exact(rO (lX w ls) (nP.2 (.inr (.inr ⟨s,f,.inr rfl⟩))) hi).2.2.2 S
  ·exact(rO (lW h ls) (nO.2 (.inr (.inr ⟨s,f,.inl rfl⟩))) G).1.2 u.symm
omit hok in
theorem rJ (hok:∀s∈ls,jY w h s) (hw:0<=w) {x:Int} (j:x∈gxs w ls):0<=x/\x<=w:=by
 rcases nP.1 j with rfl|rfl|⟨s,f,rfl|rfl⟩
 ·omega
 ·omega
 ·have:=(hok s f).1;omega
 ·have:=(hok s f).1;omega
omit hok in
theorem rI (hok:∀s∈ls,jY w h s) (hh:0<=h) {y:Int} (j:y∈gys h ls):0<=y/\y<=h:=by
 rcases nO.1 j with rfl|rfl|⟨s,f,rfl|rfl⟩
 ·omega
 ·omega
 ·have:=(hok s f).1;omega
 ·have:=(hok s f).1;omega
def inC (xs ys:zzI) (c:Pl) (x y:Int):Prop:=(c.1+1<xs.length/\c.2+1<ys.length)/\(xs.getD c.1 default<=x/\x<xs.getD (c.1+1) default)/\ys.getD c.2 default<=y/\y<ys.getD (c.2+1) default
variable (hw:0<w) (hh:0<h) (hV:∀x y,0<x->x<w->0<=y->y<h->(cvV ls x y↔col x y≠col (x-1) y)) (hH:∀x y,0<=x->x<w->0<y->y<h->(cvH ls x y↔col x y≠col x (y-1)))
include hw hh hV hH
theorem zG {c:Pl} {x y:Int} (hc:inC (gxs w ls) (gys h ls) c x y):col x y=col ((gxs w ls).getD c.1 default) ((gys h ls).getD c.2 default):=by
 obtain⟨⟨l1,l2⟩,⟨a1,a2⟩,b1,b2⟩:=hc;have ax:=lX w ls;have ay:=lW h ls;have x0:=rJ w h ls hok KI (gL (show c.1<(gxs w ls).length by omega));have x1:=rJ w h ls hok KI (gL l1);have y0:=rI w h ls hok KI (gL (show c.2<(gys h ls).length by omega));have y1:=rI w h ls hok KI (gL l2);have nx:∀z,(gxs w ls).getD c.1 default<z->z<(gxs w ls).getD (c.1+1) default->z ∉ gxs w ls:=fun z S O hm=>by
  obtain⟨j,u,rfl⟩:=Wx hm;have:=ax.Xu (show c.1<(gxs w ls).length by omega) S u;have:=ax.Xu u O l1;omega
 have ny:∀z,(gys h ls).getD c.2 default<z->z<(gys h ls).getD (c.2+1) default->z ∉ gys h ls:=fun z S O hm=>by
  obtain⟨j,u,rfl⟩:=Wx hm;have:=ay.Xu (show c.2<(gys h ls).length by omega) S u;have:=ay.Xu u O l2;omega
 have Z:∀(n:Nat) (z:Int),z=(gxs w ls).getD c.1 default+n->z<(gxs w ls).getD (c.1+1) default->col z y=col ((gxs w ls).getD c.1 default) y:=by
  intro n
  induction n with
  |zero=>intro z e _;rw[e];simp
  |succ n I=>
   intro z e J;have f:¬cvV ls z y:=fun ⟨s,L,G,_⟩=>nx z KI J (nP.2 (.inr (.inr ⟨s,L,.inl G.symm⟩)))
   rw[hV z y KI KI KI KI] at f;rw[Classical.not_not.1 f];exact I (z-1) KI KI
 have V:∀(n:Nat) (z:Int),z=(gys h ls).getD c.2 default+n->z<(gys h ls).getD (c.2+1) default->col ((gxs w ls).getD c.1 default) z=col ((gxs w ls).getD c.1 default) ((gys h ls).getD c.2 default):=by
  intro n
  induction n with
  |zero=>intro z e _;rw[e];simp
  |succ n I=>
   intro z e J;have f:¬cvH ls ((gxs w ls).getD c.1 default) z:=fun ⟨s,L,G,_⟩=>ny z KI J (nO.2 (.inr (.inr ⟨s,L,.inl G.symm⟩)))
   rw[hH _ z KI KI KI KI] at f;rw[Classical.not_not.1 f];exact I (z-1) KI KI
 rw[Z (x-(gxs w ls).getD c.1 default).toNat x KI a2,V (y-(gys h ls).getD c.2 default).toNat y KI b2]
end
def lC {γ:Type} (xs ys:zzI) (col:Int->Int->γ) (c:Pl):γ:=col (xs.getD c.1 default) (ys.getD c.2 default)
def rC {γ:Type} (w h:Int) (col:Int->Int->γ) (c:γ) (x y:Int):Prop:=((0<=x/\x<w)/\0<=y/\y<h)/\col x y=c
theorem aQS {nb:Pl->List Pl} {L:Pl->Option Nat} (u:∀d e j,L d=some j->e∈nb d->L e=some j) {d e:Pl} {j:Nat} (hp:Path nb d e) (h:L d=some j):L e=some j:=by
 induction hp with
 |base=>exact h
 |step _ he f=>grind
theorem Path.trans {nb:Pl->List Pl} {c d e:Pl} (u:Path nb c d) (j:Path nb d e):Path nb c e:=by
 induction j with
 |base=>exact u
 |step _ he f=>exact .step f he
theorem Ck {l:zzI} (f:asc l) {i j:Nat} (hi:i+1<l.length) (u:j+1<l.length) {x:Int} (L:l.getD i default<=x) (J:x<l.getD (i+1) default) (I:l.getD j default<=x) (G:x<l.getD (j+1) default):i=j:=by
 rcases Nat.lt_trichotomy i j with h|h|h
 ·have:=pW f (show i+1<=j by omega) KI;omega
 ·exact h
 ·have:=pW f (show j+1<=i by omega) KI;omega
theorem aVS {xs ys:zzI} (O:asc xs) (L:asc ys) {c d:Pl} {x y:Int} (j:inC xs ys c x y) (f:inC xs ys d x y):c=d:=by
 obtain⟨⟨J,I⟩,⟨a1,a2⟩,b1,b2⟩:=j;obtain⟨⟨G,u⟩,⟨c1,Z⟩,V,S⟩:=f;grind [Ck]
theorem Og {w h:Int} {ls:List Seg} {x y:Int} (h1:0<=x) (h2:x<w) (h3:0<=y) (h4:y<h):∃c,inC (gxs w ls) (gys h ls) c x y:=by
 have ax:=lX w ls;have f:=lW h ls;have J:(0:Int)∈gxs w ls:=nP.2 (.inl rfl);have I:w∈gxs w ls:=nP.2 (.inr (.inl rfl));have G:(0:Int)∈gys h ls:=nO.2 (.inl rfl);have u:h∈gys h ls:=nO.2 (.inr (.inl rfl));have px:=Yj w ls;have Z:=Yi h ls;have e1:=Hy ax J;have e2:=Hx ax I (j:=(gxs w ls).length-1) KI KI;have e3:=Hy f G;have e4:=Hx f u (j:=(gys h ls).length-1) KI KI;obtain⟨i,i1,V,S⟩:=J2 (l:=gxs w ls) (t:=x) ((gxs w ls).length-1) KI KI KI;obtain⟨k,k1,O,L⟩:=J2 (l:=gys h ls) (t:=y) ((gys h ls).length-1) KI KI KI;exact⟨(i,k),⟨KI,KI⟩,⟨V,S⟩,O,L⟩
theorem aVT {xs ys:zzI} (G:asc xs) (u:asc ys) {c:Pl} (j:c.1+1<xs.length) (f:c.2+1<ys.length):inC xs ys c (xs.getD c.1 default) (ys.getD c.2 default):=
 ⟨⟨j,f⟩,⟨Int.le_refl _,mS G (Nat.lt_succ_self _) j⟩,Int.le_refl _,mS u (Nat.lt_succ_self _) f⟩
section
variable {γ:Type} (w h:Int) (ls:List Seg) (hok:∀s∈ls,jY w h s) (col:Int->Int->γ)
 (hw:0<w) (hh:0<h) (hV:∀x y,0<x->x<w->0<=y->y<h->(cvV ls x y↔col x y≠col (x-1) y)) (hH:∀x y,0<=x->x<w->0<y->y<h->(cvH ls x y↔col x y≠col x (y-1)))
include hok hw hh hV hH
theorem tl {i k:Nat} (hi:i+2<(gxs w ls).length) (f:k+1<(gys h ls).length):lfG (gxs w ls) (gys h ls) ls (i+1) k=true↔lC (gxs w ls) (gys h ls) col (i+1,k)≠lC (gxs w ls) (gys h ls) col (i,k):=by
 have ax:=lX w ls;have u:=lW h ls;have I:=mS ax (show i<i+1 by omega) KI;have G:=mS ax (show i+1<i+2 by omega) hi;have j:=mS u (show k<k+1 by omega) f;have S:=rJ w h ls hok KI (gL (show i<(gxs w ls).length by omega));have O:=rJ w h ls hok KI (gL hi);have L:=rI w h ls hok KI (gL (show k<(gys h ls).length by omega));have J:=rI w h ls hok KI (gL f);rw[aUA w h ls hok KI KI,hV _ _ KI KI KI KI];have e:=zG w h ls hok col hw hh hV hH (c:=(i,k)) (x:=(gxs w ls).getD (i+1) default-1) (y:=(gys h ls).getD k default) ⟨⟨KI,f⟩,⟨by grind,by grind⟩,Int.le_refl _,j⟩;rw[e];rfl
theorem tk {i k:Nat} (hi:i+1<(gxs w ls).length) (f:k+2<(gys h ls).length):blG (gxs w ls) (gys h ls) ls i (k+1)=true↔lC (gxs w ls) (gys h ls) col (i,k+1)≠lC (gxs w ls) (gys h ls) col (i,k):=by
 have ax:=lX w ls;have j:=lW h ls;have I:=mS j (show k<k+1 by omega) KI;have G:=mS j (show k+1<k+2 by omega) f;have u:=mS ax (show i<i+1 by omega) hi;have S:=rI w h ls hok KI (gL (show k<(gys h ls).length by omega));have O:=rI w h ls hok KI (gL f);have L:=rJ w h ls hok KI (gL (show i<(gxs w ls).length by omega));have J:=rJ w h ls hok KI (gL hi);rw[bAj w h ls hok KI KI,hH _ _ KI KI KI KI];have e:=zG w h ls hok col hw hh hV hH (c:=(i,k)) (x:=(gxs w ls).getD i default) (y:=(gys h ls).getD (k+1) default-1) ⟨⟨hi,KI⟩,⟨Int.le_refl _,u⟩,by grind,by grind⟩;rw[e];rfl
theorem aTR {d e:Pl} (he:e∈nbG (gxs w ls) (gys h ls) ls d):lC (gxs w ls) (gys h ls) col d=lC (gxs w ls) (gys h ls) col e:=by
 refine aTP he (fun d e=>lC (gxs w ls) (gys h ls) col d=lC (gxs w ls) (gys h ls) col e) (fun x y q=>q.symm) (fun i k u j f=>?_) (fun i k u j f=>?_)
 ·grind [tl]
 grind [tk]
theorem aTS {i k:Nat} (hi:i+2<(gxs w ls).length) (f:k+1<(gys h ls).length) (e:lC (gxs w ls) (gys h ls) col (i+1,k)=lC (gxs w ls) (gys h ls) col (i,k)):(i+1,k)∈nbG (gxs w ls) (gys h ls) ls (i,k):=by
 refine aTO KI KI ?_;grind [tl]
theorem aTQ {i k:Nat} (hi:i+1<(gxs w ls).length) (f:k+2<(gys h ls).length) (e:lC (gxs w ls) (gys h ls) col (i,k+1)=lC (gxs w ls) (gys h ls) col (i,k)):(i,k+1)∈nbG (gxs w ls) (gys h ls) ls (i,k):=by
 refine aTN KI KI ?_;grind [tk]
theorem xe {d e:Pl} (hp:Path (nbG (gxs w ls) (gys h ls) ls) d e):lC (gxs w ls) (gys h ls) col d=lC (gxs w ls) (gys h ls) col e:=by
 induction hp with
 |base=>rfl
 |step _ he f=>grind [aTR]
theorem sr {d e:Pl} {c:γ} {a b:Int} (Z:inC (gxs w ls) (gys h ls) d a b) (he:inC (gxs w ls) (gys h ls) e (a+1) b) (h1:col a b=c) (h2:col (a+1) b=c):Path (nbG (gxs w ls) (gys h ls) ls) d e/\Path (nbG (gxs w ls) (gys h ls) ls) e d:=by
 have ax:=lX w ls;have ay:=lW h ls;have q1:=zG w h ls hok col hw hh hV hH Z;have q2:=zG w h ls hok col hw hh hV hH he;obtain⟨i,k⟩:=d;obtain⟨V,k'⟩:=e;have O:=Z;have L:=he;obtain⟨⟨u,j⟩,⟨a1,a2⟩,b1,b2⟩:=O;obtain⟨⟨f,S⟩,⟨I,G⟩,d1,d2⟩:=L;simp only at u j a1 a2 b1 b2 f S I G d1 d2 q1 q2;obtain rfl:=Ck ay j S b1 b2 d1 d2
 by_cases hs:a+1<(gxs w ls).getD (i+1) default
 ·obtain rfl:=Ck ax u f (show (gxs w ls).getD i default<=a+1 by omega) hs I G;exact⟨.base,.base⟩
 ·have J:i+2<(gxs w ls).length:=by
   rcases Nat.lt_or_ge (i+2) (gxs w ls).length with q|q
   ·exact q
   ·exfalso;have:=pW ax (show V+1<=i+1 by omega) u;omega
  obtain rfl:i+1=V:=Ck ax (show i+1+1<_ by omega) f (show (gxs w ls).getD (i+1) default<=a+1 by omega) (by
   have:=mS ax (show i+1<i+1+1 by omega) KI;omega) I G
  have:=aTS w h ls hok col hw hh hV hH J j (by
   show col _ _=col _ _;grind)
  exact⟨.step .base this,.step .base (Gf _ _ this)⟩
theorem so {d e:Pl} {c:γ} {a b:Int} (Z:inC (gxs w ls) (gys h ls) d a b) (he:inC (gxs w ls) (gys h ls) e a (b+1)) (h1:col a b=c) (h2:col a (b+1)=c):Path (nbG (gxs w ls) (gys h ls) ls) d e/\Path (nbG (gxs w ls) (gys h ls) ls) e d:=by
 have ax:=lX w ls;have f:=lW h ls;have q1:=zG w h ls hok col hw hh hV hH Z;have q2:=zG w h ls hok col hw hh hV hH he;obtain⟨i,k⟩:=d;obtain⟨i',V⟩:=e;have O:=Z;have L:=he;obtain⟨⟨G,u⟩,⟨a1,a2⟩,b1,b2⟩:=O;obtain⟨⟨S,j⟩,⟨c1,c2⟩,J,I⟩:=L;simp only at G u a1 a2 b1 b2 S j c1 c2 J I q1 q2;obtain rfl:=Ck ax G S a1 a2 c1 c2
 by_cases hs:b+1<(gys h ls).getD (k+1) default
 ·obtain rfl:=Ck f u j (show (gys h ls).getD k default<=b+1 by omega) hs J I;exact⟨.base,.base⟩
 ·have fJ:k+2<(gys h ls).length:=by
   rcases Nat.lt_or_ge (k+2) (gys h ls).length with q|q
   ·exact q
   ·exfalso;have:=pW f (show V+1<=k+1 by omega) u;omega
  obtain rfl:k+1=V:=Ck f (show k+1+1<_ by omega) j (show (gys h ls).getD (k+1) default<=b+1 by omega) (by
   have:=mS f (show k+1<k+1+1 by omega) KI;omega) J I
  have:=aTQ w h ls hok col hw hh hV hH G fJ (by
   show col _ _=col _ _;grind)
  exact⟨.step .base this,.step .base (Gf _ _ this)⟩
theorem aMY {c:γ} {x y a b:Int} (O:Sj (rC w h col c) x y a b) (S:rC w h col c x y):rC w h col c a b/\∀d e,inC (gxs w ls) (gys h ls) d x y->inC (gxs w ls) (gys h ls) e a b->Path (nbG (gxs w ls) (gys h ls) ls) d e:=by
 have ax:=lX w ls;have V:=lW h ls
 induction O with
 |base=>
  refine⟨S,fun d e G he=>?_⟩;rw[aVS ax V G he];exact .base
 |right _ u I=>
  obtain⟨j,J⟩:=I;refine⟨u,fun d e G he=>?_⟩;obtain⟨f,hf⟩:=Og (ls:=ls) j.1.1.1 j.1.1.2 j.1.2.1 j.1.2.2;exact(J d f G hf).trans (sr w h ls hok col hw hh hV hH hf he j.2 u.2).1
 |left _ u I=>
  obtain⟨j,J⟩:=I;refine⟨u,fun d e G he=>?_⟩;obtain⟨f,hf⟩:=Og (ls:=ls) j.1.1.1 j.1.1.2 j.1.2.1 j.1.2.2;rename_i a b _ ;have L:inC (gxs w ls) (gys h ls) f (a-1+1) b:=by grind
  exact(J d f G hf).trans (sr w h ls hok col hw hh hV hH he L u.2 (by rw[Int.sub_add_cancel];exact j.2)).2
 |up _ u I=>
  obtain⟨j,J⟩:=I;refine⟨u,fun d e G he=>?_⟩;obtain⟨f,hf⟩:=Og (ls:=ls) j.1.1.1 j.1.1.2 j.1.2.1 j.1.2.2;exact(J d f G hf).trans (so w h ls hok col hw hh hV hH hf he j.2 u.2).1
 |down _ u I=>
  obtain⟨j,J⟩:=I;refine⟨u,fun d e G he=>?_⟩;obtain⟨f,hf⟩:=Og (ls:=ls) j.1.1.1 j.1.1.2 j.1.2.1 j.1.2.2;rename_i a b _;have L:inC (gxs w ls) (gys h ls) f a (b-1+1):=by grind
  exact(J d f G hf).trans (so w h ls hok col hw hh hV hH he L u.2 (by rw[Int.sub_add_cancel];exact j.2)).2
open Classical in
theorem xg {c:γ} {x y:Int} (f:rC w h col c x y) (hj:∀a b,rC w h col c a b->Sj (rC w h col c) x y a b):
  ((cellsOf ((gxs w ls).length-1) ((gys h ls).length-1)).filter fun d=>decide (lC (gxs w ls) (gys h ls) col d=c)).map (hG (gxs w ls) (gys h ls))∈pF w h ls:=by
 have ax:=lX w ls;have ay:=lW h ls;obtain⟨L,I,hP⟩:=aMc (nb:=nbG (gxs w ls) (gys h ls) ls) Gf (hG (gxs w ls) (gys h ls)) (cellsOf ((gxs w ls).length-1) ((gys h ls).length-1));obtain⟨u,G⟩:=Og (ls:=ls) f.1.1.1 f.1.1.2 f.1.2.1 f.1.2.2;have hm:u∈cellsOf ((gxs w ls).length-1) ((gys h ls).length-1):=vY.2 ⟨by have:=G.1.1;omega,by have:=G.1.2;omega⟩;obtain⟨j,J⟩:=Option.ne_none_iff_exists'.1 (I.lab u hm);have O:=I.bound u j J;have oB:lC (gxs w ls) (gys h ls) col u=c:=by
  show col _ _=c;rw[<- zG w h ls hok col hw hh hV hH G];exact f.2
 have e:=hP j O;have hf:((cellsOf ((gxs w ls).length-1) ((gys h ls).length-1)).filter fun d=>decide (lC (gxs w ls) (gys h ls) col d=c))=(cellsOf ((gxs w ls).length-1) ((gys h ls).length-1)).filter fun d=>decide (L d=some j):=by
  refine List.filter_congr fun d V=>?_
  rw[decide_eq_decide];constructor
  ·intro hc;have V:=vY.1 V;have hin:=aVT ax ay (c:=d) KI KI;have b1:=rJ w h ls hok KI (gL (show d.1<(gxs w ls).length by omega));have b2:=rJ w h ls hok KI (gL hin.1.1);have b3:=rI w h ls hok KI (gL (show d.2<(gys h ls).length by omega));have b4:=rI w h ls hok KI (gL hin.1.2);have ho:rC w h col c ((gxs w ls).getD d.1 default) ((gys h ls).getD d.2 default):=⟨⟨⟨KI,by have:=hin.2.1.2;omega⟩,KI,by have:=hin.2.2.2;omega⟩,hc⟩;have hp:=(aMY w h ls hok col hw hh hV hH (hj _ _ ho) f).2 u d G hin;exact aQS I.closed hp J
  ·intro Z;obtain⟨r,S⟩:=I.root j;rw[<- xe w h ls hok col hw hh hV hH (S d Z),xe w h ls hok col hw hh hV hH (S u J)];omega
 rw[hf,<- e];show _∈yA _ _ _;grind
end
def inq (x y:Int) (r:aA):Prop:=r.X<=x/\x<r.X+r.W/\r.Y<=y/\y<r.Y+r.H
instance (x y:Int) (r:aA):Decidable (inq x y r):=by unfold inq;infer_instance
def lB (x y:Int):List aA->Nat->Int
 |[],_=> -1
 |r::l,i=>if inq x y r then i else lB x y l (i+1)
theorem zA (x y:Int):∀(l:List aA) (k:Nat),(lB x y l k= -1/\∀r∈l,¬inq x y r)\/∃i,i<l.length/\lB x y l k=((k+i:Nat):Int)/\inq x y (l.getD i default):=by
 intro l
 induction l with
 |nil=>exact fun k=>.inl ⟨rfl,fun r I=>by cases I⟩
 |cons r l G=>
  intro k;unfold lB
  by_cases h:inq x y r
  ·rw[JQ h];exact .inr ⟨0,XQ,rfl,h⟩
  ·rw[QF h];rcases G (k+1) with ⟨u,j⟩|⟨i,u,j,J⟩
   ·refine .inl ⟨u,fun s f=>?_⟩;rcases List.mem_cons.1 f with rfl|f
    ·exact h
    ·exact j s f
   ·refine .inr ⟨i+1,by simpa using u,?_,J⟩;rw[j];congr 1;omega
def mO (a b:aA):Prop:=a.X+a.W<b.X\/b.X+b.W<a.X\/a.Y+a.H<b.Y\/b.Y+b.H<a.Y
def jD (r:aA):List Seg:=[⟨r.X,r.Y,r.X+r.W,r.Y⟩,⟨r.X+r.W,r.Y,r.X+r.W,r.Y+r.H⟩,⟨r.X,r.Y+r.H,r.X+r.W,r.Y+r.H⟩,⟨r.X,r.Y,r.X,r.Y+r.H⟩]
theorem aEn (r:aA) (hw:0<r.W) (hh:0<r.H) (x y:Int):cvV (jD r) x y↔(x=r.X\/x=r.X+r.W)/\r.Y<=y/\y<r.Y+r.H:=by
 unfold cvV jD;constructor
 ·rintro ⟨s,f,h⟩
  simp only[List.mem_cons,List.not_mem_nil,or_false] at f;rcases f with rfl|rfl|rfl|rfl<;>simp only at h<;>omega
 ·rintro ⟨rfl|rfl,h⟩
  ·exact⟨⟨r.X,r.Y,r.X,r.Y+r.H⟩,XQ,rfl,rfl,h⟩
  ·exact⟨⟨r.X+r.W,r.Y,r.X+r.W,r.Y+r.H⟩,XQ,rfl,rfl,h⟩
theorem aEo (r:aA) (hw:0<r.W) (hh:0<r.H) (x y:Int):cvH (jD r) x y↔(y=r.Y\/y=r.Y+r.H)/\r.X<=x/\x<r.X+r.W:=by
 unfold cvH jD;constructor
 ·rintro ⟨s,f,h⟩
  simp only[List.mem_cons,List.not_mem_nil,or_false] at f;rcases f with rfl|rfl|rfl|rfl<;>simp only at h<;>omega
 ·rintro ⟨rfl|rfl,h⟩
  ·exact⟨⟨r.X,r.Y,r.X+r.W,r.Y⟩,XQ,rfl,rfl,h⟩
  ·exact⟨⟨r.X,r.Y+r.H,r.X+r.W,r.Y+r.H⟩,XQ,rfl,rfl,h⟩
theorem aYl {α:Type} (f:α->List Seg) (l:List α) (x y:Int):cvV (l.flatMap f) x y↔∃a∈l,cvV (f a) x y:=by
 unfold cvV;constructor
 ·rintro ⟨s,j,h⟩
  obtain⟨a,u,j⟩:=List.mem_flatMap.1 j;exact⟨a,u,s,j,h⟩
 ·rintro ⟨a,u,s,j,h⟩
  exact⟨s,List.mem_flatMap.2 ⟨a,u,j⟩,h⟩
theorem aYn {α:Type} (f:α->List Seg) (l:List α) (x y:Int):cvH (l.flatMap f) x y↔∃a∈l,cvH (f a) x y:=by
 unfold cvH;constructor
 ·rintro ⟨s,j,h⟩
  obtain⟨a,u,j⟩:=List.mem_flatMap.1 j;exact⟨a,u,s,j,h⟩
 ·rintro ⟨a,u,s,j,h⟩
  exact⟨s,List.mem_flatMap.2 ⟨a,u,j⟩,h⟩
theorem nF (l:List aA) {i:Nat} (h:i<l.length):l.getD i default=l[i]:=by
 rw[List.getD_eq_getElem?_getD,JW h];rfl
theorem Bt {l:List aA} (hf:l.Pairwise mO) {i j:Nat} (hi:i<l.length) (I:j<l.length) {x y G u:Int} (L:inq x y (l.getD i default)) (J:inq G u (l.getD j default)) (S:x-1<=G/\G<=x+1) (hb:y-1<=u/\u<=y+1):i=j:=by
 rw[nF l hi] at L;rw[nF l I] at J;refine Classical.byContradiction fun O=>?_
 have f:mO l[i] l[j]:=by
  rcases Nat.lt_or_ge i j with h|h
  ·exact List.pairwise_iff_getElem.1 hf i j hi I h
  ·have:=List.pairwise_iff_getElem.1 hf j i I hi KI;unfold mO at this ⊢;omega
 unfold inq at L J;unfold mO at f;omega
theorem aVX {C:List aA} (hs:∀r∈C,0<r.W/\0<r.H) (hf:C.Pairwise mO):(∀x y,cvV (C.flatMap jD) x y↔lB x y C 0≠lB (x-1) y C 0)/\∀x y,cvH (C.flatMap jD) x y↔lB x y C 0≠lB x (y-1) C 0:=by
 have key:∀x y J I,(J=x-1/\I=y\/J=x/\I=y-1)->((∃r∈C,¬(inq x y r↔inq J I r))↔lB x y C 0≠lB J I C 0):=by
  intro x y J I ha;constructor
  ·rintro ⟨r,f,hn⟩ he
   obtain⟨k,hk,rfl⟩:=List.mem_iff_getElem.1 f;rw[<- nF C hk] at hn;rcases zA x y C 0 with ⟨L,G⟩|⟨i,V,i2,Z⟩
   ·rcases zA J I C 0 with ⟨h3,h4⟩|⟨j,S,j2,O⟩
    ·rw[nF C hk] at hn;exact hn ⟨fun q=>absurd q (G _ f),fun q=>absurd q (h4 _ f)⟩
    ·omega
   ·rcases zA J I C 0 with ⟨h3,h4⟩|⟨j,S,j2,O⟩
    ·omega
    ·obtain rfl:i=j:=KI;apply hn;constructor
     ·intro q;obtain rfl:=Bt hf V hk Z q KI KI;exact O
     ·intro q;obtain rfl:=Bt hf V hk O q KI KI;exact Z
  ·intro hne;refine Classical.byContradiction fun u=>hne ?_
   have u:∀r∈C,(inq x y r↔inq J I r):=fun r f=>Classical.byContradiction fun q=>u ⟨r,f,q⟩
   rcases zA x y C 0 with ⟨L,G⟩|⟨i,V,i2,Z⟩
   ·rcases zA J I C 0 with ⟨h3,h4⟩|⟨j,S,j2,O⟩
    ·rw[L,h3]
    ·exact absurd ((u _ (eF S)).2 O) (G _ (eF S))
   ·rcases zA J I C 0 with ⟨h3,h4⟩|⟨j,S,j2,O⟩
    ·exact absurd ((u _ (eF V)).1 Z) (h4 _ (eF V))
    ·obtain rfl:=Bt hf V S Z O KI KI;rw[i2,j2]
 constructor
 ·intro x y;rw[aYl,<- key x y (x-1) y (.inl ⟨rfl,rfl⟩)];constructor
  ·rintro ⟨r,f,h⟩
   obtain⟨L,G⟩:=hs r f;rw[aEn r L G] at h;refine⟨r,f,fun q=>?_⟩;unfold inq at q;omega
  ·rintro ⟨r,f,h⟩
   obtain⟨L,G⟩:=hs r f;refine⟨r,f,?_⟩;rw[aEn r L G];unfold inq at h;omega
 ·intro x y;rw[aYn,<- key x y x (y-1) (.inr ⟨rfl,rfl⟩)];constructor
  ·rintro ⟨r,f,h⟩
   obtain⟨L,G⟩:=hs r f;rw[aEo r L G] at h;refine⟨r,f,fun q=>?_⟩;unfold inq at q;omega
  ·rintro ⟨r,f,h⟩
   obtain⟨L,G⟩:=hs r f;refine⟨r,f,?_⟩;rw[aEo r L G];unfold inq at h;omega
section
variable {C:Int->Int->Prop}
theorem Sj.trans {x y a b c d:Int} (G:Sj C x y a b) (u:Sj C a b c d):Sj C x y c d:=by
 induction u with
 |base=>exact G
 |right _ j f=>exact .right f j
 |left _ j f=>exact .left f j
 |up _ j f=>exact .up f j
 |down _ j f=>exact .down f j
theorem Sj.toR {a b:Int} (h:C a b):Sj C (a+1) b a b:=by
 have:=Sj.left (C:=C) (x:=a+1) (y:=b) .base (by grind);grind
theorem Sj.toL {a b:Int} (h:C a b):Sj C (a-1) b a b:=by
 have:=Sj.right (C:=C) (x:=a-1) (y:=b) .base (by grind);grind
theorem Sj.toU {a b:Int} (h:C a b):Sj C a (b+1) a b:=by
 have:=Sj.down (C:=C) (x:=a) (y:=b+1) .base (by grind);grind
theorem Sj.toD {a b:Int} (h:C a b):Sj C a (b-1) a b:=by
 have:=Sj.up (C:=C) (x:=a) (y:=b-1) .base (by grind);grind
theorem Sj.back {x y a b:Int} (h:Sj C x y a b) (u:C x y):C a b/\Sj C a b x y:=by
 induction h with
 |base=>exact⟨u,.base⟩
 |right _ j f=>exact⟨j,(Sj.toR f.1).trans f.2⟩
 |left _ j f=>exact⟨j,(Sj.toL f.1).trans f.2⟩
 |up _ j f=>exact⟨j,(Sj.toU f.1).trans f.2⟩
 |down _ j f=>exact⟨j,(Sj.toD f.1).trans f.2⟩
theorem Sj.row {y:Int}:∀(n:Nat) (x z:Int),z=x+n->(∀t,x<=t->t<=z->C t y)->Sj C x y z y:=by
 intro n
 induction n with
 |zero=>
  intro x z e _;obtain rfl:z=x:=KI;exact .base
 |succ n f=>
  intro x z e h;have:=(f x (z-1) KI fun t j u=>h t j KI).right (by grind);grind
theorem Sj.clm {x:Int}:∀(n:Nat) (y z:Int),z=y+n->(∀t,y<=t->t<=z->C x t)->Sj C x y x z:=by
 intro n
 induction n with
 |zero=>
  intro y z e _;obtain rfl:z=y:=KI;exact .base
 |succ n f=>
  intro y z e h;have:=(f y (z-1) KI fun t j u=>h t j KI).up (by grind);grind
end
def Fq (c:aA) (x y:Int):Prop:=(c.X-1<=x/\x<=c.X+c.W/\c.Y-1<=y/\y<=c.Y+c.H)/\¬inq x y c
theorem vh {C:Int->Int->Prop} {c:aA} (hw:0<c.W) (hh:0<c.H) (hC:∀x y,Fq c x y->C x y) {x y:Int} (h:Fq c x y):Sj C (c.X-1) (c.Y-1) x y:=by
 have j:∀a b,(c.X-1<=a/\a<=c.X+c.W/\c.Y-1<=b/\b<=c.Y+c.H)->(a=c.X-1\/a=c.X+c.W\/b=c.Y-1\/b=c.Y+c.H)->C a b:=fun a b J I=>hC a b ⟨J,fun q=>by unfold inq at q;omega⟩
 obtain⟨J,I⟩:=h;have f:x=c.X-1\/x=c.X+c.W\/y=c.Y-1\/y=c.Y+c.H:=Classical.byContradiction fun n=>I (by unfold inq;omega)
 rcases f with f|f|f|f
 ·subst f;exact Sj.clm (y-(c.Y-1)).toNat _ _ KI fun t G u=>j _ _ KI KI
 ·subst f;refine(Sj.row (c.X+c.W-(c.X-1)).toNat _ (c.X+c.W) KI fun t G u=>j _ _ KI KI).trans ?_;exact Sj.clm (y-(c.Y-1)).toNat _ _ KI fun t G u=>j _ _ KI KI
 ·subst f;exact Sj.row (x-(c.X-1)).toNat _ _ KI fun t G u=>j _ _ KI KI
 ·subst f;refine(Sj.clm (c.Y+c.H-(c.Y-1)).toNat _ (c.Y+c.H) KI fun t G u=>j _ _ KI KI).trans ?_;exact Sj.row (x-(c.X-1)).toNat _ _ KI fun t G u=>j _ _ KI KI
def Kj (a b:aA):Prop:=(min (a.X+a.W) (b.X+b.W)-max a.X b.X=0/\0<min (a.Y+a.H) (b.Y+b.H)-max a.Y b.Y)\/(min (a.Y+a.H) (b.Y+b.H)-max a.Y b.Y=0/\0<min (a.X+a.W) (b.X+b.W)-max a.X b.X)
inductive Tc (R:List aA) (a:aA):aA->Prop
 |base:Tc R a a
 |step {b c:aA}:Tc R a b->b∈R->c∈R->Kj b c->Tc R a c
section
variable (R C:List aA) (hR:∀r∈R,0<r.W/\0<r.H) (hC:∀c∈C,0<c.W/\0<c.H) (hin:∀c∈C,∃r∈R,r.X<c.X/\r.Y<c.Y/\c.X+c.W<r.X+r.W/\c.Y+c.H<r.Y+r.H) (hf:C.Pairwise mO)
def tW (x y:Int):Prop:=(∃r∈R,inq x y r)/\∀c∈C,¬inq x y c
def Th (x y a b:Int):Prop:=(tW R C x y/\a=x/\b=y)\/∃c∈C,inq x y c/\a=c.X-1/\b=c.Y-1
def Cn (x y u j:Int):Prop:=∀a b a' f,Th R C x y a b->Th R C u j a' f->Sj (tW R C) a b a' f
theorem sw {x y:Int} (h:∃r∈R,inq x y r):∃a b,Th R C x y a b:=by
 by_cases q:∃c∈C,inq x y c
 ·obtain⟨c,f,q⟩:=q;exact⟨_,_,.inr ⟨c,f,q,rfl,rfl⟩⟩
 ·exact⟨x,y,.inl ⟨⟨h,fun c f k=>q ⟨c,f,k⟩⟩,rfl,rfl⟩⟩
theorem Cn.trans {x y G u j f:Int} (hm:∃r∈R,inq G u r) (S:Cn R C x y G u) (O:Cn R C G u j f):Cn R C x y j f:=fun a b a' V L J=>by
 obtain⟨c,d,I⟩:=sw R C hm;exact(S a b c d L I).trans (O c d a' V I J)
theorem aHr (hf:C.Pairwise mO) {x y:Int}:Cn R C x y x y:=fun a b a' Z V J=>by
 rcases V with ⟨S,rfl,rfl⟩|⟨c,O,u,rfl,rfl⟩
 ·rcases J with ⟨I,rfl,rfl⟩|⟨d,G,f,rfl,rfl⟩
  ·exact .base
  ·exact absurd f (S.2 d G)
 ·rcases J with ⟨I,rfl,rfl⟩|⟨d,G,f,rfl,rfl⟩
  ·exact absurd u (I.2 c O)
  ·obtain⟨i,hi,rfl⟩:=List.mem_iff_getElem.1 O;obtain⟨j,L,rfl⟩:=List.mem_iff_getElem.1 G;rw[<- nF C hi] at u ⊢;rw[<- nF C L] at f ⊢;obtain rfl:=Bt hf hi L u f KI KI;exact .base
include hC hin hf
theorem Ui {c:aA} (f:c∈C) {x y:Int} (h:Fq c x y):tW R C x y:=by
 obtain⟨G,u⟩:=hC c f;obtain⟨r,I,r1,r2,r3,Z⟩:=hin c f;obtain⟨V,S⟩:=h;refine⟨⟨r,I,by unfold inq;omega⟩,fun d O J=>S ?_⟩;obtain⟨i,hi,rfl⟩:=List.mem_iff_getElem.1 f;obtain⟨j,L,rfl⟩:=List.mem_iff_getElem.1 O;rw[<- nF C hi] at V G u ⊢;rw[<- nF C L] at J;have hcl:inq (max (C.getD i default).X (min x ((C.getD i default).X+(C.getD i default).W-1))) (max (C.getD i default).Y (min y ((C.getD i default).Y+(C.getD i default).H-1))) (C.getD i default):=by
  unfold inq;omega
 grind [Bt]
theorem sv {x y a b:Int} (h:Th R C x y a b):tW R C a b:=by
 rcases h with ⟨h,rfl,rfl⟩|⟨c,f,_,rfl,rfl⟩
 ·exact h
 ·obtain⟨u,j⟩:=hC c f;exact Ui R C hC hin hf f ⟨KI,fun q=>by unfold inq at q;omega⟩
theorem Cn.symm {x y j f:Int} (h:Cn R C x y j f):Cn R C j f x y:=fun a b a' I G u=>((h a' I a b u G).back (sv R C hC hin hf u)).2
theorem Ib {x y J I:Int} (ha:(J=x+1/\I=y)\/(J=x/\I=y+1)):Cn R C x y J I:=fun a b a' b' q1 q2=>by
 have same:∀{c d:aA} (G:c∈C) (u:d∈C),inq x y c->inq J I d->c=d:=fun {c d} G u S O=>by
  obtain⟨i,hi,rfl⟩:=List.mem_iff_getElem.1 G;obtain⟨j,hj,rfl⟩:=List.mem_iff_getElem.1 u;rw[<- nF C hi] at S;rw[<- nF C hj] at O;grind [Bt]
 rcases q1 with ⟨r1,rfl,rfl⟩|⟨c,G,S,rfl,rfl⟩
 ·rcases q2 with ⟨L,rfl,rfl⟩|⟨d,u,O,rfl,rfl⟩
  ·rcases ha with ⟨rfl,rfl⟩|⟨rfl,rfl⟩
   ·exact .right .base L
   ·exact .up .base L
  ·obtain⟨Z,V⟩:=hC d u;have hr:Fq d a b:=⟨by grind [inq],r1.2 d u⟩;have f:Fq d (d.X-1) (d.Y-1):=⟨KI,fun q=>by unfold inq at q;omega⟩;exact((vh Z V (fun _ _=>Ui R C hC hin hf u) hr).back (Ui R C hC hin hf u f)).2
 ·obtain⟨Z,V⟩:=hC c G;rcases q2 with ⟨L,rfl,rfl⟩|⟨d,u,O,rfl,rfl⟩
  ·have hr:Fq c a' b':=⟨by grind [inq],L.2 c G⟩;grind [vh,Ui]
  ·rw[same G u S O];exact .base
theorem P9 {r:aA} (L:r∈R) {x y f j:Int} (S:inq x y r) (O:inq f j r):Cn R C x y f j:=by
 have G:∀(n:Nat) (b z t:Int),t=z+n->inq z b r->inq t b r->Cn R C z b t b:=by
  intro n
  induction n with
  |zero=>grind [aHr]
  |succ n J=>
   intro b z t e I V;have hm:inq (t-1) b r:=by unfold inq at*;omega
   exact(J b z (t-1) KI I hm).trans R C ⟨r,L,hm⟩ (Ib R C hC hin hf KI)
 have u:∀(n:Nat) (a z t:Int),t=z+n->inq a z r->inq a t r->Cn R C a z a t:=by
  intro n
  induction n with
  |zero=>grind [aHr]
  |succ n J=>
   intro a z t e I V;have hm:inq a (t-1) r:=by unfold inq at*;omega
   exact(J a z (t-1) KI I hm).trans R C ⟨r,L,hm⟩ (Ib R C hC hin hf KI)
 have hm:inq f y r:=by unfold inq at*;omega
 refine Cn.trans R C ⟨r,L,hm⟩ ?_ ?_
 ·by_cases q:x<=f
  ·exact G (f-x).toNat y x f KI S hm
  ·exact Cn.symm R C hC hin hf (G (x-f).toNat y f x KI hm S)
 ·by_cases q:y<=j
  ·exact u (j-y).toNat f y j KI hm O
  ·exact Cn.symm R C hC hin hf (u (y-j).toNat f j y KI O hm)
include hR
theorem aLa {a b:aA} (u:a∈R) (hb:b∈R) (ht:Kj a b) {x y J I:Int} (h1:inq x y a) (h2:inq J I b):Cn R C x y J I:=by
 obtain⟨a1,a2⟩:=hR a u;obtain⟨b1,b2⟩:=hR b hb;have G:∃p q j f,inq p q a/\inq j f b/\Cn R C p q j f:=by
  rcases ht with ⟨V,S⟩|⟨V,S⟩
  ·by_cases q:a.X+a.W<=b.X+b.W
   ·exact⟨a.X+a.W-1,max a.Y b.Y,a.X+a.W,max a.Y b.Y,by unfold inq;omega,by unfold inq;omega,Ib R C hC hin hf KI⟩
   ·exact⟨b.X+b.W,max a.Y b.Y,b.X+b.W-1,max a.Y b.Y,by unfold inq;omega,by unfold inq;omega,Cn.symm R C hC hin hf (Ib R C hC hin hf KI)⟩
  ·by_cases q:a.Y+a.H<=b.Y+b.H
   ·exact⟨max a.X b.X,a.Y+a.H-1,max a.X b.X,a.Y+a.H,by unfold inq;omega,by unfold inq;omega,Ib R C hC hin hf KI⟩
   ·exact⟨max a.X b.X,b.Y+b.H,max a.X b.X,b.Y+b.H-1,by unfold inq;omega,by unfold inq;omega,Cn.symm R C hC hin hf (Ib R C hC hin hf KI)⟩
 obtain⟨p,q,j,f,O,L,Z⟩:=G;exact(P9 R C hC hin hf u h1 O).trans R C ⟨a,u,O⟩ (Z.trans R C ⟨b,hb,L⟩ (P9 R C hC hin hf hb L h2))
theorem aQQ {f:aA} (V:f∈R) (G:∀r∈R,Tc R f r) {x y u j:Int} (S:tW R C x y) (O:tW R C u j):Sj (tW R C) x y u j:=by
 have I:∀r,Tc R f r->∀x y u j,inq x y f->inq u j r->Cn R C x y u j:=fun r ht=>by
  induction ht with
  |base=>grind [P9]
  |step _ hb hc t ih=>
   intro x y u j L J;rename_i b c _;obtain⟨w1,Z⟩:=hR b hb;have hm:inq b.X b.Y b:=by unfold inq;omega
   exact(ih x y b.X b.Y L hm).trans R C ⟨b,hb,hm⟩ (aLa R C hR hC hin hf hb hc t hm J)
 obtain⟨r,hr,L⟩:=S.1;obtain⟨s,hs,J⟩:=O.1;obtain⟨w1,Z⟩:=hR f V;have hm:inq f.X f.Y f:=by unfold inq;omega
 have a1:=Cn.symm R C hC hin hf (I r (G r hr) _ _ x y hm L);have a2:=I s (G s hs) _ _ u j hm J;exact(a1.trans R C ⟨f,V,hm⟩ a2) x y u j (.inl ⟨S,rfl,rfl⟩) (.inl ⟨O,rfl,rfl⟩)
end
inductive Tp (l:List aA):Nat->Prop
 |base:Tp l 0
 |step {i k:Nat}:Tp l i->i<l.length->k<l.length->tL (l.getD i default) (l.getD k default)=true->Tp l k
structure BI (l:List aA) (s:List Bool×zzI):Prop where
 len:s.1.length=l.length
 nod:s.2.Pairwise (·≠·)
 mem:∀a∈s.2,∃k:Nat,a=k/\k<l.length/\s.1.getD k default=true/\Tp l k
theorem BI.mF {l:List aA} {s:List Bool×zzI} (h:BI l s) {a:Nat} (V:a<l.length) (O:Tp l a) {k:Nat} (u:k<l.length):BI l (mF l a s k):=by
 unfold Go.Proofs.YtgcpildegdgekaaGreatDoor.mF;cases h1:!(s.1.getD k default) with
 |false=>exact h
 |true=>
  cases Z:tL (l.getD a default) (l.getD k default) with
  |false=>exact h
  |true=>
   have I:s.1.getD k default=false:=by simpa using h1
   rw[QY,QY];refine⟨by rw[KR];exact h.len,?_,fun b hb=>?_⟩
   ·show (s.2++[(k:Int)]).Pairwise (·≠·);refine List.pairwise_append.2 ⟨h.nod,List.pairwise_singleton _ _,fun b hb c S=>?_⟩;obtain rfl:=JJ.1 S;obtain⟨j,rfl,_,f,_⟩:=h.mem b hb;intro e;have:j=k:=KI;rw[this,I] at f;cases f
   ·rcases QO.1 hb with hb|hb
    ·obtain⟨j,rfl,L,f,J⟩:=h.mem b hb;refine⟨j,rfl,L,?_,J⟩;have G:k≠j:=fun e=>by
      rw[<- e,I] at f;cases f
     rw[List.getD_eq_getElem?_getD,List.getElem?_set_ne G,<- List.getD_eq_getElem?_getD];exact f
    ·obtain rfl:=JJ.1 hb;refine⟨k,rfl,u,?_,.step O V u Z⟩;rw[List.getD_eq_getElem?_getD,List.getElem?_set_self (by rw[h.len];exact u)];rfl
theorem BI.aMf {l:List aA} {a:Nat} (L:a<l.length) (I:Tp l a):∀(f:List Nat) (s:List Bool×zzI),(∀k∈f,k<l.length)->BI l s->BI l (f.foldl (Go.Proofs.YtgcpildegdgekaaGreatDoor.mF l a) s):=by
 intro f
 induction f with
 |nil=>intro s _ h;exact h
 |cons k f G=>intro s u h;exact G _ (fun j J=>u j (QA _ J)) (h.mF L I (u k (QI ..)))
theorem BI.bfs {l:List aA}:∀(n i:Nat) (s:List Bool×zzI),BI l s->BI l (uN l n i s):=by
 intro n
 induction n with
 |zero=>intro i s h;exact h
 |succ n G=>
  intro i s h;unfold uN;cases J:decide (i<s.2.length) with
  |false=>exact h
  |true=>
   have hi:=JU J;have hm:s.2.getD i default∈s.2:=by
    rw[List.getD_eq_getElem?_getD,JW hi];exact QH hi
   obtain⟨k,e,u,_,f⟩:=h.mem _ hm;rw[QY,e,QZ];exact G _ _ (BI.aMf u f _ s (fun j I=>JH.1 I) h)
theorem aZF {l:List aA} (S:0<l.length) (h:rM l=true):∀k,k<l.length->Tp l k:=by
 intro k hk;have hb:BI l (uN l (l.length+1) 0 ((List.replicate l.length false).set 0 true,[0])):=by
  refine BI.bfs _ _ _ ⟨XQ,List.pairwise_singleton _ _,fun a f=>?_⟩;obtain rfl:=JJ.1 f;refine⟨0,rfl,S,?_,.base⟩;rw[List.getD_eq_getElem?_getD,List.getElem?_set_self (by simpa using S)];rfl
 have O:(uN l (l.length+1) 0 ((List.replicate l.length false).set 0 true,[0])).2.length=l.length:=by
  unfold rM at h;have:=KG.1 h;omega
 generalize uN l (l.length+1) 0 ((List.replicate l.length false).set 0 true,[0])=s at hb O;refine Classical.byContradiction fun hn=>?_
 have I:(k::s.2.map Int.toNat).Nodup:=by
  refine List.pairwise_cons.2 ⟨fun b J e=>hn ?_,?_⟩
  ·obtain⟨a,f,rfl⟩:=JK.1 J;obtain⟨j,rfl,_,_,V⟩:=hb.mem a f;rw[QZ] at e;rw[e];exact V
  ·rw[List.pairwise_map];refine List.Pairwise.imp_of_mem (fun {a b} f L G e=>G ?_) hb.nod;obtain⟨i,rfl,_⟩:=hb.mem a f;obtain⟨j,rfl,_⟩:=hb.mem b L;rw[QZ,QZ] at e;rw[e]
 have:=pig l.length _ I fun x u=>by
  rcases List.mem_cons.1 u with rfl|u
  ·exact hk
  ·obtain⟨a,f,rfl⟩:=JK.1 u;obtain⟨j,rfl,Z,_⟩:=hb.mem a f;rw[QZ];exact Z
 rw[QN,KJ,O] at this;omega
def smR (r:aA):Prop:=(-8388608<=r.X/\r.X<=8388608)/\(-8388608<=r.Y/\r.Y<=8388608)/\(0<r.W/\r.W<=2097152)/\(0<r.H/\r.H<=2097152)
theorem aLb {a b:aA} (f:smR a) (hb:smR b) (h:tL a b=true):Kj a b:=by
 obtain⟨S,O,L,J⟩:=f;obtain⟨I,G,u,j⟩:=hb;unfold tL M7 at h;rw[cN (n:=a.X+a.W) KI KI,cN (n:=b.X+b.W) KI KI,cN (n:=a.Y+a.H) KI KI,cN (n:=b.Y+b.H) KI KI] at h;simp only[maE,miE] at h;rw[cN (n:=min (a.X+a.W) (b.X+b.W)-max a.X b.X) KI KI,cN (n:=min (a.Y+a.H) (b.Y+b.H)-max a.Y b.Y) KI KI] at h;simp only[Bool.or_eq_true,QW,KG,JN] at h;exact h
def mvD (a b:Int) (r:aA):aA:=⟨r.X-a,r.Y-b,r.W,r.H⟩
theorem aL8 {R:List aA} {a b:Int} (G:∀r∈R,smR (mvD a b r)) {k:Nat} (f:k<R.length) (h:Tp (R.map (mvD a b)) k):Tc R (R.getD 0 default) (R.getD k default):=by
 have J:∀j,j<R.length->(R.map (mvD a b)).getD j default=mvD a b (R.getD j default):=fun j I=>by
  rw[List.getD_eq_getElem?_getD,KD,JW I,nF R I];rfl
 induction h with
 |base=>exact .base
 |step _ hi O u L=>
  rename_i i k _;rw[KJ] at hi;rw[J i hi,J k f] at u;refine .step (L hi) (eF hi) (eF f) ?_;have:=aLb (G _ (eF hi)) (G _ (eF f)) u;unfold Kj mvD at this;unfold Kj;simp only at this;omega
def mV (a b:aA):Prop:=a.X+a.W<=b.X\/b.X+b.W<=a.X\/a.Y+a.H<=b.Y\/b.Y+b.H<=a.Y
def rW (c r:aA):Prop:=r.X<c.X/\r.Y<c.Y/\c.X+c.W<r.X+r.W/\c.Y+c.H<r.Y+r.H
structure nu (R C M:List aA):Prop where
 pos:0<R.length
 len:R.length<=12/\C.length<=12/\M.length<=12
 sm:∀r∈R,smR r
 ap:R.Pairwise mV
 con:∀r∈R,Tc R (R.getD 0 default) r
 smH:∀c∈C++M,smR c
 str:∀c∈C++M,∃r∈R,rW c r
 far:(C++M).Pairwise mO
theorem tI {r:aA} (h:iV r=true):smR r/\(-1048576<=r.X/\r.X+r.W<=1048576)/\ -1048576<=r.Y/\r.Y+r.H<=1048576:=by
 unfold iV at h;rw[Sz] at h;have:=P4 h;unfold smR;omega
theorem xm {a b:aA} (f:iV a=true) (hb:iV b=true) (h:ovP a b=false):mV a b:=by
 have p:=tI f;have q:=tI hb;grind [ovP,Kv,iV,cN,mV]
theorem aL9 {a b:aA} (f:iV a=true) (hb:iV b=true) (h:u7 a b=false):mO a b:=by
 have p:=tI f;have q:=tI hb;grind [u7,Fg,maE,cN,mO]
theorem aLr {c r:aA} (j:iV c=true) (f:iV r=true) (h:Tf c.X c.Y c.W c.H r=true):rW c r:=by
 have p:=tI j;have q:=tI f;grind [smR,Tf,cN,rW]
theorem wv {nm mt:ByteArray} {g gr:Int} {R C M:List aA} (h:Au nm mt g gr R C M=0):0<R.length/\(R.length<=12/\C.length<=12/\M.length<=12)/\(∀r∈R,iV r=true)/\(∀r∈C++M,iV r=true)/\R.Pairwise mV/\rM R=true/\(∀c∈C++M,∃r∈R,rW c r)/\(C++M).Pairwise mO:=by
 unfold Au at h;obtain⟨_,h⟩:=nS h KI;obtain⟨_,h⟩:=nS h KI;obtain⟨h3,h⟩:=nS h KI;obtain⟨O,h⟩:=nS h KI;obtain⟨_,h⟩:=nS h KI;obtain⟨h6,h⟩:=nS h KI;obtain⟨h7,h⟩:=nS h KI;unfold Oc at h;obtain⟨h8,h⟩:=nS h KI;obtain⟨h9,_⟩:=nS h KI;simp only[JG,JS,Bool.not_eq_false',JL] at h3 O h7;obtain⟨⟨⟨v0,Z⟩,V⟩,S⟩:=O;have J:∀r∈R,iV r=true:=QT.1 Z;have L:∀r∈C++M,iV r=true:=fun r u=>by
  rcases QO.1 u with u|u
  ·exact QT.1 V r u
  ·exact QT.1 S r u
 refine⟨KI,KI,J,L,?_,h7,fun c hc=>?_,?_⟩
 ·rw[List.pairwise_iff_getElem];intro i j hi f I;have:=JR.1 h6 j (JH.2 f);have hm:R[i]∈R.take j:=List.mem_take_iff_getElem.2 ⟨i,KI,rfl⟩;have G:=JR.1 (JM.2 this) _ hm;rw[nF R f] at G;have:=xm (J _ (QH f)) (J _ (QH hi)) (by grind);grind [mV]
 ·obtain⟨i,hi,rfl⟩:=List.mem_iff_getElem.1 hc;have:=JR.1 h8 i (JH.2 hi);rw[nF _ hi] at this;unfold Om at this;have G:w9 (C++M)[i].X (C++M)[i].Y (C++M)[i].W (C++M)[i].H R=true:=by
   grind
  obtain⟨r,u,hs⟩:=KV.1 G;grind [aLr]
 ·rw[List.pairwise_iff_getElem];intro i j hi f I;have:=JR.1 h9 j (JH.2 f);have G:=JR.1 (JM.2 this) i (JH.2 I);rw[nF _ f,nF _ hi] at G;have:=aL9 (L _ (QH f)) (L _ (QH hi)) (by grind);grind [mO]
theorem aIN {a b:Int} (f: -1048576<=a/\a<=1048576) (hb: -1048576<=b/\b<=1048576) {r:aA} (h:iV (oW a b r)=true):oW a b r=mvD a b r/\smR r:=by
 have p:=tI h;grind [smR,oW,Zo,cN,mvD]
theorem aQR {p:Pce} (h:Ga p=0):nu p.Rects p.Cuts p.Forms/\∀r∈p.Rects,iV r=true:=by
 unfold Ga Fa mvS at h;obtain⟨h1,h⟩:=nS h KI;simp only[Bool.not_eq_false'] at h1;have u:∀r∈p.Rects,iV r=true:=QT.1 h1;refine⟨?_,u⟩;cases hl:((p.Rects.length:Int)==0) with
 |true=>
  rw[hl] at h;have:=(wv h).1;grind
 |false=>
  rw[hl] at h;have G:0<p.Rects.length:=by
   grind
  have S:=rv (u _ (eF (j:=0) G));obtain⟨O,L,J,I⟩:=aTh p.Rects ((p.Rects.getD 0 default).X,(p.Rects.getD 0 default).Y) S.1 S.2.1 S.2.2.1 S.2.2.2 fun r f=>rv (u r f)
  change -1048576<=(nZ p.Rects).1 at O;change (nZ p.Rects).1<=1048576 at L;change -1048576<=(nZ p.Rects).2 at J;change (nZ p.Rects).2<=1048576 at I;generalize (nZ p.Rects).1=a at h O L;generalize (nZ p.Rects).2=b at h J I;obtain⟨f1,f2,f3,f4,f5,f6,f7,f8⟩:=wv h;rw[KJ] at f1;rw[KJ,KJ,KJ] at f2;rw[<- List.map_append] at f4 f7 f8;have Z:∀r∈p.Rects,oW a b r=mvD a b r/\smR r:=fun r f=>aIN ⟨O,L⟩ ⟨J,I⟩ (f3 _ (JK.2 ⟨r,f,rfl⟩))
  have mH:∀r∈p.Cuts++p.Forms,oW a b r=mvD a b r/\smR r:=fun r f=>aIN ⟨O,L⟩ ⟨J,I⟩ (f4 _ (JK.2 ⟨r,f,rfl⟩))
  have eR:p.Rects.map (oW a b)=p.Rects.map (mvD a b):=List.map_congr_left fun r f=>(Z r f).1
  refine⟨f1,f2,fun r f=>(Z r f).2,?_,fun r f=>?_,fun r f=>(mH r f).2,fun c hc=>?_,?_⟩
  ·grind [List.Pairwise.imp_of_mem,mV,mvD]
  ·rw[eR] at f6;obtain⟨k,hk,rfl⟩:=List.mem_iff_getElem.1 f;rw[<- nF _ hk];grind [aL8,aZF,tI]
  ·obtain⟨r',V,hs⟩:=f7 _ (JK.2 ⟨c,hc,rfl⟩);obtain⟨r,f,rfl⟩:=JK.1 V;refine⟨r,f,?_⟩;grind [rW,mvD]
  ·rw[List.pairwise_map] at f8;grind [List.Pairwise.imp_of_mem,mO,mvD]
structure wW (w h:Int) (cl:List aA) (ps:List Pce):Prop where
 sheet:(1<=w/\w<=1048576)/\1<=h/\h<=1048576
 few:ps.length<=8
 pc:∀p∈ps,nu p.Rects p.Cuts p.Forms
 ins:∀p∈ps,∀r∈p.Rects,0<=r.X/\0<=r.Y/\r.X+r.W<=w/\r.Y+r.H<=h
 clear:∀p∈ps,∀r∈p.Rects,∀c∈cl,mV r c
 over:∀i j,i<ps.length->j<i->∀r∈(ps.getD i default).Rects,∀s∈(ps.getD j default).Rects,mV r s
theorem tn {nm mt:ByteArray} {g gr w h:Int} {cl us:List aA} (f:jX nm mt g gr w h cl us=0):((1<=w/\w<=1048576)/\1<=h/\h<=1048576)/\∀c∈cl,iV c=true:=by
 unfold jX at f;obtain⟨_,f⟩:=nS f KI;obtain⟨q,f⟩:=nS f KI;obtain⟨_,f⟩:=nS f KI;obtain⟨v,_⟩:=nS f KI;simp only[JG,Bool.not_eq_false'] at q v;obtain⟨⟨_,u⟩,j⟩:=q;unfold rZ at u j;simp only[QW,JN] at u j;exact⟨KI,fun c G=>QT.1 v.1 c G⟩
theorem zi {r:aA} {l:List aA} (f:iV r=true) (h:mtP r l=false):∀c∈l,iV c=true->mV r c:=fun c j hv=>by
 unfold mtP at h;rw[aT5] at h;have:=JR.1 h c j;exact xm f hv (show Mg r.X r.Y r.W r.H c=false from JM.2 this)
theorem Gi {nm mt:ByteArray} {g gr w h:Int} {cl us:List aA} {ps:List Pce} (u:jK nm mt g gr w h cl us ps=0):wW w h cl ps:=by
 unfold jK Xh at u;obtain⟨h0,h1⟩:=lk u;obtain⟨h2,h3⟩:=nS h1 KI;obtain⟨Z,V⟩:=lk h3;obtain⟨h6,h7⟩:=nS V KI;obtain⟨h8,_⟩:=nS h7 KI;simp only[JS] at h2;obtain⟨s1,s2⟩:=tn h0;have hp:∀p∈ps,nu p.Rects p.Cuts p.Forms/\∀r∈p.Rects,iV r=true:=fun p hp=>aQR (aHD Z p hp)
 have hb:∀p∈ps,∀r∈p.Rects,uQ w h cl us r=false:=fun p hm r f=>by
  have:=JR.1 h6 p hm;have:=JR.1 (JM.2 this) r f;exact JM.2 this
 refine⟨s1,KI,fun p hm=>(hp p hm).1,fun p hm r f=>?_,fun p hm r f c I=>?_,fun i j hi S r f s G=>?_⟩
 ·have q:=hb p hm r f;unfold uQ at q;simp only[JG,Bool.not_eq_false'] at q;have k:=q.1.1;have v:=(tI ((hp p hm).2 r f));unfold smR at v;unfold tR at k;simp only[QW,JN] at k;rw[cN (n:=r.X+r.W) KI KI,cN (n:=r.Y+r.H) KI KI,cN (n:=0+w) KI KI,cN (n:=0+h) KI KI] at k;omega
 ·have q:=hb p hm r f;unfold uQ at q;simp only[JG,Bool.not_eq_false'] at q;exact zi ((hp p hm).2 r f) q.1.2 c I (s2 c I)
 ·have O:=JR.1 h8 i (JH.2 hi);have L:=JR.1 (JM.2 O) j (JH.2 S);have J:=JR.1 (JM.2 L) r f;exact zi ((hp _ (eF hi)).2 r f) (JM.2 J) s G ((hp _ (eF (show j<ps.length by omega))).2 s G)
def okP (p:Pce):Prop:=okL 20 p.Rects/\okL 20 p.Cuts/\p.Forms.length<=20/\p.Rects.Pairwise apart
theorem aLU {nm mt:ByteArray} {g gr w h:Int} {cl us:List aA} {ps:List Pce} (G:(jK nm mt g gr w h cl us ps !=0)=false):ps.length<=8/\∀p∈ps,okP p:=by
 have H:=Gi (show jK nm mt g gr w h cl us ps=0 by simpa using G);have S:=H.sheet;refine⟨H.few,fun p hp=>?_⟩;have P:=H.pc p hp;have hR:∀r∈p.Rects,rOK r:=fun r f=>by
  have j:=P.sm r f;have u:=H.ins p hp r f;unfold smR at j;unfold rOK;omega
 obtain⟨O,L,J⟩:=P.len;refine⟨⟨KI,hR⟩,⟨KI,fun r f=>?_⟩,KI,P.ap⟩;have hm:r∈p.Cuts++p.Forms:=QO.2 (.inl f);have j:=P.smH r hm;obtain⟨s,u,I⟩:=P.str r hm;have V:=H.ins p hp s u;unfold smR at j;unfold rW at I;unfold rOK;omega
theorem aMT {r:aA} (h:Ud r):rOK r:=by
 unfold Ud at h;unfold rOK;omega
theorem aMa {nm mt:ByteArray} {g gr w h:Int} {cl us:List aA} {ls:List Seg} (G:((kG nm mt g gr w h cl us ls).2 !=0)=false):
  (kG nm mt g gr w h cl us ls).1.length<=10000/\∀c∈(kG nm mt g gr w h cl us ls).1,okL 10000 c:=by
 obtain⟨J,I⟩:=aM9 nm mt g gr w h cl us ls;obtain⟨e,f,hok,_⟩:=tu (by simpa using G);refine⟨J,fun c j=>⟨I c j,fun r u=>aMT ?_⟩⟩;rw[e] at j;exact aQV ⟨f.1,f.2.1⟩ ⟨f.2.2.1,f.2.2.2⟩ hok r (List.mem_flatten.2 ⟨c,j,u⟩)
theorem aRh {r:aA} (h:rOK r):okL 20 [r]:=⟨XQ,fun s f=>by rw[JJ.1 f];exact h⟩
theorem aRi:okL 20 []:=⟨XQ,fun s f=>by cases f⟩
def qN (ps:List Pce) (i:Nat):List aA:=(ps.take i).flatMap Pce.Forms
theorem aW8 {ps:List Pce} {i:Nat} (h:i<ps.length):qN ps (i+1)=qN ps i++(ps.getD i default).Forms:=by
 unfold qN;rw[M1 ps i h,List.flatMap_append];simp
theorem aGt {ps:List Pce} (h:∀p∈ps,okP p) (I:ps.length<=8) (i:Nat):(qN ps i).length<=160:=by
 have f:∀l:List Pce,(∀p∈l,okP p)->(l.flatMap Pce.Forms).length<=l.length*20:=fun l=>by
  induction l with
  |nil=>intro _;simp
  |cons p l j=>
   intro h;have J:=(h p (QI ..)).2.2.1;have G:=j fun q u=>h q (QA _ u)
   rw[List.flatMap_cons,QM,QN];omega
 have:=f (ps.take i) fun p hp=>h p (List.mem_of_mem_take hp)
 have G:(ps.take i).length<=8:=by simp;omega
 unfold qN;omega
def ln (v:Int) (run:List Seg×List aA×Int) (f:List (List aA)×Int) (sep:List aA->List aA->Bool) (ps:List Pce):Bool×Int:=
 cond (v !=0) (false,v) (cond (run.2.2 !=0) (false,0) (cond (f.2 !=0) (false,0)
  (cond (ps.any fun p=>(!(sep p.Rects p.Cuts))||p.Cuts.any fun r=>!(sep [r] [])) (false,0) (eqB (qN ps ps.length) run.2.1,0))))
theorem aM8 (l:List (List aA)) (f j:List aA):nE l f j=l.any (Hp f j):=Oi (Hp f j) l 0 KI
def R6 (nm mt:ByteArray) (g gr w h:Int) (cl us:List aA) (ps:List Pce) (ops:List Opn):Prop:=cl.length<=2000000/\us.length<=2000000/\Kx ps
def xP (nm mt:ByteArray) (g gr w h:Int) (cl us:List aA) (ps:List Pce) (ops:List Opn):Bool×Int:=
 ln (jK nm mt g gr w h cl us ps) (iH nm mt g gr w h cl us ops) (kG nm mt g gr w h cl us (iH nm mt g gr w h cl us ops).1) (nE (kG nm mt g gr w h cl us (iH nm mt g gr w h cl us ops).1).1) ps
theorem aRV (y0 y1:ByteArray) (y2 y3 y4 y5:Int) (y6 y7:List aA) (y8:List Pce) (a1:List Opn) (h:R6 y0 y1 y2 y3 y4 y5 y6 y7 y8 a1):∃F,∀Q:Bool->Int->Prop,Q ((xP y0 y1 y2 y3 y4 y5 y6 y7 y8 a1).1) ((xP y0 y1 y2 y3 y4 y5 y6 y7 y8 a1).2)->aKw F y0 y1 y2 y3 y4 y5 y6 y7 y8 a1 Q:=by
 obtain⟨F,hF⟩:∃F:Nat,100<F:=⟨101,KI⟩;refine⟨F,fun Q j=>?_⟩;unfold xP ln at j;refine⟨h,?_⟩;cases L:(jK y0 y1 y2 y3 y4 y5 y6 y7 y8 !=0)
 case true=>
  rw[L] at j;exact j
 rw[L] at j;simp only[QK] at j ⊢;obtain⟨hl,hok⟩:=aLU L;refine⟨trivial,?_⟩;generalize iH y0 y1 y2 y3 y4 y5 y6 y7 a1=run at j ⊢;cases q2:(run.2.2 !=0)
 case true=>
  rw[q2] at j;exact j
 rw[q2] at j;simp only[QK] at j ⊢;refine⟨trivial,?_⟩;cases J:((kG y0 y1 y2 y3 y4 y5 y6 y7 run.1).2 !=0)
 case true=>
  rw[J] at j;exact j
 rw[J] at j;simp only[QK] at j ⊢;obtain⟨Z,u⟩:=aMa J;generalize (kG y0 y1 y2 y3 y4 y5 y6 y7 run.1).1=f at j Z u ⊢;unfold V8;refine uB y8 (fun p=>(!(nE f p.Rects p.Cuts))||p.Cuts.any fun r=>!(nE f [r] [])) (Q false 0) (Q (eqB (qN y8 y8.length) run.2.1) 0) (fun n i=>p7 F _ _ n false 0 y8 y8.length i f run.1 run.2.1 (qN y8 i.toNat)) (fun n i hi I hw=>?_) (fun n O=>?_) F KI (fun q=>?_) (fun q=>?_)
 ·show cond (decide ((i:Int)<(y8.length:Int))) _ _;rw[dD KI,QY];have fl:=aGt hok hl i;have hp:=hok _ (eF hi);have e:=aW8 hi;rw[QZ,e] at hw;refine⟨⟨KI,KI⟩,?_⟩;rw[QZ];generalize y8.getD i default=p at I hw hp ⊢;obtain⟨p1,G,p3,p4⟩:=hp;refine⟨KI,⟨KI,p1,G,u⟩,?_⟩;cases b1:!(nE f p.Rects p.Cuts)
  case true=>exact I (by rw[b1];rfl)
  simp only[b1,Bool.false_or] at I hw;rw[QK];unfold V7;refine uB p.Cuts (fun r=>!(nE f [r] [])) (Q false 0) (p7 F _ _ n false 0 y8 y8.length ((i+1:Nat):Int) f run.1 run.2.1 (qN y8 i++p.Forms)) (fun m k=>Sd F _ _ m false 0 y8 y8.length i p.Cuts p.Cuts.length k f (qN y8 i++p.Forms) run.1 run.2.1) (fun m k hk S V=>?_) (fun m O=>?_) F (by have:=G.1;omega) I hw
  ·show cond (decide ((k:Int)<(p.Cuts.length:Int))) _ _;rw[dD KI,QY];refine⟨⟨KI,KI⟩,⟨KI,aRh (G.2 _ (eF KI)),aRi,u⟩,?_⟩;rw[QZ,dX hk (by have:=G.1;omega)];cases hb:!(nE f [p.Cuts.getD k default] []) with
   |true=>exact S hb
   |false=>exact V hb
  ·show cond (decide ((p.Cuts.length:Int)<(p.Cuts.length:Int))) _ _;rw[dB KI,QK];show p7 F _ _ n false 0 y8 y8.length (aB ((i:Int)+1)) f run.1 run.2.1 (qN y8 i++p.Forms);rw[dX hi KI];exact O
 ·show cond (decide ((y8.length:Int)<(y8.length:Int))) _ _;rw[dB KI,QK,QZ];exact⟨show (qN y8 y8.length).length<=2000000 from by have:=aGt hok hl y8.length;omega,O⟩
 ·rw[q] at j;exact j
 ·rw[q] at j;exact j
def yH (a0:Int) (a1:zzI) (f j:Int):Prop:=(cond (decide (2<=(a1.length:Int))) ((0<=(0:Int)/\(0:Int)<a1.length)/\(0<=(1:Int)/\(1:Int)<a1.length)/\(cond ((a0==3)&&(decide (4<=(a1.length:Int)))) ((0<=(2:Int)/\(2:Int)<a1.length)/\(0<=(3:Int)/\(3:Int)<a1.length)) (True))) ((cond ((a0==3)&&(decide (4<=(a1.length:Int)))) ((0<=(2:Int)/\(2:Int)<a1.length)/\(0<=(3:Int)/\(3:Int)<a1.length)) (True))))
def gG (a0:Int) (a1:zzI) (f j:Int):Int×Int×Int×Int×Int×Int:=cond (decide (2<=(a1.length:Int))) (cond ((a0==3)&&(decide (4<=(a1.length:Int)))) ((a0,aB ((a1.getD 0 default)+f),aB ((a1.getD 1 default)+j),(a1.getD 2 default),(a1.getD 3 default),0)) ((a0,aB ((a1.getD 0 default)+f),aB ((a1.getD 1 default)+j),0,0,0))) (cond ((a0==3)&&(decide (4<=(a1.length:Int)))) ((a0,0,0,(a1.getD 2 default),(a1.getD 3 default),0)) ((a0,0,0,0,0,0)))
def Uy (a0:Int) (a1:zzI) (f j:Int):Prop:=(yH a0 a1 0 0)
def kY (a0:Int) (a1:zzI) (f j:Int):Int×Int×Int×Int×Int×Int:=((gG a0 a1 0 0).1,(gG a0 a1 0 0).2.1,(gG a0 a1 0 0).2.2.1,(gG a0 a1 0 0).2.2.2.1,(gG a0 a1 0 0).2.2.2.2.1,(gG a0 a1 0 0).2.2.2.2.2)
def Fx (a0 a1:ByteArray):Prop:=((decide ((a1.size:Int)<=(a0.size:Int)))=true->0<=(aB ((a0.size:Int)-(a1.size:Int)))/\(aB ((a0.size:Int)-(a1.size:Int)))<=a0.size)
def vB (a0 a1:ByteArray):Bool:=((decide ((a1.size:Int)<=(a0.size:Int)))&&((a0.extract ((aB ((a0.size:Int)-(a1.size:Int))).toNat) a0.size)==a1))
def Fw (a0 a1:ByteArray):Prop:=(Fx a0 a1)/\(cond (vB a0 a1) ((0<=(aB ((a0.size:Int)-(a1.size:Int)))/\(aB ((a0.size:Int)-(a1.size:Int)))<=a0.size)) (True))
def Ac (a0 a1:ByteArray):ByteArray:=cond (vB a0 a1) (a0.extract 0 ((aB ((a0.size:Int)-(a1.size:Int))).toNat)) (a0)
def Ar (a0 a1:ByteArray):Prop:=(Fw a0 a1)
def xS (a0 a1:ByteArray):ByteArray:=(Ac a0 a1)
def Ik:CnT:=cnL [(0,⟨[0,1,4,5],[],[],[],[]⟩)]
abbrev bCj:=List Opn->List Opn->Bool->Int->Prop
def fx (a0 a1:List Opn) (Q:Bool->Prop) (f:bCj):Prop:=cond ((a0.length:Int) !=(a1.length:Int)) (Q false) (f a0 a1 false 0)
def Gz (G L J:bCj):bCj:=fun j u I f=>cond (decide (f<(j.length:Int))) ((let e0:=(j.getD f.toNat default);((0<=f/\f<j.length)/\(let e1:=(u.getD f.toNat default);((0<=f/\f<u.length)/\cond (!((e0.Kind==e1.Kind)&&((e0.X==e1.X)&&((e0.Y==e1.Y)&&((e0.W==e1.W)&&((e0.H==e1.H)&&((e0.N==e1.N)&&true))))))) (L j u false f) (G j u I (aB (f+1)))))))) (J j u I f)
def aFP (Q:Bool->Prop):bCj:=fun G u f j=>Q f
def aFO (Q:Bool->Prop):bCj:=fun G u j f=>Q true
def Ru (F:Nat) (j f:bCj):Nat->bCj
 |0=>fun _ _ _ _=>False
 |n+1=>Gz (Ru F j f n) j f
def yq (F:Nat) (Q:Bool->Prop):bCj:=fun G u j f=>Ru F (aFP Q) (aFO Q) F G u j f
def pq (F:Nat) (a0 a1:List Opn) (Q:Bool->Prop):Prop:=fx a0 a1 Q (yq F Q)
def kP (s:ByteArray):Int×Bool:=match Lib.atoiAll s.data.toList with
 | .ok v=>(v,true)
 | .range=>(Lib.atoiSat s.data.toList,false)
 |_=>(0,false)
def fH (s sep:ByteArray):List ByteArray:=Lib.splitB sep 0 (Lib.countB s sep) s
def R1 (a b:List Opn):Prop:=a.length<=2000000
def Ko (a b:List Opn):Bool:=eqB a b
theorem aXP (r s:Opn):((r.Kind==s.Kind)&&((r.X==s.X)&&((r.Y==s.Y)&&((r.W==s.W)&&((r.H==s.H)&&((r.N==s.N)&&true))))))=eqB r s:=by
 rw[Bool.eq_iff_iff,Hi];obtain⟨k,a,b,c,d,e⟩:=r;obtain⟨f,a',I,G,u,j⟩:=s;grind
theorem aRK (a0 a1:List Opn) (h:R1 a0 a1):∃F,∀Q:Bool->Prop,Q (Ko a0 a1)->pq F a0 a1 Q:=by
 have G:a0.length<=2000000:=h;refine⟨a0.length+1,fun Q u=>?_⟩;unfold pq fx;unfold Ko at u
 by_cases f:a0.length=a1.length
 ·rw[show ((a0.length:Int) !=(a1.length:Int))=false by grind,QK];refine aHM a0 a1 f KI (fun n i=>Ru (a0.length+1) (aFP Q) (aFO Q) n a0 a1 false i) (fun j=>Q false) (fun j=>Q true) (fun n i hi=>?_) (fun n=>?_) (fun q j=>by grind) (fun q=>by grind) (a0.length+1) 0 KI KI rfl
  ·show Gz _ _ _ _ _ _ _↔_;unfold Gz;rw[dD (show (i:Int)<(a0.length:Int) by omega),QY];simp only[QZ,aXP];rw[dX hi KI];exact⟨fun z=>z.2.2,fun z=>⟨⟨KI,KI⟩,⟨KI,KI⟩,z⟩⟩
  ·show Gz _ _ _ _ _ _ _↔_;unfold Gz;rw[dB KI,QK];rfl
 grind [aHO]
def mY:CnT:=cnL [(0,⟨[3,5,6,7,8,18,19,20],[3,5,6],[(.tmp 8,65,.int)],[],[]⟩)]
def Xa:Canon UU:=⟨[3,5,6,7,8],[3,5,6],[(.tmp 8,65,.int)],[],[]⟩
def yC (f:List ByteArray) (j G I J L O S V:Int) (Z:zzI):ASt UU:=⟨fun u=>cond (Nat.beq u 3) (.ptr 3 0) (cond (Nat.beq u 5) (.ptr 5 0) (cond (Nat.beq u 6) (.ptr 6 0) (cond (Nat.beq u 7) (.sl .str f) (cond (Nat.beq u 8) (.osl 65 0) (.any))))),fun u=>cond (Nat.beq u 65) (some (.row .int 0 Z)) (cond (Nat.beq u 3) (some (.cells [.frz .W1,.fn 65 [],.fn 67 []])) (cond (Nat.beq u 5) (some (.cells [.i j,.i G])) (cond (Nat.beq u 6) (some (.cells [.i I,.i J,.i L,.i O,.i S,.i V])) (none))))⟩
def nC (I G:List ByteArray) (j f J L O S V Z aM aL:Int) (aK:zzI):ASt UU:=⟨fun u=>cond (Nat.beq u 3) (.ptr 3 0) (cond (Nat.beq u 5) (.ptr 5 0) (cond (Nat.beq u 6) (.ptr 6 0) (cond (Nat.beq u 7) (.sl .str I) (cond (Nat.beq u 8) (.osl 65 0) (cond (Nat.beq u 18) (.sl .str G) (cond (Nat.beq u 19) (.i j) (cond (Nat.beq u 20) (.i f) (.any)))))))),fun u=>cond (Nat.beq u 65) (some (.row .int 0 aK)) (cond (Nat.beq u 3) (some (.cells [.frz .W1,.fn 65 [],.fn 67 []])) (cond (Nat.beq u 5) (some (.cells [.i J,.i L])) (cond (Nat.beq u 6) (some (.cells [.i O,.i S,.i V,.i Z,.i aM,.i aL])) (none))))⟩
abbrev bCL:=Int->Int->Int->Int->Int->Int->Prop
abbrev bCI:=List ByteArray->Int->Int->Int->Int->Int->Int->Int->Int->zzI->Prop
abbrev bCE:=List ByteArray->List ByteArray->Int->Int->Int->Int->Int->Int->Int->Int->Int->Int->zzI->Prop
def il (s:ByteArray) (x y:Int) (Q:bCL) (Qc:bCI) (j:bCE):Prop:=((s.size<=200000/\1<=(ByteArray.mk #[32]).size)/\(let f:=(((fH s (ByteArray.mk #[32])).drop 1).length:Int);((0<=(1:Int)/\(1:Int)<=(fH s (ByteArray.mk #[32])).length)/\j (fH s (ByteArray.mk #[32])) ((fH s (ByteArray.mk #[32])).drop 1) f 0 x y 0 0 0 0 0 0 ([]))))
def Za (O x0 x1:bCE):bCE:=fun I j u f J L S V Z aN aM aL G=>cond (decide (f<u)) ((let e0:=(j.getD f.toNat default);((0<=f/\f<j.length)/\((e0.size<=200000)/\cond (((!((kP e0).2))||(decide (((kP e0).1)<(-4194304))))||(decide (4194304<((kP e0).1)))) (x0 I j u f J L 0 0 0 0 0 0 G) ((((G.length+([(kP e0).1]).length)*8<=140737488355328)/\O I j u (aB (f+1)) J L S V Z aN aM aL (G++([(kP e0).1])))))))) (x1 I j u f J L S V Z aN aM aL G)
def iq (Q:bCL) (Qc:bCI):bCE:=fun V S O L Z aR f j u G I J aK=>Q f j u G I J
def im (Q:bCL) (Qc:bCI):bCE:=fun f t18 t19 Z j u G I J L O S V=>Qc f j u G I J L O S V
def s6 (F:Nat) (j f:bCE):Nat->bCE
 |0=>fun _ _ _ _ _ _ _ _ _ _ _ _ _=>False
 |n+1=>Za (s6 F j f n) j f
def Y3 (F:Nat) (Q:bCL) (Qc:bCI):bCE:=fun G u j f I J L O S V Z aL aK=>s6 F (iq Q Qc) (im Q Qc) F G u j f I J L O S V Z aL aK
def Sr (F:Nat) (s:ByteArray) (x y:Int) (Q:bCL) (Qc:bCI):Prop:=il s x y Q Qc (Y3 F Q Qc)
def mX:CnT:=cnL [(0,⟨[3,5,6,7,8,18,19,20],[3,5,6],[(.tmp 8,65,.int)],[],[]⟩)]
def Wz:Canon UU:=⟨[3,5,6,7,8],[3,5,6],[(.tmp 8,65,.int)],[],[]⟩
def yB (f:List ByteArray) (j G I J L O S V:Int) (Z:zzI):ASt UU:=⟨fun u=>cond (Nat.beq u 3) (.ptr 3 0) (cond (Nat.beq u 5) (.ptr 5 0) (cond (Nat.beq u 6) (.ptr 6 0) (cond (Nat.beq u 7) (.sl .str f) (cond (Nat.beq u 8) (.osl 65 0) (.any))))),fun u=>cond (Nat.beq u 65) (some (.row .int 0 Z)) (cond (Nat.beq u 3) (some (.cells [.frz .W2,.fn 66 [],.fn 68 []])) (cond (Nat.beq u 5) (some (.cells [.i j,.i G])) (cond (Nat.beq u 6) (some (.cells [.i I,.i J,.i L,.i O,.i S,.i V])) (none))))⟩
def nB (I G:List ByteArray) (j f J L O S V Z aM aL:Int) (aK:zzI):ASt UU:=⟨fun u=>cond (Nat.beq u 3) (.ptr 3 0) (cond (Nat.beq u 5) (.ptr 5 0) (cond (Nat.beq u 6) (.ptr 6 0) (cond (Nat.beq u 7) (.sl .str I) (cond (Nat.beq u 8) (.osl 65 0) (cond (Nat.beq u 18) (.sl .str G) (cond (Nat.beq u 19) (.i j) (cond (Nat.beq u 20) (.i f) (.any)))))))),fun u=>cond (Nat.beq u 65) (some (.row .int 0 aK)) (cond (Nat.beq u 3) (some (.cells [.frz .W2,.fn 66 [],.fn 68 []])) (cond (Nat.beq u 5) (some (.cells [.i J,.i L])) (cond (Nat.beq u 6) (some (.cells [.i O,.i S,.i V,.i Z,.i aM,.i aL])) (none))))⟩
def aG1 (s:ByteArray) (x y:Int) (Q:bCL) (Qc:bCI) (j:bCE):Prop:=((s.size<=200000/\1<=(ByteArray.mk #[32]).size)/\(let f:=(((fH s (ByteArray.mk #[32])).drop 1).length:Int);((0<=(1:Int)/\(1:Int)<=(fH s (ByteArray.mk #[32])).length)/\j (fH s (ByteArray.mk #[32])) ((fH s (ByteArray.mk #[32])).drop 1) f 0 x y 0 0 0 0 0 0 ([]))))
def aG0 (O x0 x1:bCE):bCE:=fun I j u f J L S V Z aN aM aL G=>cond (decide (f<u)) ((let e0:=(j.getD f.toNat default);((0<=f/\f<j.length)/\((e0.size<=200000)/\cond (((!((kP e0).2))||(decide (((kP e0).1)<(-4194304))))||(decide (4194304<((kP e0).1)))) (x0 I j u f J L 0 0 0 0 0 0 G) ((((G.length+([(kP e0).1]).length)*8<=140737488355328)/\O I j u (aB (f+1)) J L S V Z aN aM aL (G++([(kP e0).1])))))))) (x1 I j u f J L S V Z aN aM aL G)
def ik (Q:bCL) (Qc:bCI):bCE:=fun V S O L Z aR f j u G I J aK=>Q f j u G I J
def ij (Q:bCL) (Qc:bCI):bCE:=fun f t18 t19 Z j u G I J L O S V=>Qc f j u G I J L O S V
def Sq (F:Nat) (j f:bCE):Nat->bCE
 |0=>fun _ _ _ _ _ _ _ _ _ _ _ _ _=>False
 |n+1=>aG0 (Sq F j f n) j f
def Y0 (F:Nat) (Q:bCL) (Qc:bCI):bCE:=fun G u j f I J L O S V Z aL aK=>Sq F (ik Q Qc) (ij Q Qc) F G u j f I J L O S V Z aL aK
def rb (F:Nat) (s:ByteArray) (x y:Int) (Q:bCL) (Qc:bCI):Prop:=aG1 s x y Q Qc (Y0 F Q Qc)
def oa:CnT:=cnL []
def Z0:Canon UU:=⟨[3,5,6,7,8,46,47],[3,5,6],[(.tmp 8,65,.int)],[],[]⟩
def ue (G:List ByteArray) (j f:Value) (I J L O S V Z aL:Int) (aK:zzI):ASt UU:=⟨fun u=>cond (Nat.beq u 3) (.ptr 3 0) (cond (Nat.beq u 5) (.ptr 5 0) (cond (Nat.beq u 6) (.ptr 6 0) (cond (Nat.beq u 7) (.sl .str G) (cond (Nat.beq u 8) (.osl 65 0) (cond (Nat.beq u 46) (.raw j) (cond (Nat.beq u 47) (.raw f) (.any))))))),fun u=>cond (Nat.beq u 65) (some (.row .int 0 aK)) (cond (Nat.beq u 3) (some (.cells [.frz .W1,.fn 65 [],.fn 67 []])) (cond (Nat.beq u 5) (some (.cells [.i I,.i J])) (cond (Nat.beq u 6) (some (.cells [.i L,.i O,.i S,.i V,.i Z,.i aL])) (none))))⟩
abbrev bC3:=List ByteArray->Value->Value->Int->Int->Int->Int->Int->Int->Int->Int->zzI->Prop
def iu (ws:List ByteArray) (x y:Int) (l:zzI) (k:Int) (v:ByteArray) (va vb:Value) (Q:bCL) (Qc:bC3):Prop:=(let e0:=(ws.getD 0 default);((0<=(0:Int)/\(0:Int)<ws.length)/\cond (v==e0) ((let f:=(kY k l x y);((Uy k l x y)/\Q f.1 f.2.1 f.2.2.1 f.2.2.2.1 f.2.2.2.2.1 f.2.2.2.2.2))) (Qc ws va vb x y 0 0 0 0 0 0 l)))
def rf (F:Nat) (ws:List ByteArray) (x y:Int) (l:zzI) (k:Int) (v:ByteArray) (va vb:Value) (Q:bCL) (Qc:bC3):Prop:=iu ws x y l k v va vb Q Qc
def nz:CnT:=cnL []
def Y9:Canon UU:=⟨[3,5,6,7,8,46,47],[3,5,6],[(.tmp 8,65,.int)],[],[]⟩
def ud (G:List ByteArray) (j f:Value) (I J L O S V Z aL:Int) (aK:zzI):ASt UU:=⟨fun u=>cond (Nat.beq u 3) (.ptr 3 0) (cond (Nat.beq u 5) (.ptr 5 0) (cond (Nat.beq u 6) (.ptr 6 0) (cond (Nat.beq u 7) (.sl .str G) (cond (Nat.beq u 8) (.osl 65 0) (cond (Nat.beq u 46) (.raw j) (cond (Nat.beq u 47) (.raw f) (.any))))))),fun u=>cond (Nat.beq u 65) (some (.row .int 0 aK)) (cond (Nat.beq u 3) (some (.cells [.frz .W2,.fn 66 [],.fn 68 []])) (cond (Nat.beq u 5) (some (.cells [.i I,.i J])) (cond (Nat.beq u 6) (some (.cells [.i L,.i O,.i S,.i V,.i Z,.i aL])) (none))))⟩
def ir (ws:List ByteArray) (x y:Int) (l:zzI) (k:Int) (v:ByteArray) (va vb:Value) (Q:bCL) (Qc:bC3):Prop:=(let e0:=(ws.getD 0 default);((0<=(0:Int)/\(0:Int)<ws.length)/\cond (v==e0) ((let f:=(gG k l x y);((yH k l x y)/\Q f.1 f.2.1 f.2.2.1 f.2.2.2.1 f.2.2.2.2.1 f.2.2.2.2.2))) (Qc ws va vb x y 0 0 0 0 0 0 l)))
def re (F:Nat) (ws:List ByteArray) (x y:Int) (l:zzI) (k:Int) (v:ByteArray) (va vb:Value) (Q:bCL) (Qc:bC3):Prop:=ir ws x y l k v va vb Q Qc
def nw:CnT:=cnL []
def aG3 (ws:List ByteArray) (x y:Int) (l:zzI) (va vb:Value) (Q:bCL):Prop:=Q 0 0 0 0 0 0
def aLG (F:Nat) (ws:List ByteArray) (x y:Int) (l:zzI) (va vb:Value) (Q:bCL):Prop:=aG3 ws x y l va vb Q
def nv:CnT:=cnL []
def aG2 (ws:List ByteArray) (x y:Int) (l:zzI) (va vb:Value) (Q:bCL):Prop:=Q 0 0 0 0 0 0
def aLF (F:Nat) (ws:List ByteArray) (x y:Int) (l:zzI) (va vb:Value) (Q:bCL):Prop:=aG2 ws x y l va vb Q
end
end Go.Proofs.YtgcpildegdgekaaGreatDoor
namespace Go.Proofs.YtgcpildegdgekaaGreatDoor
open Go.Proofs.Tryz
open Go.Lib Go.RowKit Go.Vm
noncomputable section
theorem rK {w0 w:World} {N:Nat->Prop} {τ:Knd} {xs:List (UU.T τ)} {v:Value} {cs:List Value} (hb:Below w0.heap.size w0 w)
  (ho:w.ownsRow w0.heap.size (UU.ety τ) (UU.size τ) v xs.length cs) (hp:∀a,v≠ .pointer a)
  (S:∀i (h:i<xs.length) k (O:k<(EE.enc τ xs[i]).length),Rel EE w0 cO (fF N w0) (EE.enc τ xs[i])[k] (cs.getD (i*UU.size τ+k) undef)):jT EE w0.heap.size N w (.new τ xs) v:=by
 have L:∀b,blk v=some b->w0.heap.size<=b/\b<w.heap.size:=(sE ho hp).2;refine⟨fun k=>if k=.ob 0 then some (0,v) else none,.osl 0 0 _ XQ hp,fun k x O=>?_,fun k g u O=>?_,fun i j g g' u Z b hi hj V=>?_⟩
 ·cases k with
  |zero=>
   have:(⟨false,τ,xs⟩:eA UU)=x:=by grind [aC.news,gU,iP]
   subst this;refine⟨_,_,XQ,hp,ho,fun i hi k I=>?_⟩;refine((S i hi k I).flat (ρ':=fun k=>if k=.ob 0 then some (0,v) else none) (EE.enc_flat _ _ _ (QH I)).1).mono (fun b f=>⟨⟨?_,f.2,fun nm g u G=>?_⟩,hb.block b f.1⟩) (fun nm g u h=>.inl h)
   ·have:=hb.size;have:=f.1;omega
   ·by_cases J:nm=.ob 0
    ·subst J;simp only[if_true,QJ,QX] at G;obtain⟨_,rfl⟩:=G;intro e;have:=(L b e).1;have:=f.1;omega
    grind
  |succ k=>grind [aC.news,gU,iP]
 ·simp_all[aC.news,gU,iP,Name.id]
 grind
set_option maxHeartbeats 2000000 in
theorem aHu (L:Addr) (n c:Nat) (f:Nat->Value) (w:World) (hbig:n*32<=140737488355328) (V:∀j,j<n*4->w.cell? (L.add j)=some (f j)) (Z:∀j,j<n*4->(f j).oneCell'=true):
  Calls prog 62 #[.slice (some L) n c] w fun e w'=>∃I,e=.returned I/\w'.ownsRow w.heap.size 73 4 I n ((List.range (n*4)).map f)/\(∀a,I≠ .pointer a)/\Below w.heap.size w w':=by
 have Ap:∀(w:World) (a:Option Addr) (n c n' O:Nat),(binOp .eql 35 (.slice a n c) (.slice none n' O)).run prog w=.ok (.bool a.isNone) w:=fun w a n c n' O=>Lib.run_eql_slice_nil w _ _ a n c n' O underlying35
 obtain⟨i0,hi,qM,pK,qL⟩:=info_parts (P:=prog) (e:=73) (z:=.agg #[.int .i64 0,.int .i64 0,.int .i64 0,.int .i64 0]) (size:=4) (bytes:=32) KA;have A:Aside ((∀j,j<n*4->w.cell? (L.add j)=some (f j))/\∀j,j<n*4->(f j).oneCell'=true):=⟨V,Z⟩;clear V Z
 go_enter func62,ntmps62
 go_wp2_with (at_builtin;refine wpList_append_own _ rfl _ _ 35 rfl w.heap.size 73 i0 (.agg #[.int .i64 0,.int .i64 0,.int .i64 0,.int .i64 0]) 4 32 underlying35 hi qM pK qL rfl (by decide) _ _ _ rfl (World.ownsRow_made w #[] 0 (QP _) (Nat.zero_le _) rfl) L n c ((List.range (n*4)).map f) rfl ?An ?Am ?Al ?Ak ?Aj ?Ai ?_)
 case An=>simp
 case Am=>
  intro j u hj;have S:j<n*4:=by
   grind
  refine Lib.cell?_alloc_some _ ?_;rw[A.out.1 j S];grind
 case Al=>
  intro u hu;obtain⟨x,hx,rfl⟩:=JK.1 hu;exact A.out.2 x (JH.1 hx)
 case Ak=>unfold maxLen;omega
 case Aj=>omega
 case Ai=>simp
 intro I w1 J G hnil
 go_wp2
 go_ret
 refine⟨I,rfl,KI,?_,?_⟩
 ·intro a e;subst e;rcases J.2 with ⟨h,_⟩|⟨_,_,_,h,_⟩<;>cases h
 ·exact((Below.refl _ w).alloc (QP _) _).grown G XQ (by grind [Value.ownBlock])
set_option maxHeartbeats 2000000 in
theorem aZP (w:World):
  Calls prog 62 #[.slice none 0 0] w fun e w'=>e=.returned (.slice none 0 0)/\w'=w:=by
 have j:∀(w:World) (a:Option Addr) (n c n' f:Nat),(binOp .eql 35 (.slice a n c) (.slice none n' f)).run prog w=.ok (.bool a.isNone) w:=fun w a n c n' f=>Lib.run_eql_slice_nil w _ _ a n c n' f underlying35
 go_enter func62,ntmps62
 go_wp2
 go_ret
 simp_all
def ag:Model UU
 |[.sl .seg xs]=>some ([xs.length<=2000000],.new .seg xs)
 |_=>none
theorem aO6 {C:Cfg UU} (hE:C.E=EE) (hs:aE C) (hP:C.P=prog):aE (C.add 62 ag):=by
 refine hs.put ⟨fun O w=>by simp_all,?_⟩;intro N w O xs cs r hinv hN J hm hc;unfold ag at hm;split at hm
 ·rename_i l;cases hm;have hc':l.length<=2000000:=hc;obtain⟨a,rfl,ha⟩:=Cm J;rw[hP];rw[hE] at ha ⊢;cases ha with
  |lO=>
   refine(aZP w).mono ?_
   rintro e w' ⟨rfl,rfl⟩
   refine⟨_,rfl,rK (cs:=[]) (Below.refl _ _) (JV _ _ _ _) (by grind) (fun i h=>absurd h XQ),Below.refl _ _⟩
  |sle _ ad=>
   refine(aHu ad 0 0 (fun _=>undef) w KI (fun j I=>absurd I KI) (fun j I=>absurd I KI)).mono ?_
   rintro e w' ⟨v',rfl,Z,V,L⟩
   exact⟨_,rfl,rK L Z V (fun i h=>absurd h XQ),L⟩
  |sl _ _ b o cap f hb hcap hc hl=>
   have lB:∀j,j<l.length*4->∃i k,∃(hi:i<l.length) (S:k<(EE.enc .seg l[i]).length),j=i*UU.size .seg+k:=fun j I=>by
    have hi:j / 4<l.length:=KI;refine⟨j / 4,j % 4,hi,by rw[EE.enc_len];grind,?_⟩;grind
   refine(aHu ⟨b,o,none⟩ l.length cap f w KI (fun j I=>by grind [Addr.wT]) (fun j I=>?_)).mono ?_
   ·obtain⟨i,k,hi,S,rfl⟩:=lB j I;have G:=EE.enc_flat _ _ _ (QH S);exact(hl i hi k S).sF G.2 (fun nm g u h=>by cases h) (fun id g h=>by rw[h] at G;cases G.1) (fun id g i off sz h=>by rw[h] at G;cases G.1) (fun id i g h=>by rw[h] at G;cases G.1) (fun id i g j off sz h=>by rw[h] at G;cases G.1)
   ·rintro e w' ⟨v',rfl,Z,V,L⟩
    refine⟨_,rfl,rK L Z V (fun i hi k S=>?_),L⟩;have hk':k<4:=by
     assumption
    grind
 grind
set_option maxHeartbeats 2000000 in
theorem aHv (L:Addr) (n c:Nat) (f:Nat->Value) (w:World) (hbig:n*32<=140737488355328) (V:∀j,j<n*4->w.cell? (L.add j)=some (f j)) (Z:∀j,j<n*4->(f j).oneCell'=true):
  Calls prog 25 #[.slice (some L) n c] w fun e w'=>∃I,e=.returned I/\w'.ownsRow w.heap.size 63 4 I n ((List.range (n*4)).map f)/\(∀a,I≠ .pointer a)/\Below w.heap.size w w':=by
 have Ap:∀(w:World) (a:Option Addr) (n c n' O:Nat),(binOp .eql 22 (.slice a n c) (.slice none n' O)).run prog w=.ok (.bool a.isNone) w:=fun w a n c n' O=>Lib.run_eql_slice_nil w _ _ a n c n' O underlying22
 obtain⟨i0,hi,qM,pK,qL⟩:=info_parts (P:=prog) (e:=63) (z:=.agg #[.int .i64 0,.int .i64 0,.int .i64 0,.int .i64 0]) (size:=4) (bytes:=32) KA;have A:Aside ((∀j,j<n*4->w.cell? (L.add j)=some (f j))/\∀j,j<n*4->(f j).oneCell'=true):=⟨V,Z⟩;clear V Z
 go_enter func25,ntmps25
 go_wp2_with (at_builtin;refine wpList_append_own _ rfl _ _ 22 rfl w.heap.size 63 i0 (.agg #[.int .i64 0,.int .i64 0,.int .i64 0,.int .i64 0]) 4 32 underlying22 hi qM pK qL rfl (by decide) _ _ _ rfl (World.ownsRow_made w #[] 0 (QP _) (Nat.zero_le _) rfl) L n c ((List.range (n*4)).map f) rfl ?An ?Am ?Al ?Ak ?Aj ?Ai ?_)
 case An=>simp
 case Am=>
  intro j u hj;have S:j<n*4:=by
   grind
  refine Lib.cell?_alloc_some _ ?_;rw[A.out.1 j S];grind
 case Al=>
  intro u hu;obtain⟨x,hx,rfl⟩:=JK.1 hu;exact A.out.2 x (JH.1 hx)
 case Ak=>unfold maxLen;omega
 case Aj=>omega
 case Ai=>simp
 intro I w1 J G hnil
 go_wp2
 go_ret
 refine⟨I,rfl,KI,?_,?_⟩
 ·intro a e;subst e;rcases J.2 with ⟨h,_⟩|⟨_,_,_,h,_⟩<;>cases h
 ·exact((Below.refl _ w).alloc (QP _) _).grown G XQ (by grind [Value.ownBlock])
set_option maxHeartbeats 2000000 in
theorem aZQ (w:World):
  Calls prog 25 #[.slice none 0 0] w fun e w'=>e=.returned (.slice none 0 0)/\w'=w:=by
 have j:∀(w:World) (a:Option Addr) (n c n' f:Nat),(binOp .eql 22 (.slice a n c) (.slice none n' f)).run prog w=.ok (.bool a.isNone) w:=fun w a n c n' f=>Lib.run_eql_slice_nil w _ _ a n c n' f underlying22
 go_enter func25,ntmps25
 go_wp2
 go_ret
 simp_all
def ah:Model UU
 |[.sl .rect xs]=>some ([xs.length<=2000000],.new .rect xs)
 |_=>none
theorem aO7 {C:Cfg UU} (hE:C.E=EE) (hs:aE C) (hP:C.P=prog):aE (C.add 25 ah):=by
 refine hs.put ⟨fun O w=>by simp_all,?_⟩;intro N w O xs cs r hinv hN J hm hc;unfold ah at hm;split at hm
 ·rename_i l;cases hm;have hc':l.length<=2000000:=hc;obtain⟨a,rfl,ha⟩:=Cm J;rw[hP];rw[hE] at ha ⊢;cases ha with
  |lO=>
   refine(aZQ w).mono ?_
   rintro e w' ⟨rfl,rfl⟩
   refine⟨_,rfl,rK (cs:=[]) (Below.refl _ _) (JV _ _ _ _) (by grind) (fun i h=>absurd h XQ),Below.refl _ _⟩
  |sle _ ad=>
   refine(aHv ad 0 0 (fun _=>undef) w KI (fun j I=>absurd I KI) (fun j I=>absurd I KI)).mono ?_
   rintro e w' ⟨v',rfl,Z,V,L⟩
   exact⟨_,rfl,rK L Z V (fun i h=>absurd h XQ),L⟩
  |sl _ _ b o cap f hb hcap hc hl=>
   have lB:∀j,j<l.length*4->∃i k,∃(hi:i<l.length) (S:k<(EE.enc .rect l[i]).length),j=i*UU.size .rect+k:=fun j I=>by
    have hi:j / 4<l.length:=KI;refine⟨j / 4,j % 4,hi,by rw[EE.enc_len];grind,?_⟩;grind
   refine(aHv ⟨b,o,none⟩ l.length cap f w KI (fun j I=>by grind [Addr.wT]) (fun j I=>?_)).mono ?_
   ·obtain⟨i,k,hi,S,rfl⟩:=lB j I;have G:=EE.enc_flat _ _ _ (QH S);exact(hl i hi k S).sF G.2 (fun nm g u h=>by cases h) (fun id g h=>by rw[h] at G;cases G.1) (fun id g i off sz h=>by rw[h] at G;cases G.1) (fun id i g h=>by rw[h] at G;cases G.1) (fun id i g j off sz h=>by rw[h] at G;cases G.1)
   ·rintro e w' ⟨v',rfl,Z,V,L⟩
    refine⟨_,rfl,rK L Z V (fun i hi k S=>?_),L⟩;have hk':k<4:=by
     assumption
    grind
 grind
def aBE:Model UU
 |[.int .i64 a0,.int .i64 f]=>some ([],.bool (N0 a0 f))
 |_=>none
def aKI:Cfg UU:=aKA.add 103 aBE
theorem aNp:aE aKI:=tin aNe mixed func103 KA KA false fun xs f r h=>by
 unfold aBE at h;split at h
 ·cases h;exact⟨KA,KA⟩
 ·cases h
def aAs:Model UU
 |[.int .i64 a0,.int .i64 j,.int .i64 f]=>some ([],.bool (rZ a0 j f))
 |_=>none
def aJw:Cfg UU:=aKI.add 51 aAs
theorem aN9:aE aJw:=tin aNp mixed func51 KA KA false fun xs f r h=>by
 unfold aAs at h;split at h
 ·cases h;exact⟨KA,KA⟩
 ·cases h
def aAi:Model UU
 |[.agg [.str O,.str L,.int .i64 J,.int .i64 I,.int .i64 G,.int .i64 u,.sl .rect j,.sl .rect f],.int .i64 V,.int .i64 S]=>some ([],.bool (qA O L J I G u j f V S))
 |_=>none
def aJo:Cfg UU:=aJw.add 56 aAi
theorem aNY:aE aJo:=tin aN9 mixed func56 KA KA false fun xs f r h=>by
 unfold aAi at h;split at h
 ·cases h;exact⟨KA,KA⟩
 ·cases h
def aAh:Model UU
 |[.int .i64 a0,.int .i64 u,.int .i64 j,.int .i64 f]=>some ([],.agg [.i ((iN a0 u j f).1),.i ((iN a0 u j f).2.1),.i ((iN a0 u j f).2.2.1),.i ((iN a0 u j f).2.2.2)])
 |_=>none
def aJn:Cfg UU:=aJo.add 57 aAh
theorem aNX:aE aJn:=tin aNY mixed func57 KA KA false fun xs f r h=>by
 unfold aAh at h;split at h
 ·cases h;exact⟨KA,KA⟩
 ·cases h
def aAb:Model UU
 |[.agg [.int .i64 u,.int .i64 G,.int .i64 f,.int .i64 j],.agg [.int .i64 L,.int .i64 O,.int .i64 J,.int .i64 I]]=>some ([],.bool (Fc u G f j L O J I))
 |_=>none
def aJi:Cfg UU:=aJn.add 60 aAb
theorem aNR:aE aJi:=dN aNX mixed func60 KA KA fun xs Z r h V=>by
 unfold aAb at h;split at h
 ·rename_i I f O G j u L J;cases h;refine⟨KA,M0,0,false,⟨of_eq (q:=(fun Q:Bool->Prop=>cond (f==G) (Q ((((decide (u<f))&&(decide (f<(aB (u+J)))))&&(decide (I<(aB (j+L)))))&&(decide (j<O)))) (Q ((((decide (j<I))&&(decide (I<(aB (j+L)))))&&(decide (f<(aB (u+J)))))&&(decide (u<G))))) fun S=>(.bool S:aC UU)=.bool (Fc I f O G j u L J)) KA ?_⟩⟩;unfold Fc;cases (f==G)<;>rfl
 ·cases h
def aAo:Model UU
 |[.agg [.int .i64 f,.int .i64 L,.int .i64 O,.int .i64 I,.int .i64 J,.int .i64 j],.agg [.int .i64 u,.int .i64 G]]=>some ([],.agg [.i ((rY f L O I J j u G).1),.i ((rY f L O I J j u G).2)])
 |_=>none
def aJt:Cfg UU:=aJi.add 31 aAo
theorem aN4:aE aJt:=dN aNR mixed func31 KA KA fun xs cs r h Z=>by
 unfold aAo at h;split at h
 ·rename_i f G I L O J j u;cases h;refine⟨KA,M0,0,false,⟨of_eq (q:=(fun Q:Int->Int->Prop=>cond (f==3) (Q j u) (Q G I)) fun S V=>(.agg [.i S,.i V]:aC UU)=.agg [.i ((rY f G I L O J j u).1),.i ((rY f G I L O J j u).2)]) KA ?_⟩⟩;unfold rY;cases (f==3)<;>rfl
 ·cases h
def aAn:Model UU
 |[.agg [.int .i64 f,.int .i64 I,.int .i64 J,.int .i64 u,.int .i64 G,.int .i64 j]]=>some ([],.bool (xU f I J u G j))
 |_=>none
def aJs:Cfg UU:=aJt.add 27 aAn
theorem aN3:aE aJs:=dN aN4 mixed func27 KA KA fun xs S r h O=>by
 unfold aAn at h;split at h
 ·rename_i f L I G j u;cases h;refine⟨KA,M0,0,false,⟨of_eq (q:=(fun Q:Bool->Prop=>cond (f==1) (Q (((G==0)&&(j==0))&&(u==0))) (cond (f==2) (Q (((G==0)&&(j==0))&&(u==0))) (cond (f==4) (Q (((G==0)&&(j==0))&&(u==0))) (cond (f==3) (Q (u==0)) (cond (f==5) (Q (((I==0)&&(G==0))&&(j==0))) (cond (f==6) (Q (j==0)) (Q false))))))) fun J=>(.bool J:aC UU)=.bool (xU f L I G j u)) KA ?_⟩⟩;unfold xU;cases (f==1)<;>cases (f==2)<;>cases (f==4)<;>cases (f==3)<;>cases (f==5)<;>cases (f==6)<;>rfl
 ·cases h
def aBF:Model UU
 |[.int .i64 a0,.int .i64 f]=>some ([],.bool (Tx a0 f))
 |_=>none
def aKJ:Cfg UU:=aJs.add 102 aBF
theorem aNq:aE aKJ:=tin aN3 mixed func102 KA KA false fun xs f r h=>by
 unfold aBF at h;split at h
 ·cases h;exact⟨KA,KA⟩
 ·cases h
def aBG:Model UU
 |[.agg [.int .i64 u,.int .i64 G,.int .i64 f,.int .i64 j]]=>some ([],.bool (lF u G f j))
 |_=>none
def aKK:Cfg UU:=aKJ.add 55 aBG
theorem aNr:aE aKK:=tin aNq mixed func55 KA KA false fun xs f r h=>by
 unfold aBG at h;split at h
 ·cases h;exact⟨KA,KA⟩
 ·cases h
def aBI:Model UU
 |[.agg [.int .i64 L,.int .i64 O,.int .i64 I,.int .i64 J],.agg [.int .i64 u,.int .i64 G,.int .i64 j,.int .i64 f]]=>some ([],.bool (tR L O I J u G j f))
 |_=>none
def aKM:Cfg UU:=aKK.add 54 aBI
theorem aNt:aE aKM:=tin aNr mixed func54 KA KA false fun xs f r h=>by
 unfold aBI at h;split at h
 ·cases h;exact⟨KA,KA⟩
 ·cases h
def aAq:Model UU
 |[.int .i64 a0,.int .i64 f]=>some ([],.bool (Ab a0 f))
 |_=>none
def aJv:Cfg UU:=aKM.add 50 aAq
theorem aN7:aE aJv:=tin aNt mixed func50 KA KA false fun xs f r h=>by
 unfold aAq at h;split at h
 ·cases h;exact⟨KA,KA⟩
 ·cases h
def aAr:Model UU
 |[.agg [.str O,.str L,.int .i64 J,.int .i64 I,.int .i64 G,.int .i64 u,.sl .rect j,.sl .rect f],.int .i64 S]=>some ([],.tup [.agg [.i ((Ff O L J I G u j f S).1),.i ((Ff O L J I G u j f S).2.1),.i ((Ff O L J I G u j f S).2.2.1),.i ((Ff O L J I G u j f S).2.2.2.1)],.bool ((Ff O L J I G u j f S).2.2.2.2)])
 |_=>none
def Dx:Cfg UU:=aJv.add 53 aAr
theorem aN8:aE Dx:=tin aN7 mixed func53 KA KA false fun xs f r h=>by
 unfold aAr at h;split at h
 ·cases h;exact⟨KA,KA⟩
 ·cases h
def aXu (F:Nat):=cX (aU Ii F 0 Dx) Dx f52.ntmps Ii F
def aPU (F:Nat):=cA (aU Ii F 0 Dx) Dx f52.ntmps Ii F
abbrev aIe:=Bool->List aA->Int->Int->Prop
def Mt (k:ASt UU->Prop):aIe:=(fun G u j f=>k ⟨tmL [(2,.bool G),(5,.sl .rect u),(6,.i j),(7,.i f)],obL []⟩)
def aZ5:=(cL (cB (cS (cF (cS (bo f52))))))
def D3 (F:Nat) (K:zK) (n r:Nat):aIe:=Mt fun s=>iter (aXu F 0 aZ5) (Ii 0 0) n r s K
def aD1 (F:Nat) (Post:aC UU->Prop):zK:=bW 0 (aPU F 0 (cS (cS (bo f52))) (bN Dx false f52 Post))
theorem aBf (F:Nat) (K:zK):∀n r,D3 F K n r=Jn F (Mt (K .ret)) (Mt (K (.exit 0))) n
 |0,_=>KA
 |n+1,r=>QG (b:=aEz (D3 F K n (r+1)) (Mt (K .ret)) (Mt (K (.exit 0)))) KA (by rewrite[aBf F K n (r+1)];kernel_rfl)
theorem aRw (F:Nat) (Post:aC UU->Prop):D3 F (aD1 F Post) F 0=yp F (fun f=>Post (.bool f)):=
 (aBf F _ F 0).trans KA
def aAD:Model UU
 |[.sl .rect a0]=>some ([Aq a0],.bool (kF a0))
 |_=>none
def Dj:Cfg UU:=Dx.add 52 aAD
theorem aMi:aE Dj:=dN aN8 mixed func52 KA KA fun xs G r h j=>by
 unfold aAD at h;split at h
 ·rename_i a0;cases h;obtain⟨F,hF⟩:=aRF a0 j;exact⟨KA,Ii,F,false,fS fun Post u=>fT (QG (b:=aFA a0 (fun f=>Post (.bool f)) (D3 F (aD1 F Post) F 0)) KA (by rewrite[aRw F Post];kernel_rfl)) (hF (fun f=>Post (.bool f)) u)⟩
 ·cases h
def ka (F:Nat):=cX (aU zY F 0 Dj) Dj f21.ntmps zY F
def wc (F:Nat):=cA (aU zY F 0 Dj) Dj f21.ntmps zY F
abbrev aIy:=Int->List (List aA)->Int->Int->Int->Int->Int->Int->Prop
def Bg (k:ASt UU->Prop):aIy:=(fun G u j f L O J I=>k ⟨tmL [(2,.i G),(3,.ptr 3 0),(70,.sl .rects u),(71,.i j),(72,.i f)],obL [(3,.cells [.i L,.i O,.i J,.i I])]⟩)
abbrev aIx:=Int->List (List aA)->Int->Int->List aA->Int->Int->Int->Int->Int->Int->Prop
def No (k:ASt UU->Prop):aIx:=(fun L J I G u j f V Z S O=>k ⟨tmL [(2,.i L),(3,.ptr 3 0),(70,.sl .rects J),(71,.i I),(72,.i G),(76,.sl .rect u),(77,.i j),(78,.i f)],obL [(3,.cells [.i V,.i Z,.i S,.i O])]⟩)
def C1:=(cL (cB (cS (cF (cS (cS (cS (bo f21))))))))
def bAA:=(cL (cB (cS (cS (cB (cF (cS (cS C1))))))))
def Qo (F:Nat) (K:zK) (n r:Nat):aIy:=Bg fun s=>iter (ka F 1 C1) (zY 0 1) n r s K
def G4 (F:Nat) (K:zK) (n r:Nat):aIx:=No fun s=>iter (ka F 3 bAA) (zY 0 3) n r s K
def aEI (F:Nat) (Post:aC UU->Prop):zK:=bW 1 (wc F 0 (cS4 (bo f21)) (bN Dj false f21 Post))
def aEH (F n r:Nat) (K:zK):zK:=bW 3 (bW 2 (wc F 1 (cS (cS (cS C1))) (lT (ka F 1 C1) (zY 0 1) n r K)))
theorem aCV (F:Nat) (K:zK):∀n r,G4 F K n r=Kb F (No (K .ret)) (No (K (.exit 3))) n
 |0,_=>KA
 |n+1,r=>QG (b:=aFx (G4 F K n (r+1)) (No (K .ret)) (No (K (.exit 3)))) KA (by rewrite[aCV F K n (r+1)];kernel_rfl)
theorem aSc (F n r:Nat) (K:zK):G4 F (aEH F n r K) F 0=zb F (Qo F K n (r+1)) (Bg (K (.exit 1))) (Bg (K .ret)):=
 (aCV F _ F 0).trans KA
theorem aCW (F:Nat) (K:zK):∀n r,Qo F K n r=Er F (Bg (K (.exit 1))) (Bg (K .ret)) n
 |0,_=>KA
 |n+1,r=>QG (b:=(fun G u j f L O J I=>aFy (Qo F K n (r+1)) (Bg (K (.exit 1))) (Bg (K .ret)) G u j f L O J I (G4 F (aEH F n r K) F 0))) KA (by rewrite[aSc F n r K,aCW F K n (r+1)];kernel_rfl)
theorem aSd (F:Nat) (Post:aC UU->Prop):Qo F (aEI F Post) F 0=zc F (fun f=>Post (.i f)):=
 (aCW F _ F 0).trans KA
def aAV:Model UU
 |[.agg [.str O,.str L,.int .i64 J,.int .i64 I,.int .i64 G,.int .i64 u,.sl .rect j,.sl .rect f]]=>some ([],.i (jX O L J I G u j f))
 |_=>none
def Dn:Cfg UU:=Dj.add 21 aAV
theorem aMy:aE Dn:=dN aMi mixed func21 KA KA fun xs cs r h Z=>by
 unfold aAV at h;split at h
 ·rename_i S O L J I G u j;cases h;obtain⟨F,hF⟩:=aRX S O L J I G u j;exact⟨KA,zY,F,false,fS fun Post V=>fT (QG (b:=gp S O L J I G u j (fun f=>Post (.i f)) (Qo F (aEI F Post) F 0)) KA (by rewrite[aSd F Post];kernel_rfl)) (hF (fun f=>Post (.i f)) V)⟩
 ·cases h
def aYC (F:Nat):=cX (aU Ir F 0 Dn) Dn f28.ntmps Ir F
def aP2 (F:Nat):=cA (aU Ir F 0 Dn) Dn f28.ntmps Ir F
abbrev aIr:=Bool->Int->Int->zzI->Prop
def Nk (k:ASt UU->Prop):aIr:=(fun u j f G=>k ⟨tmL [(2,.bool u),(15,.osl 28 0),(16,.i j),(17,.i f)],obL [(28,.row .int 0 G)]⟩)
def aZs:=(cL (cB (cS (cF (cS (bo f28))))))
def F6 (F:Nat) (K:zK) (n r:Nat):aIr:=Nk fun s=>iter (aYC F 0 aZs) (Ir 0 0) n r s K
def aDv (F:Nat) (Post:aC UU->Prop):zK:=bW 0 (aP2 F 0 (cS (cS (bo f28))) (bN Dn false f28 Post))
theorem aCJ (F:Nat) (K:zK):∀n r,F6 F K n r=Jx F (Nk (K .ret)) (Nk (K (.exit 0))) n
 |0,_=>KA
 |n+1,r=>QG (b:=aFk (F6 F K n (r+1)) (Nk (K .ret)) (Nk (K (.exit 0)))) KA (by rewrite[aCJ F K n (r+1)];kernel_rfl)
theorem aS0 (F:Nat) (Post:aC UU->Prop):F6 F (aDv F Post) F 0=yv F (fun f=>Post (.bool f)):=
 (aCJ F _ F 0).trans KA
def aAS:Model UU
 |[.agg [.int .i64 f,.int .i64 I,.int .i64 J,.int .i64 u,.int .i64 G,.int .i64 j]]=>some ([],.bool (vA f I J u G j))
 |_=>none
def aJ7:Cfg UU:=Dn.add 28 aAS
theorem aMv:aE aJ7:=dN aMy mixed func28 KA KA fun xs V r h S=>by
 unfold aAS at h;split at h
 ·rename_i f J L G I u;cases h;obtain⟨F,hF⟩:=aRU f J L G I u;exact⟨KA,Ir,F,false,fS fun Post O=>fT (QG (b:=aFl f J L G I u (fun j=>Post (.bool j)) (F6 F (aDv F Post) F 0)) KA (by rewrite[aS0 F Post];kernel_rfl)) (hF (fun j=>Post (.bool j)) O)⟩
 ·cases h
def aBO:Model UU
 |[.agg [.int .i64 O,.int .i64 L,.int .i64 J,.int .i64 I],.ref [.int .i64 G,.int .i64 u,.int .i64 j,.int .i64 f] 0]=>some ([],.bool (N1 O L J I G u j f))
 |_=>none
def Ec:Cfg UU:=aJ7.add 59 aBO
theorem aOB:aE Ec:=tin aMv mixed func59 KA KA false fun xs f r h=>by
 unfold aBO at h;split at h
 ·cases h;exact⟨KA,KA⟩
 ·cases h
def aYN (F:Nat):=cX (aU Jb F 0 Ec) Ec f104.ntmps Jb F
def aPc (F:Nat):=cA (aU Jb F 0 Ec) Ec f104.ntmps Jb F
abbrev aJM:=List aA->Int->Int->Int->Int->Int->Int->Int->Prop
def Nv (k:ASt UU->Prop):aJM:=(fun G O I J L u j f=>k ⟨tmL [(0,.sl .rect G),(1,.fn 59 [.ref [.i O,.i I,.i J,.i L] 0]),(4,.i u),(7,.i j),(8,.i f)],obL []⟩)
def bAT:=(cL (cB (cS (cF (cS (bo f104))))))
def I4 (F:Nat) (K:zK) (n r:Nat):aJM:=Nv fun s=>iter (aYN F 0 bAT) (Jb 0 0) n r s K
def aE3 (F:Nat) (Post:aC UU->Prop):zK:=bW 0 (aPc F 0 (cS (cS (bo f104))) (bN Ec false f104 Post))
theorem aCj (F:Nat) (K:zK):∀n r,I4 F K n r=Ki F (Nv (K .ret)) (Nv (K (.exit 0))) n
 |0,_=>KA
 |n+1,r=>QG (b:=aGa (I4 F K n (r+1)) (Nv (K .ret)) (Nv (K (.exit 0)))) KA (by rewrite[aCj F K n (r+1)];kernel_rfl)
theorem aTB (F:Nat) (Post:aC UU->Prop):I4 F (aE3 F Post) F 0=zf F (fun f=>Post (.i f)):=
 (aCj F _ F 0).trans KA
def aAz:Model UU
 |[.sl .rect l,.fn 59 [.ref [.int .i64 G,.int .i64 u,.int .i64 j,.int .i64 f] 0]]=>some ([Vd l G u j f],.i (Tv l G u j f))
 |_=>none
def aKE:Cfg UU:=Ec.add 104 aAz
theorem aNi:aE aKE:=dN aOB mixed func104 KA KA fun xs O r h J=>by
 unfold aAz at h;split at h
 ·rename_i l G u j f;cases h;obtain⟨F,hF⟩:=aRb l G u j f J;exact⟨KA,Jb,F,false,fS fun Post L=>fT (QG (b:=aGb l G u j f (fun I=>Post (.i I)) (I4 F (aE3 F Post) F 0)) KA (by rewrite[aTB F Post];kernel_rfl)) (hF (fun I=>Post (.i I)) L)⟩
 ·cases h
def aB4:Model UU
 |[.sl .rect l,.fn 59 [.ref [.int .i64 G,.int .i64 u,.int .i64 j,.int .i64 f] 0]]=>some ([As l G u j f],.bool (vD l G u j f))
 |_=>none
def aK0:Cfg UU:=aKE.add 58 aB4
theorem aOS:aE aK0:=dN aNi mixed func58 KA KA fun xs O r h J=>by
 unfold aB4 at h;split at h
 ·rename_i l G u j f;cases h;refine⟨KA,M0,0,false,⟨iY (fun Q:Bool->Prop=>((Vd l G u j f)/\Q (decide (0<=(Tv l G u j f))))) (fun Q=>Q (vD l G u j f)) (fun I=>(.bool I:aC UU)=.bool (vD l G u j f)) KA (fun Q h=>?_) rfl⟩⟩
  try dsimp only at h ⊢
  unfold vD at h;have hp:As l G u j f:=J;unfold As at hp;have L:=hp;refine⟨L,?_⟩;exact h
 ·cases h
end
end Go.Proofs.YtgcpildegdgekaaGreatDoor
namespace Go.Proofs
open Go.Proofs.Tryz
open Go.RowKit Go.Extern
theorem aLS (t:Addr) (w:World):(ReflectliteValue.unpack (.iface 147 (.pointer (some t)))).run prog w
  =.ok (.agg #[.pointer (some ⟨9,147,none⟩),.pointer (some ⟨w.heap.size,0,none⟩),.int .u64 150]) (w.alloc (.cells #[.pointer (some t)] 147)):=KA
theorem aOm (a:Addr) (w:World):(ReflectliteValue.methodAny (ReflectliteValue.valueError "reflectlite.Value.Type" 0) (fun t _ _ _=>ReflectliteType.toType t) #[.agg #[.pointer (some ⟨9,147,none⟩),.pointer (some a),.int .u64 150]]).run prog w
  =.ok (.iface 225 (.agg #[.pointer (some ⟨9,147,none⟩)])) w:=KA
theorem aT0 (h:Value) (w:World):(Go.method 442 225 (.agg #[h]) "Kind").run prog w=.ok (240,h) w:=KA
theorem aUe (w:World):((ReflectliteType.abiMethod fun t=>(fun a:Nat=>Value.int IntKind.u8 (a:Int)) <$> Rtype.kind t) #[.pointer (some ⟨9,147,none⟩)]).run prog w=.ok (.int .u8 22) w:=KA
theorem aUf (w:World):((ReflectliteType.abiMethod fun t=>(fun a:Nat=>Value.int IntKind.u8 (a:Int)) <$> Rtype.kind t) #[.pointer (some ⟨9,141,none⟩)]).run prog w=.ok (.int .u8 25) w:=KA
theorem rlm (z:Sem Value) (f:TypeId->Addr->Nat->Nat->Sem Value) (v:Value):
  ReflectliteValue.method z f #[v]=(do match <- ReflectliteValue.parts v with|none=>z|some (t,a,j)=>f t a j (j % 32)):=rfl
theorem xf (a:Addr) (w:World):(ReflectliteValue.parts (.agg #[.pointer (some ⟨9,147,none⟩),.pointer (some a),.int .u64 150])).run prog w=.ok (some (147,a,150)) w:=KA
theorem aUt (a p:Addr) (W:World) (f:W.cell? a=some (.pointer (some p))):
  (ReflectliteValue.method (ReflectliteValue.valueError "reflectlite.Value.IsNil" 0) ReflectliteValue.isNil #[.agg #[.pointer (some ⟨9,147,none⟩),.pointer (some a),.int .u64 150]]).run prog W=.ok (.bool false) W:=by
 rw[rlm];simp only[QE,xf,Result.andThen];simp[ReflectliteValue.isNil,loadVar,isAgg,underlying,underlying147,f,Result.andThen]
theorem aT2 (h:Value) (w:World):(Go.method 442 225 (.agg #[h]) "Elem").run prog w=.ok (253,.agg #[h]) w:=KA
theorem aT1 (h:Value) (w:World):(Go.method 442 225 (.agg #[h]) "Implements").run prog w=.ok (254,.agg #[h]) w:=KA
theorem aT3 (h:Value) (w:World):(Go.method 442 225 (.agg #[h]) "AssignableTo").run prog w=.ok (251,.agg #[h]) w:=KA
theorem aXc (w:World):(ReflectliteType.method ReflectliteType.elem #[.agg #[.pointer (some ⟨9,147,none⟩)]]).run prog w=.ok (.iface 225 (.agg #[.pointer (some ⟨9,141,none⟩)])) w:=KA
theorem aVU (w:World):(ReflectliteType.relation "Implements" ReflectliteType.implements_ #[.agg #[.pointer (some ⟨9,141,none⟩)],.iface 225 (.agg #[.pointer (some ⟨9,87,none⟩)])]).run prog w=.ok (.bool true) w:=KA
theorem aLX (v:Value) (w:World):(ReflectliteType.typeOf #[.iface 141 v]).run prog w=.ok (.iface 225 (.agg #[.pointer (some ⟨9,141,none⟩)])) w:=KA
theorem bBA (w:World):(ReflectliteType.relation "AssignableTo" ReflectliteType.assignableTo #[.agg #[.pointer (some ⟨9,141,none⟩)],.iface 225 (.agg #[.pointer (some ⟨9,141,none⟩)])]).run prog w=.ok (.bool true) w:=KA
theorem aLT (n:Int) (w:World):(ReflectliteValue.unpack (.iface 141 (.agg #[.int .i64 n]))).run prog w
  =.ok (.agg #[.pointer (some ⟨9,141,none⟩),.pointer (some ⟨w.heap.size,0,none⟩),.int .u64 153]) (w.alloc (.cells #[.int .i64 n] 141)):=KA
theorem aXb (w:World):(Rtype.elem? 147).run prog w=.ok (some 141) w:=KA
theorem aTZ (p:Addr) (w:World):(ReflectliteValue.mk 141 p ReflectliteValue.flagAddr).run prog w=.ok (.agg #[.pointer (some ⟨9,141,none⟩),.pointer (some p),.int .u64 409]) w:=KA
theorem aXa (a p:Addr) (W:World) (f:W.cell? a=some (.pointer (some p))):
  (ReflectliteValue.method (ReflectliteValue.valueError "reflectlite.Value.Elem" 0) ReflectliteValue.elem #[.agg #[.pointer (some ⟨9,147,none⟩),.pointer (some a),.int .u64 150]]).run prog W
   =.ok (.agg #[.pointer (some ⟨9,141,none⟩),.pointer (some p),.int .u64 409]) W:=by
 rw[rlm];simp only[QE,xf,Result.andThen];simp[ReflectliteValue.elem,loadVar,isAgg,underlying,underlying147,f,Result.andThen,aXb,aTZ]
theorem rls (v x:Value):ReflectliteValue.set #[v,x]=(do
  let (some (dst,a,fl),some (src,b,_)):=(<- ReflectliteValue.parts v,<- ReflectliteValue.parts x)
   |unsupported (.noEntry "extern/(internal/reflectlite.Value).Set.zeroValue")
  if fl / ReflectliteValue.flagAddr % 2==0 then unsupported (.noEntry "extern/(internal/reflectlite.Value).Set.unaddressable")
  let val <- loadVar src b
  if <- Rtype.directlyAssignable dst src then storeVar dst a val
  else if <- Rtype.implements dst src then
   if (<- Rtype.kind src)==20 then
    match val with
    | .nilIface=>unsupported (.noEntry "extern/reflectlite: a nil value of one interface type handed on as a value of another")
    |_=>storeVar dst a val
   else storeVar dst a (.iface src val)
  else panicString ("reflectlite.Set: value of type "++(<- Rtype.spelt src)++ " is not assignable to type "++(<- Rtype.spelt dst))
  pure (.tuple #[])):=rfl
theorem aQY (a:Addr) (w:World):(ReflectliteValue.parts (.agg #[.pointer (some ⟨9,141,none⟩),.pointer (some a),.int .u64 409])).run prog w=.ok (some (141,a,409)) w:=KA
theorem aQZ (a:Addr) (w:World):(ReflectliteValue.parts (.agg #[.pointer (some ⟨9,141,none⟩),.pointer (some a),.int .u64 153])).run prog w=.ok (some (141,a,153)) w:=KA
theorem aY7 (w:World):(Rtype.directlyAssignable 141 141).run prog w=.ok true w:=KA
theorem aM7 (f b:Addr) (n:Int) (old:Value) (W:World) (hb:W.cell? b=some (.int .i64 n)) (j:W.cell? f=some old) (hf:W.frozen? f=false):
  (ReflectliteValue.set #[.agg #[.pointer (some ⟨9,141,none⟩),.pointer (some f),.int .u64 409],.agg #[.pointer (some ⟨9,141,none⟩),.pointer (some b),.int .u64 153]]).run prog W
   =.ok (.tuple #[]) (W.setCell f (.int .i64 n)):=by
 have u:(loadVar 141 b).run prog W=.ok (.agg #[.int .i64 n]) W:=by
  simp[loadVar,isAgg,underlying,underlying141,Result.andThen,loadCells,loadCellsFrom,hb,Addr.add]
 rw[rls];simp only[QE,aQY,aQZ,Result.andThen];simp only[ReflectliteValue.flagAddr];simp[u,Result.andThen,aY7,storeVar,Value.cells,storeCells,Addr.add];rw[run_store prog W f _ _ (by rfl)];simp[j,hf]
set_option maxHeartbeats 4000000 in
theorem bBB (n:Int) (t b:Addr) (old:Value) (w:World) (hb:w.cell? b=some (.pointer (some t))) (Bp:w.cell? t=some old) (G:w.frozen? t=false):
  Calls prog 108 #[.iface 141 (.agg #[.int .i64 n]),.iface 147 (.pointer (some t)),.agg #[.pointer (some ⟨9,147,none⟩),.pointer (some b),.int .u64 150],.iface 225 (.agg #[.pointer (some ⟨9,141,none⟩)])] w fun I w'=>I=.returned (.bool true)/\w'=((w.alloc (.cells #[.pointer (some ⟨9,147,none⟩),.pointer (some b),.int .u64 150] 185)).alloc (.cells #[.int .i64 n] 141)).setCell t (.int .i64 n):=by
 have Ou:=@run_callFunc_extern prog 140 _ ReflectliteType.typeOf func140 KA KA KA KA;have L:=@run_callFunc_extern prog 251 _ (ReflectliteType.relation "AssignableTo" ReflectliteType.assignableTo) func251 KA KA KA KA;have O:=@run_callFunc_extern prog 141 _ (ReflectliteValue.method (ReflectliteValue.valueError "reflectlite.Value.Elem" 0) ReflectliteValue.elem) func141 KA KA KA KA;have h6:=@run_callFunc_extern prog 105 _ (fun j=>ReflectliteValue.unpack (j.getD 0 (.tuple #[]))) func105 KA KA KA KA;have Yh:=@run_callFunc_extern prog 142 _ ReflectliteValue.set func142 KA KA KA KA;have V:=aLX;have mA:=aT3;have S:=bBA;have J:=aLT;have f:t.block<w.heap.size:=by
  rcases Nat.lt_or_ge t.block w.heap.size with h|h
  ·exact h
  ·simp[World.cell?,Array.getElem?_eq_none h] at Bp
 have u:b.block<w.heap.size:=by
  rcases Nat.lt_or_ge b.block w.heap.size with h|h
  ·exact h
  ·simp[World.cell?,Array.getElem?_eq_none h] at hb
 have el:=aXa b t (w.alloc (.cells #[.pointer (some ⟨9,147,none⟩),.pointer (some b),.int .u64 150] 185)) (by rw[World.cell?_alloc_lt _ _ b u];exact hb);have Z:=aM7 t ⟨w.heap.size+1,0,none⟩ n old ((w.alloc (.cells #[.pointer (some ⟨9,147,none⟩),.pointer (some b),.int .u64 150] 185)).alloc (.cells #[.int .i64 n] 141))
  (by rw[World.cell?_alloc_at _ _ _ _ XQ];rfl)
  (by rw[World.cell?_alloc_lt _ _ t (by simp;omega),World.cell?_alloc_lt _ _ t f];exact Bp)
  (by rw[World.frozen?_alloc_old _ _ t (by simp;omega),World.frozen?_alloc_old _ _ t (Nat.ne_of_lt f)];exact G)
 go_enter func108,ntmps108
 go_wp2
 refine wp_loop_rounds 1 ?_;rw[rounds_succ]
 go_wp2
 go_ret
 exact⟨rfl,rfl⟩
set_option maxHeartbeats 4000000 in
theorem aXM (n:Int) (t:Addr) (old:Value) (w:World) (u:w.cell? ⟨0,0,none⟩=some (.iface 225 (.agg #[.pointer (some ⟨9,87,none⟩)]))) (Bp:w.cell? t=some old) (I:w.frozen? t=false):
  Calls prog 61 #[.iface 141 (.agg #[.int .i64 n]),.iface 147 (.pointer (some t))] w fun O w'=>O=.returned (.bool true)/\w'=((((w.alloc (.cells #[.pointer (some t)] 147)).alloc (.cells #[.pointer (some ⟨9,147,none⟩),.pointer (some ⟨w.heap.size,0,none⟩),.int .u64 150] 185)).alloc (.cells #[.pointer (some ⟨9,147,none⟩),.pointer (some ⟨w.heap.size,0,none⟩),.int .u64 150] 185)).alloc (.cells #[.int .i64 n] 141)).setCell t (.int .i64 n):=by
 have h6:=@run_callFunc_extern prog 105 _ (fun j=>ReflectliteValue.unpack (j.getD 0 (.tuple #[]))) func105 KA KA KA KA;have h7:=@run_callFunc_extern prog 106 _ (ReflectliteValue.methodAny (ReflectliteValue.valueError "reflectlite.Value.Type" 0) (fun t _ _ _=>ReflectliteType.toType t)) func106 KA KA KA KA;have h8:=@run_callFunc_extern prog 107 _ (ReflectliteValue.method (ReflectliteValue.valueError "reflectlite.Value.IsNil" 0) ReflectliteValue.isNil) func107 KA KA KA KA;have ff:=@run_callFunc_extern prog 240 _ (ReflectliteType.abiMethod fun t=>do pure (.int .u8 (<- Rtype.kind t))) func240 KA KA KA KA;have h37:=@run_callFunc_extern prog 253 _ (ReflectliteType.method ReflectliteType.elem) func253 KA KA KA KA;have h38:=@run_callFunc_extern prog 254 _ (ReflectliteType.relation "Implements" ReflectliteType.implements_) func254 KA KA KA KA;have f6:=aLS;have f7:=aOm;have mK:=aT0;have mE:=aT2;have mI:=aT1;have S:=aUe;have V:=aUf;have e27:=aXc;have Z:=aVU;have G:0<w.heap.size:=by
  rcases Nat.eq_zero_or_pos w.heap.size with L|h
  ·simp[World.cell?,L] at u
  ·exact h
 have f:t.block<w.heap.size:=by
  rcases Nat.lt_or_ge t.block w.heap.size with h|h
  ·exact h
  ·simp[World.cell?,Array.getElem?_eq_none h] at Bp
 have n8:=aUt ⟨w.heap.size,0,none⟩ t ((w.alloc (.cells #[.pointer (some t)] 147)).alloc (.cells #[.pointer (some ⟨9,147,none⟩),.pointer (some ⟨w.heap.size,0,none⟩),.int .u64 150] 185)) XQ;have hg2:((w.alloc (.cells #[.pointer (some t)] 147)).alloc (.cells #[.pointer (some ⟨9,147,none⟩),.pointer (some ⟨w.heap.size,0,none⟩),.int .u64 150] 185)).cell? ⟨0,0,none⟩=some (.iface 225 (.agg #[.pointer (some ⟨9,87,none⟩)])):=by
  rw[World.cell?_alloc_lt _ _ ⟨0,0,none⟩ XQ,World.cell?_alloc_lt _ _ ⟨0,0,none⟩ G];exact u
 have J:=bBB n t ⟨w.heap.size,0,none⟩ old ((w.alloc (.cells #[.pointer (some t)] 147)).alloc (.cells #[.pointer (some ⟨9,147,none⟩),.pointer (some ⟨w.heap.size,0,none⟩),.int .u64 150] 185)) XQ
  (by rw[World.cell?_alloc_lt _ _ t (by simp;omega),World.cell?_alloc_lt _ _ t f];exact Bp)
  (by rw[World.frozen?_alloc_old _ _ t (by simp;omega),World.frozen?_alloc_old _ _ t (Nat.ne_of_lt f)];exact I)
 clear u
 go_enter func61,ntmps61
 go_wp2_with (go_at_call 108;refine J.mono ?_;rintro e w' ⟨rfl,rfl⟩)
 go_ret
 exact⟨rfl,rfl⟩
open Go.Proofs.YtgcpildegdgekaaGreatDoor Go.Sort
theorem aUu (x:Int) (w:World):Calls prog 153 #[.int .i64 x] w fun e w'=>e=.returned (.bool false)/\w'=w:=by
 go_enter func153,ntmps153
 go_wp2
 go_ret
 simp_all
theorem aHq (x y:Int) (w:World):Calls prog 112 #[.int .i64 x,.int .i64 y] w fun e w'=>e=.returned (.int .i64 (Lib.compareInt x y))/\w'=w:=by
 have h:=fun x=>aUu x w
 unfold Lib.compareInt
 by_cases G:x<y
 ·have j:decide (x<y)=true:=by grind
  rw[JQ G]
  go_enter func112,ntmps112
  go_wp2_with (go_at_call 153;refine(h _).mono ?_;rintro e w' ⟨rfl,rfl⟩)
  go_ret
  simp_all
 ·have j:decide (x<y)=false:=by grind
  rw[QF G]
  by_cases u:y<x
  ·have f:decide (y<x)=true:=by grind
   rw[JQ u]
   go_enter func112,ntmps112
   go_wp2_with (go_at_call 153;refine(h _).mono ?_;rintro e w' ⟨rfl,rfl⟩)
   go_ret
   simp_all
  ·have f:decide (y<x)=false:=by grind
   rw[QF u]
   go_enter func112,ntmps112
   go_wp2_with (go_at_call 153;refine(h _).mono ?_;rintro e w' ⟨rfl,rfl⟩)
   go_ret
   simp_all
theorem xp (b:Nat) (x y z:Int) (w:World) (J:w.cell? ⟨b,0,none⟩=some (.int .i64 x)) (I:w.cell? ⟨b,1,none⟩=some (.int .i64 y)) (G:w.cell? ⟨b,2,none⟩=some (.int .i64 z)):
  Calls prog 111 #[.slice (some ⟨b,0,none⟩) 3 3] w fun e w'=>e=.returned (.int .i64 (yM x y z))/\w'=w:=by
 unfold yM
 by_cases j:x=0
 ·subst j;rw[QF XQ]
  by_cases f:y=0
  ·subst f;rw[QF XQ]
   by_cases u:z=0
   ·subst u
    go_enter func111,ntmps111
    go_wp2
    refine wp_loop_rounds 4 ?_
    iterate 4 (rw[rounds_succ];go_wp2)
    go_ret
    simp_all
   ·go_enter func111,ntmps111
    go_wp2
    refine wp_loop_rounds 3 ?_
    iterate 3 (rw[rounds_succ];go_wp2)
    go_ret
    simp_all
  ·rw[JQ f]
   go_enter func111,ntmps111
   go_wp2
   refine wp_loop_rounds 2 ?_
   iterate 2 (rw[rounds_succ];go_wp2)
   go_ret
   simp_all
 ·rw[JQ j]
  go_enter func111,ntmps111
  go_wp2
  refine wp_loop_rounds 1 ?_;rw[rounds_succ]
  go_wp2
  go_ret
  simp_all
def nQ (s:Seg):List Value:=[.int .i64 s.X1,.int .i64 s.Y1,.int .i64 s.X2,.int .i64 s.Y2]
theorem Hz (w:World) (o:Obj):w.alloc o=grow w #[o]:=rfl
set_option maxHeartbeats 4000000 in
theorem aQb (ax ay G j bx f I u:Int) (w:World) (L:ay=j) (J:¬f=u):Calls prog 64 #[.agg #[.int .i64 ax,.int .i64 ay,.int .i64 G,.int .i64 j],.agg #[.int .i64 bx,.int .i64 f,.int .i64 I,.int .i64 u]] w fun e w'=>e=.returned (.int .i64 (-1))/\∃q O,w'=grow (w.drewN q) O:=by
 have e1:(ay==j)=true:=by simpa using L
 have S:(f==u)=false:=by simpa using J
 clear L J
 go_enter func64,ntmps64
 go_wp2
 go_region_held3 (fun w'=>w'.cell? ⟨w.heap.size,0,none⟩=some (.int .i64 ax)/\w'.cell? ⟨w.heap.size,1,none⟩=some (.int .i64 ay)/\w'.cell? ⟨w.heap.size,2,none⟩=some (.int .i64 G)/\w'.cell? ⟨w.heap.size,3,none⟩=some (.int .i64 j)/\w'.cell? ⟨w.heap.size+1,0,none⟩=some (.int .i64 bx)/\w'.cell? ⟨w.heap.size+1,1,none⟩=some (.int .i64 f)/\w'.cell? ⟨w.heap.size+1,2,none⟩=some (.int .i64 I)/\w'.cell? ⟨w.heap.size+1,3,none⟩=some (.int .i64 u)) (go_keep) (fail)
 all_goals go_wp2
 all_goals go_ret
 all_goals exact⟨rfl,_,_,by rw[Hz,Hz,grow_grow,drew_grow];rfl⟩
set_option maxHeartbeats 4000000 in
theorem aQc (ax ay G j bx f I u:Int) (w:World) (L:¬ay=j) (J:f=u):Calls prog 64 #[.agg #[.int .i64 ax,.int .i64 ay,.int .i64 G,.int .i64 j],.agg #[.int .i64 bx,.int .i64 f,.int .i64 I,.int .i64 u]] w fun e w'=>e=.returned (.int .i64 (1))/\∃q O,w'=grow (w.drewN q) O:=by
 have e1:(ay==j)=false:=by simpa using L
 have S:(f==u)=true:=by simpa using J
 clear L J
 go_enter func64,ntmps64
 go_wp2
 go_region_held3 (fun w'=>w'.cell? ⟨w.heap.size,0,none⟩=some (.int .i64 ax)/\w'.cell? ⟨w.heap.size,1,none⟩=some (.int .i64 ay)/\w'.cell? ⟨w.heap.size,2,none⟩=some (.int .i64 G)/\w'.cell? ⟨w.heap.size,3,none⟩=some (.int .i64 j)/\w'.cell? ⟨w.heap.size+1,0,none⟩=some (.int .i64 bx)/\w'.cell? ⟨w.heap.size+1,1,none⟩=some (.int .i64 f)/\w'.cell? ⟨w.heap.size+1,2,none⟩=some (.int .i64 I)/\w'.cell? ⟨w.heap.size+1,3,none⟩=some (.int .i64 u)) (go_keep) (fail)
 all_goals go_wp2
 all_goals go_ret
 all_goals exact⟨rfl,_,_,by rw[Hz,Hz,grow_grow,drew_grow];rfl⟩
set_option maxHeartbeats 4000000 in
theorem aQd (ax ay j G bx f u I:Int) (w:World) (L:ay=G) (J:f=I):Calls prog 64 #[.agg #[.int .i64 ax,.int .i64 ay,.int .i64 j,.int .i64 G],.agg #[.int .i64 bx,.int .i64 f,.int .i64 u,.int .i64 I]] w fun e w'=>e=.returned (.int .i64 (yM (Lib.compareInt ay f) (Lib.compareInt ax bx) (Lib.compareInt j u)))/\∃q O,w'=grow (w.drewN q) O:=by
 have e1:(ay==G)=true:=by simpa using L
 have S:(f==I)=true:=by simpa using J
 clear L J
 go_enter func64,ntmps64
 go_wp2
 go_region_held3 (fun w'=>w'.cell? ⟨w.heap.size,0,none⟩=some (.int .i64 ax)/\w'.cell? ⟨w.heap.size,1,none⟩=some (.int .i64 ay)/\w'.cell? ⟨w.heap.size,2,none⟩=some (.int .i64 j)/\w'.cell? ⟨w.heap.size,3,none⟩=some (.int .i64 G)/\w'.cell? ⟨w.heap.size+1,0,none⟩=some (.int .i64 bx)/\w'.cell? ⟨w.heap.size+1,1,none⟩=some (.int .i64 f)/\w'.cell? ⟨w.heap.size+1,2,none⟩=some (.int .i64 u)/\w'.cell? ⟨w.heap.size+1,3,none⟩=some (.int .i64 I)) (go_keep) (fail)
 all_goals go_wp2
 all_goals (go_region_held3 (fun w'=>w'.cell? ⟨w.heap.size,0,none⟩=some (.int .i64 ax)/\w'.cell? ⟨w.heap.size,1,none⟩=some (.int .i64 ay)/\w'.cell? ⟨w.heap.size,2,none⟩=some (.int .i64 j)/\w'.cell? ⟨w.heap.size,3,none⟩=some (.int .i64 G)/\w'.cell? ⟨w.heap.size+1,0,none⟩=some (.int .i64 bx)/\w'.cell? ⟨w.heap.size+1,1,none⟩=some (.int .i64 f)/\w'.cell? ⟨w.heap.size+1,2,none⟩=some (.int .i64 u)/\w'.cell? ⟨w.heap.size+1,3,none⟩=some (.int .i64 I)) (go_keep) (first| (go_at_call 112;refine(aHq _ _ _).mono ?_;rintro e w' ⟨rfl,rfl⟩)| (go_at_call 111;refine(xp _ (Lib.compareInt ay f) (Lib.compareInt ax bx) (Lib.compareInt j u) _ (by simp;rw[World.cell?_alloc_at _ _ _ _ XQ];rfl) (by simp;rw[World.cell?_alloc_at _ _ _ _ XQ];rfl) (by simp;rw[World.cell?_alloc_at _ _ _ _ XQ];rfl)).mono ?_;rintro e w' ⟨rfl,rfl⟩)))
 all_goals go_wp2
 all_goals go_ret
 all_goals exact⟨rfl,2,_,by simp only[Hz,grow_grow,drew_grow];rfl⟩
set_option maxHeartbeats 4000000 in
theorem aQa (ax ay G j bx f I u:Int) (w:World) (L:¬ay=j) (J:¬f=u):Calls prog 64 #[.agg #[.int .i64 ax,.int .i64 ay,.int .i64 G,.int .i64 j],.agg #[.int .i64 bx,.int .i64 f,.int .i64 I,.int .i64 u]] w fun e w'=>e=.returned (.int .i64 (yM (Lib.compareInt ax bx) (Lib.compareInt ay f) (Lib.compareInt j u)))/\∃q O,w'=grow (w.drewN q) O:=by
 have e1:(ay==j)=false:=by simpa using L
 have S:(f==u)=false:=by simpa using J
 clear L J
 go_enter func64,ntmps64
 go_wp2
 go_region_held3 (fun w'=>w'.cell? ⟨w.heap.size,0,none⟩=some (.int .i64 ax)/\w'.cell? ⟨w.heap.size,1,none⟩=some (.int .i64 ay)/\w'.cell? ⟨w.heap.size,2,none⟩=some (.int .i64 G)/\w'.cell? ⟨w.heap.size,3,none⟩=some (.int .i64 j)/\w'.cell? ⟨w.heap.size+1,0,none⟩=some (.int .i64 bx)/\w'.cell? ⟨w.heap.size+1,1,none⟩=some (.int .i64 f)/\w'.cell? ⟨w.heap.size+1,2,none⟩=some (.int .i64 I)/\w'.cell? ⟨w.heap.size+1,3,none⟩=some (.int .i64 u)) (go_keep) (fail)
 all_goals go_wp2
 all_goals (go_region_held3 (fun w'=>w'.cell? ⟨w.heap.size,0,none⟩=some (.int .i64 ax)/\w'.cell? ⟨w.heap.size,1,none⟩=some (.int .i64 ay)/\w'.cell? ⟨w.heap.size,2,none⟩=some (.int .i64 G)/\w'.cell? ⟨w.heap.size,3,none⟩=some (.int .i64 j)/\w'.cell? ⟨w.heap.size+1,0,none⟩=some (.int .i64 bx)/\w'.cell? ⟨w.heap.size+1,1,none⟩=some (.int .i64 f)/\w'.cell? ⟨w.heap.size+1,2,none⟩=some (.int .i64 I)/\w'.cell? ⟨w.heap.size+1,3,none⟩=some (.int .i64 u)) (go_keep) (first| (go_at_call 112;refine(aHq _ _ _).mono ?_;rintro e w' ⟨rfl,rfl⟩)| (go_at_call 111;refine(xp _ (Lib.compareInt ax bx) (Lib.compareInt ay f) (Lib.compareInt j u) _ (by simp;rw[World.cell?_alloc_at _ _ _ _ XQ];rfl) (by simp;rw[World.cell?_alloc_at _ _ _ _ XQ];rfl) (by simp;rw[World.cell?_alloc_at _ _ _ _ XQ];rfl)).mono ?_;rintro e w' ⟨rfl,rfl⟩)))
 all_goals go_wp2
 all_goals go_ret
 all_goals exact⟨rfl,2,_,by simp only[Hz,grow_grow,drew_grow];rfl⟩
theorem aQe (a b:Seg) (w:World):Calls prog 64 #[.agg (nQ a).toArray,.agg (nQ b).toArray] w fun e w'=>e=.returned (.int .i64 (rB a b))/\∃q G,w'=grow (w.drewN q) G:=by
 obtain⟨ax,L,O,I⟩:=a;obtain⟨bx,u,S,J⟩:=b;unfold rB;dsimp only
 by_cases f:L=I<;>by_cases j:u=J
 ·rw[QF (by simp[j]),QF (by simp[f]),JQ f];exact aQd _ _ _ _ _ _ _ _ w f j
 ·rw[JQ ⟨f,j⟩];exact aQb _ _ _ _ _ _ _ _ w f j
 ·rw[QF (by simp[f]),JQ ⟨j,f⟩];exact aQc _ _ _ _ _ _ _ _ w f j
 ·rw[QF (by simp[f]),QF (by simp[j]),QF f];exact aQa _ _ _ _ _ _ _ _ w f j
open Go.Shelf
def aUN:Go.Shelf.Ren:=⟨fun|6=>63|15=>110|14=>109|28=>151|29=>152|20=>143|21=>144|22=>145|23=>146|24=>147|25=>148|26=>149|27=>150|46=>174|47=>175|48=>176|49=>177|50=>178|57=>211|n=>n,fun|22=>35|24=>73|25=>149|3=>3|39=>196|0=>0|53=>246|55=>248|4=>4|46=>240|45=>239|50=>160|5=>5|9=>9|66=>267|70=>271|76=>296|77=>126|n=>n,fun|n=>n⟩
theorem aDJ:Go.Proofs.SlLaysF0.n6 prog aUN:=⟨KA,⟨f63.name,by decide,XJ func63⟩,⟨f109.name,by decide,XJ func109⟩,XJ func110,⟨f143.name,by decide,XJ func143⟩,⟨f144.name,by decide,XJ func144⟩,⟨f145.name,by decide,XJ func145⟩,⟨f146.name,by decide,XJ func146⟩,⟨f147.name,by decide,XJ func147⟩,⟨f148.name,by decide,XJ func148⟩,⟨f149.name,by decide,XJ func149⟩,⟨f150.name,by decide,XJ func150⟩,XJ func151,XJ func152,⟨f174.name,by decide,XJ func174⟩,XJ func175,XJ func176,⟨f177.name,by decide,XJ func177⟩,⟨f178.name,by decide,XJ func178⟩,⟨f211.name,by decide,XJ func211⟩,underlying0,isAgg0,sizeOf0,zeroValue0,underlying3,isAgg3,sizeOf3,zeroValue3,underlying4,isAgg4,sizeOf4,zeroValue4,underlying5,isAgg5,sizeOf5,zeroValue5,underlying9,isAgg9,sizeOf9,zeroValue9,underlying35,isAgg35,sizeOf35,zeroValue35,underlying149,isAgg149,sizeOf149,zeroValue149,underlying196,isAgg196,sizeOf196,zeroValue196,underlying239,isAgg239,sizeOf239,zeroValue239,underlying240,isAgg240,sizeOf240,zeroValue240,underlying160,isAgg160,sizeOf160,zeroValue160,underlying246,isAgg246,sizeOf246,zeroValue246,underlying248,isAgg248,sizeOf248,zeroValue248,underlying267,isAgg267,sizeOf267,zeroValue267,underlying271,isAgg271,sizeOf271,zeroValue271,underlying296,isAgg296,sizeOf296,zeroValue296,underlying126,isAgg126,sizeOf126,zeroValue126⟩
end Go.Proofs
namespace Go.Proofs.YtgcpildegdgekaaGreatDoor
open Go.Proofs.Tryz
open Go.Vm Go.RowKit Go.Lib Go.Sort
theorem aQ5 {α:Type} [Inhabited α] {enc:α->List Value} {k:Nat} {w:World} {base:Nat} {e:TypeId} {g n cap q:Nat} {cs:List Value} {d:Array α} (h:w.ownsRow base e k (.slice (some ⟨g,0,none⟩) n cap) n cs) (G:d.size=n):
  (putRowK enc k (Sort.ahead w q) g 0 d).ownsRow base e k (.slice (some ⟨g,0,none⟩) n cap) n (flatK enc k d).toList:=by
 rcases h.2 with ⟨e0,_⟩|⟨O,j,cur,e0,hb,L,f,hm,u,J⟩
 ·cases e0
 ·injection e0 with e1 _ e3
  injection e1 with e1
  injection e1 with e1
  subst e1;subst e3;have I:n*k<=cap*k:=QC k f;refine⟨by simp[G],.inr ⟨g,cap,putCells id 0 (flatK enc k d) cur,rfl,hb,?_,f,hm,by simpa[putCells] using u,?_⟩⟩
  ·grind [putRowK,putRow,mapBlock,Sort.ahead,onCells]
  ·apply List.ext_getElem?;grind [putCells,size_flatK]
theorem aQ7 {w:World} {os:Array Obj} {base:Nat} {e:TypeId} {k:Nat} {u:Value} {n:Nat} {cs:List Value} (h:w.ownsRow base e k u n cs):(grow w os).ownsRow base e k u n cs:=by
 refine⟨h.1,?_⟩;rcases h.2 with I|⟨g,f,cur,G,j,J,rest⟩
 ·grind
 ·exact .inr ⟨g,f,cur,G,j,by grind [heap_grow_old],rest⟩
theorem bAr {B:Nat} {w0 w:World} {os:Array Obj} (h:Go.RowKit.Below B w0 w) (j:B<=w.heap.size):Go.RowKit.Below B w0 (grow w os):=
 ⟨h.os,h.tape,h.output,by have:=h.size;rw[size_grow];omega,fun k f=>by rw[heap_grow_old _ _ KI];exact h.block k f⟩
theorem Um {w:World} {ρ:Own} {st:Nat->Prop} {k:IntKind} {n:Int} {v:Value} (h:Rel EE w ρ st (.int k n) v):v=.int k n:=by
 cases h;rfl
theorem k4 {k:Nat} (h:k<4):k=0\/k=1\/k=2\/k=3:=KI
theorem aZX {w:World} {ρ:Own} {st:Nat->Prop} {l:List Seg} {f:Nat->Value} (j:∀i (h:i<l.length) k (u:k<(EE.enc .seg l[i]).length),Rel EE w ρ st (EE.enc .seg l[i])[k] (f (i*UU.size .seg+k))):
  ∀i (h:i<l.length) k,k<4->f (i*4+k)=(nQ l[i])[k]!:=by
 intro i hi k u;rcases k4 u with rfl|rfl|rfl|rfl
 ·exact Um (j i hi 0 (show 0<4 by decide))
 ·exact Um (j i hi 1 (show 1<4 by decide))
 ·exact Um (j i hi 2 (show 2<4 by decide))
 ·exact Um (j i hi 3 (show 3<4 by decide))
theorem aOy {w:World} {ρ:Own} {st:Nat->Prop} {l:List Seg} {f:Nat->Value} (G:∀i (h:i<l.length) k,k<4->f (i*4+k)=(nQ l[i])[k]!):
  ∀i (h:i<l.length) k (u:k<(EE.enc .seg l[i]).length),Rel EE w ρ st (EE.enc .seg l[i])[k] (f (i*UU.size .seg+k)):=by
 intro i hi k u;have j:k<4:=u;have e:=G i hi k j;rw[show i*UU.size .seg+k=i*4+k from rfl,e];rcases k4 j with rfl|rfl|rfl|rfl
 ·exact .int _ _
 ·exact .int _ _
 ·exact .int _ _
 ·exact .int _ _
theorem aWf (l:List Seg) (i k:Nat) (hi:i<l.length) (f:k<4):(flatK nQ 4 l.toArray).toList.getD (i*4+k) undef=(nQ l[i])[k]!:=by
 have lt:i*4+k<(flatK nQ 4 l.toArray).size:=by
  grind [size_flatK]
 have j:(flatK nQ 4 l.toArray)[i*4+k]! =(nQ l.toArray[(i*4+k) / 4]!)[(i*4+k) % 4]!:=get_flatK _ _ _ _ (by grind);grind
theorem aMP {blk cap:Nat} {l:List Seg} {w:World} (V:kK l) (hsz:l.length<=2000000) (hH:HoldsK nQ 4 w blk 0 l.toArray) (I:blk<w.heap.size):
  Calls prog 63 #[.slice (some ⟨blk,0,none⟩) l.length cap,.func (.func 64) #[] #[]] w fun e w'=>e=.returned (.tuple #[])/\∃n G,w'=grow (putRowK nQ 4 (Sort.ahead w n) blk 0 (iX l).toArray) G:=by
 have eg:∀f w,(callFunc 64 f).run prog w=.ok (.enter 64 f) w:=fun f w=>lE (fn:=f64) func64 KA rfl f w
 have h:=AnyQ.slices_SortFunc aDJ 4 (fun w=>KA) (fun w=>KA) nQ (fun _=>rfl) (fun x v hv=>by
  simp only[nQ,List.mem_cons,List.not_mem_nil,or_false] at hv;rcases hv with rfl|rfl|rfl|rfl<;>rfl) rB xn 64 #[] blk 0 cap l.toArray w eg (fun m G dk hdk x y=>aQe x y _) hH I (by grind)
 have Z:Calls prog 63 #[.slice (some ⟨blk,0,none⟩) l.length cap,.func (.func 64) #[] #[]] w fun e w'=>
   e=.returned (.tuple #[])/\∃u n G,PermIn 0 l.toArray.size l.toArray u/\SortedIn (ltOf rB) 0 l.toArray.size u/\w'=sortWorldK nQ 4 w blk 0 n u G:=h
 refine Z.mono ?_
 rintro e w' ⟨rfl,u,n,G,⟨O,p2,p3⟩,S,rfl⟩
 refine⟨rfl,n,G,?_⟩;have e1:u.toList.Perm l:=by
  have q1:(u.extract 0 l.toArray.size).toList=u.toList:=by rw[<- O];simp
  grind
 have L:u.toList.length=l.toArray.size:=KI;have e2:u.toList=iX l:=by
  refine aQF V e1 ?_;rw[List.pairwise_iff_getElem];intro i j hi hj J;have:=S i j (Nat.zero_le _) J KI;grind [Mp]
 unfold sortWorldK;rw[<- e2]
theorem aMQ (c:Nat) (w:World):Calls prog 63 #[.slice none 0 c,.func (.func 64) #[] #[]] w fun e w'=>e=.returned (.tuple #[])/\w'=w:=
 AnyF.slices_SortFunc_none aDJ none c (.func (.func 64) #[] #[]) w
noncomputable section
def kk:Jg UU
 |[.osl 0 g,.fn 64 []],.row .seg f l=>cond (Nat.beq g f) (some ([kK l/\l.length<=2000000],.raw (.tuple #[]),.row .seg f (iX l))) none
 |_,_=>none
theorem aXf {C:Cfg UU} (hP:C.P=prog) (hE:C.E=EE) (w0:World):Di C 63 kk w0:=by
 refine⟨fun O w=>by simp_all,fun st ρ w O k0 xs ob ob' cs r hb hst hdom Z V hsz L oB hm hc oA hpr hown=>?_⟩;unfold kk at hm;split at hm
 ·rename_i g g' l;obtain⟨hg,hm⟩:=cC hm;obtain rfl:=QQ hg;cases hm;obtain rfl:0=k0:=by cases hown;rfl
  obtain⟨h1,h2⟩:kK l/\l.length<=2000000:=hc;rw[hE] at V L ⊢;obtain⟨u,cells,hu,hup,hro,hcs⟩:=V;have e0:=L 0 XQ;have e1:=L 1 XQ;obtain⟨al⟩:=O
  match al,hsz with
  |[x,y],_=>
   simp at e0 e1;obtain rfl:x=u:=by
    cases e0 with
    |osl _ _ u' hu' _=>
     grind
    |oslOld _ _ g2 u' v hu' hlt=>
     grind
   obtain rfl:y=.func (.func 64) #[] #[]:=by
    cases e1 with
    |fn _ _ vs hn hl=>
     grind
   rw[hP];have hcells:=aZX (f:=fun j=>cells.getD j undef) hcs;have S:w0.heap.size<=w.heap.size:=hb.size;have fin:∀(w':World) (J:List Value),w'.ownsRow w0.heap.size (UU.ety .seg) (UU.size .seg) x (iX l).length J->(∀i (h:i<(iX l).length) k,k<4->J.getD (i*4+k) undef=(nQ (iX l)[i])[k]!)->Go.RowKit.Below w0.heap.size w w'->
     (∀b,b<w.heap.size->blk x≠some b->w'.heap[b]?=w.heap[b]?)->∃v ρ',Ending.returned (.tuple #[])=.returned v/\(((aC.raw (.tuple #[]):aC UU).yF=true->Rel EE w' cO (fun _=>False) (.raw (.tuple #[])) v)/\(Gc 0 (.raw (.tuple #[]):aC UU) (.row .seg g (iX l))=true->Rel EE w' ρ' (fun _=>False) (.raw (.tuple #[])) v))/\
   gF EE w' ρ' (fun b=>(st b\/w.heap.size<=b\/∃nm g u,ρ nm=some (g,u)/\blk u=some b)/\b<w'.heap.size/\∀nm g u,ρ' nm=some (g,u)->blk u≠some b) w0.heap.size 0 (.row .seg g (iX l))/\
   (∀nm g' u,ρ' nm=some (g',u)->nm.id=0/\((aT.row .seg g (iX l):aT UU).simple=true->nm=.ob 0))/\Chg (fun _=>False) (fun i=>i=0) w0.heap.size ρ ρ' w w':=by
    intro w' J q1 q2 q3 q4;refine⟨_,ρ,rfl,⟨fun _=>.raw _,fun h=>by cases h⟩,⟨x,J,hu,hup,q1,aOy (f:=fun j=>J.getD j undef) q2⟩,hdom,⟨fun _ _=>rfl,fun _ _ _ _ h=>.inl h,q3,fun b hb G=>q4 b hb (G (.ob 0) _ _ rfl hu),fun nm q u k hn h I=>.inl ⟨nm,q,u,hn,h,I⟩,fun nm nm' q q' u u' k _ _ h h' G I=>Z _ _ _ _ _ _ k h h' G I⟩⟩
   have hlen:(iX l).length=l.length:=(yG l).length_eq;rcases hro.2 with ⟨rfl,hn⟩|⟨b,cap,cur,rfl,q1,q2,q3,q4,q5,q6⟩
   ·have wJ:l=[]:=List.eq_nil_of_length_eq_zero hn;subst wJ;refine(aMQ 0 w).mono ?_;grind [Go.RowKit.Below.refl]
   ·have I:b<w.heap.size:=(QD.1 q2).1;have hH:HoldsK nQ 4 w b 0 l.toArray:=by
     intro j hj;rw[size_flatK] at hj;have hj':j<l.length*4:=KI;have hcur:(cur.toList.take (l.length*4))[j]?=cells[j]?:=by
      grind
     grind [World.frozen?,get_flatK,World.cell?]
    refine(aMP h1 h2 hH I).mono ?_
    rintro e w' ⟨rfl,n,os,rfl⟩
    have hsz2:(iX l).toArray.size=l.length:=KI;refine fin _ (flatK nQ 4 (iX l).toArray).toList ?_ (fun i hi k hk=>aWf _ _ _ hi hk) ?_ (fun b' hb' G=>?_)
    ·grind [aQ7,aQ5]
    ·refine bAr ?_ (by rw[size_putRowK];exact S);exact below_putRow (Go.RowKit.Below.refl _ _) q1
    ·have hne':b≠b':=fun e=>G (by rw[e];rfl)
     grind [heap_grow_old,putRowK,putRow,mapBlock,Sort.ahead]
 grind
end
end Go.Proofs.YtgcpildegdgekaaGreatDoor
namespace Go.Proofs.YtgcpildegdgekaaGreatDoor
open Go.Proofs.Tryz
open Go.RowKit Go.Vm
noncomputable section
set_option maxHeartbeats 4000000 in
theorem aZK (n:Int) (w:World) (f:w.cell? ⟨0,0,none⟩=some (.iface 225 (.agg #[.pointer (some ⟨9,87,none⟩)]))):
  Calls prog 23 #[.iface 141 (.agg #[.int .i64 n])] w fun e w'=>e=.returned (.int .i64 n)/\Below w.heap.size w w':=by
 have j:0<w.heap.size:=by
  rcases Nat.eq_zero_or_pos w.heap.size with J|h
  ·simp[World.cell?,J] at f
  ·exact h
 have I:=aXM n ⟨w.heap.size,0,none⟩ (.int .i64 0) (w.alloc (.cells #[.int .i64 0] 141)) (by rw[World.cell?_alloc_lt _ _ ⟨0,0,none⟩ j];exact f) XQ (World.frozen?_alloc_at _ _ _ _ rfl);have G:Calls prog 61 #[.iface 141 (.agg #[.int .i64 n]),.iface 147 (.pointer (some ⟨w.heap.size,0,none⟩))] (w.alloc (.cells #[.int .i64 0] 141)) fun e w'=>e=.returned (.bool true)/\w'.cell? ⟨w.heap.size,0,none⟩=some (.int .i64 n)/\Below w.heap.size w w':=I.mono (by
  rintro e w' ⟨rfl,rfl⟩
  refine⟨rfl,?_,?_⟩
  ·refine World.cell?_setCell_same _ _ _ (u:=.int .i64 0) ?_;rw[World.cell?_alloc_lt _ _ ⟨w.heap.size,0,none⟩ (by simp;omega),World.cell?_alloc_lt _ _ ⟨w.heap.size,0,none⟩ (by simp;omega),World.cell?_alloc_lt _ _ ⟨w.heap.size,0,none⟩ (by simp;omega),World.cell?_alloc_lt _ _ ⟨w.heap.size,0,none⟩ XQ,World.cell?_alloc_at _ _ _ _ rfl];rfl
  ·exact((((((Below.refl _ w).alloc (QP _) _).alloc XQ _).alloc (by simp;omega) _).alloc (by simp;omega) _).alloc (by simp;omega) _).setCell XQ _)
 clear I f
 go_enter func23,ntmps23
 go_wp2_with (go_at_call 61;refine G.mono ?_;rintro e w' ⟨rfl,L,hb⟩)
 go_ret
 exact⟨rfl,hb⟩
def aa:Model UU
 |[.raw (.iface 141 (.agg ⟨[.int .i64 n]⟩))]=>some ([],.int .i64 n)
 |_=>none
theorem aO3 {C:Cfg UU} (hE:C.E=EE) (I:aE C) (G:C.P=prog) (L:∀w,C.inv w->inv1 w):aE (C.add 23 aa):=by
 refine I.put ⟨fun f w=>by rw[G];exact lE (fn:=f23) func23 KA rfl f w,?_⟩;intro N w f xs V r u S j hm O;unfold aa at hm;split at hm
 ·rename_i n;cases hm;obtain⟨a,rfl,J⟩:=Cm j;rw[G];cases J;refine(aZK n w (L w u).1.2).mono ?_
  rintro e w' ⟨rfl,hb⟩
  exact⟨_,rfl,jT.of rfl rfl (.int _ _),hb⟩
 ·cases hm
def Z8:Model UU
 |[]=>some ([],.frz .D)
 |_=>none
theorem aO1 {C:Cfg UU} (hE:C.E=EE) (J:aE C) (G:C.P=prog):aE (C.add 26 Z8):=by
 refine J.put ⟨fun f w=>by rw[G];exact lE (fn:=f26) func26 KA rfl f w,?_⟩;intro N w f xs S r I L j hm O;unfold Z8 at hm;split at hm
 ·cases hm;have:f=#[]:=Array.eq_empty_of_size_eq_zero j.1;subst this;rw[G,hE];refine(aY9 w).mono ?_
  rintro e w' ⟨rfl,rfl⟩
  refine⟨_,rfl,jT.of rfl rfl (Uj .D ?_),aVi w _⟩;have u:∀i,i<4->fF N (gr w [M (lD (.map (some (w.heap.size+1))) (.map (some (w.heap.size+2))) (.map (some (w.heap.size+3)))),M (strs kW),M (strs kV),M (strs Ek)]) (w.heap.size+i):=fun i hi=>by
   refine⟨?_,fun h=>by have:=L _ h;omega⟩;show _<(w.heap++_).size;simp;omega
  exact⟨_,_,_,⟨_,rfl,u 1 KI,Ov w _ 1⟩,⟨_,rfl,u 2 KI,Ov w _ 2⟩,⟨_,rfl,u 3 KI,Ov w _ 3⟩,⟨_,rfl,u 0 KI,Ov w _ 0⟩⟩
 ·cases hm
def Eb:Cfg UU:=((((aK0.add 62 ag).add 25 ah).add 23 aa).add 26 Z8).Cq 63 kk
theorem aNo:aE Eb:=by
 have G:=aO6 rfl aOS rfl;have u:=aO7 rfl G rfl;have j:=aO3 rfl u rfl fun _ h=>h
 have f:=aO1 rfl j rfl;exact f.Lo fun w0 _=>aXf rfl rfl w0
def dz (f:FuncId):Option (Func×Code):=cond (Nat.beq f 22) (some (f22,bo f22)) none
theorem aVL (f:FuncId) (fn:Func) (c:Code) (h:dz f=some (fn,c)):prog.funcs[f]?=some fn/\fn.body=some c/\∀(args:Array Value) (w:World),(callFunc f args).run prog w=.ok (.enter f args) w:=by
 unfold dz at h;obtain⟨hf,h⟩:=cC h;obtain rfl:=QQ hf;cases h;exact⟨func22,KA,fun args w=>lE (fn:=f22) func22 KA rfl args w⟩
def wE (C:Cfg UU) (j:C.P=prog:=by rfl):Cfg UU:={C with inl:=dz,inlOK:=fun f fn c h=>by rw[j];exact aVL f fn c h,dep:=1}
theorem bB6 {C:Cfg UU} (u:C.P=prog) (O:aE C) (j:C.P.follows .mixedOrders=true) {f:FuncId} {m:Model UU} {fn:Func} {c:Code} (hf:C.P.funcs[f]?=some fn) (S:(fn.name== "runtime.NumGoroutine")=false)
  (hb:fn.body=some c) (L:∀xs I r,m xs=some (I,r)->dZ I->(Nat.ble xs.length fn.ntmps&&Nat.ble fn.ntmps 1000000)=true/\∃M fuel V,tE (exec (wE C u) fn.ntmps M fuel 0 c (gK xs) (bN (wE C u) V fn fun J=>J=r))):aE (C.add f m):=by
 have G:aE (wE C u):=O;have:=aE.Ra (C:=wE C u) G j hf S hb L;exact this
def aXz (F:Nat):=cX (aU Io F 0 Eb) Eb f24.ntmps Io F
def aPZ (F:Nat):=cA (aU Io F 0 Eb) Eb f24.ntmps Io F
abbrev aIo:=Int->Int->List Seg->List Seg->Prop
def bh (k:ASt UU->Prop):aIo:=(fun j f u G=>k ⟨tmL [(4,.osl 122 0),(13,.osl 121 0),(14,.i j),(15,.i f)],obL [(121,.row .seg 0 u),(122,.row .seg 0 G)]⟩)
def aZn:=(cL (cB (cS (cF (cS4 (bo f24))))))
def F1 (F:Nat) (K:zK) (n r:Nat):aIo:=bh fun s=>iter (aXz F 0 aZn) (Io 0 0) n r s K
def aDq (F:Nat) (Post:aC UU->Prop):zK:=bW 0 (aPZ F 0 (cS4 (cS (bo f24))) (bN Eb true f24 Post))
theorem aCE (F:Nat) (K:zK):∀n r,F1 F K n r=o9 F (bh (K (.exit 0))) n
 |0,_=>KA
 |n+1,r=>QG (b:=Ym (F1 F K n (r+1)) (bh (K (.exit 0)))) KA (by rewrite[aCE F K n (r+1)];kernel_rfl)
theorem aSV (F:Nat) (Post:aC UU->Prop):F1 F (aDq F Post) F 0=yr F (fun f=>Post (.new .seg f)):=
 (aCE F _ F 0).trans KA
def aAO:Model UU
 |[.sl .seg a0]=>some ([R3 a0],.new .seg (nD a0))
 |_=>none
def Dl:Cfg UU:=Eb.add 24 aAO
theorem aMr:aE Dl:=dN aNo mixed func24 KA KA fun xs G r h j=>by
 unfold aAO at h;split at h
 ·rename_i a0;cases h;obtain⟨F,hF⟩:=aRQ a0 j;exact⟨KA,Io,F,true,fS fun Post u=>fT (QG (b:=aFc a0 (fun f=>Post (.new .seg f)) (F1 F (aDq F Post) F 0)) KA (by rewrite[aSV F Post];kernel_rfl)) (hF (fun f=>Post (.new .seg f)) u)⟩
 ·cases h
def aYB (F:Nat):=cX (aU Iq F 1 (wE Dl)) (wE Dl) Tryz.f7.ntmps Iq F
def aP1 (F:Nat):=cA (aU Iq F 1 (wE Dl)) (wE Dl) Tryz.f7.ntmps Iq F
abbrev aIq:=Int->List Opn->Int->Int->ByteArray->ByteArray->Int->Int->Int->Int->List aA->List aA->Int->Int->List aA->List Seg->Prop
def Ni (k:ASt UU->Prop):aIq:=(fun G u j f L O S V iU iT gM Z I J jA iJ=>k ⟨tmL [(4,.ptr 4 0),(5,.i G),(7,.ptr 23 0),(24,.sl .op u),(25,.i j),(26,.i f)],obL [(50,.row .rect 0 jA),(51,.row .seg 0 iJ),(4,.cells [.nils,.nils]),(23,.cells [.str L,.str O,.i S,.i V,.i iU,.i iT,.sl .rect gM,.sl .rect Z,.i I,.i J,.osl 51 0,.osl 50 0])]⟩)
def aZp:=(cL (cB (cS (cF (cS4 (bo Tryz.f7))))))
def F3 (F:Nat) (K:zK) (n r:Nat):aIq:=Ni fun s=>iter (aYB F 0 aZp) (Iq 0 0) n r s K
def aDs (F:Nat) (Post:aC UU->Prop):zK:=bW 0 (aP1 F 0 (cS4 (cS (bo Tryz.f7))) (bN (wE Dl) true Tryz.f7 Post))
theorem aCG (F:Nat) (K:zK):∀n r,F3 F K n r=Jv F (Ni (K .ret)) (Ni (K (.exit 0))) n
 |0,_=>KA
 |n+1,r=>QG (b:=Yn (F3 F K n (r+1)) (Ni (K .ret)) (Ni (K (.exit 0)))) KA (by rewrite[aCG F K n (r+1)];kernel_rfl)
theorem aSX (F:Nat) (Post:aC UU->Prop):F3 F (aDs F Post) F 0=yu F (fun Lj Li f=>Post (.tup [.agg [.new .seg Lj,.new .rect Li],.i f])):=
 (aCG F _ F 0).trans KA
def aAQ:Model UU
 |[.agg [.str O,.str L,.int .i64 J,.int .i64 I,.int .i64 G,.int .i64 u,.sl .rect j,.sl .rect f],.sl .op S]=>some ([Lt O L J I G u j f S],.tup [.agg [.new .seg ((iH O L J I G u j f S).1),.new .rect ((iH O L J I G u j f S).2.1)],.i ((iH O L J I G u j f S).2.2)])
 |_=>none
def aJ6:Cfg UU:=Dl.add 7 aAQ
theorem aMt:aE aJ6:=(bB6 rfl aMr) mixed (c:=bo Tryz.f7) func7 KA KA fun xs cs r h Z=>by
 unfold aAQ at h;split at h
 ·rename_i S O L J I G u j V;cases h;obtain⟨F,hF⟩:=aRS S O L J I G u j V Z;exact⟨KA,Iq,F,true,fS fun Post hP=>fT (QG (b:=gd S O L J I G u j V (fun Lj Li f=>Post (.tup [.agg [.new .seg Lj,.new .rect Li],.i f])) (F3 F (aDs F Post) F 0)) KA (by rewrite[aSX F Post];kernel_rfl)) (hF (fun Lj Li f=>Post (.tup [.agg [.new .seg Lj,.new .rect Li],.i f])) hP)⟩
 ·cases h
def aAf:Model UU
 |[.agg [.int .i64 f,.int .i64 L,.int .i64 O,.int .i64 I,.int .i64 J,.int .i64 j],.agg [.int .i64 u,.int .i64 G]]=>some ([vQ f L O I J j u G],.sl .int (tN f L O I J j u G))
 |_=>none
def aJl:Cfg UU:=aJ6.add 66 aAf
theorem aNV:aE aJl:=dN aMt mixed func66 KA KA fun xs cs r h Z=>by
 unfold aAf at h;split at h
 ·rename_i f G I J L O j u;cases h;refine⟨KA,M0,0,false,⟨iY (fun Q:(zzI)->Prop=>cond (f==3) ((((([aB (G-j),aB (I-u)]).length+([J,L]).length)*8<=140737488355328)/\Q (([aB (G-j),aB (I-u)])++([J,L])))) (Q ([aB (G-j),aB (I-u)]))) (fun Q=>Q (tN f G I J L O j u)) (fun V=>(.sl .int V:aC UU)=.sl .int (tN f G I J L O j u)) KA (fun Q h=>?_) rfl⟩⟩
  try dsimp only at h ⊢
  unfold tN at h;have hp:vQ f G I J L O j u:=Z;unfold vQ at hp;cases S:(f==3)
  ·try simp only[S,QK] at h hp ⊢
   exact h
  ·try simp only[S,QY] at h hp ⊢
   have Bq:=hp;refine⟨Bq,?_⟩;exact h
 ·cases h
def aAm:Model UU
 |[.agg [.int .i64 f,.int .i64 L,.int .i64 O,.int .i64 I,.int .i64 J,.int .i64 j],.agg [.int .i64 u,.int .i64 G]]=>some ([Ly f L O I J j u G],.sl .int (Fe f L O I J j u G))
 |_=>none
def rR:Cfg UU:=aJl.add 65 aAm
theorem aN2:aE rR:=dN aNV mixed func65 KA KA fun xs cs r h V=>by
 unfold aAm at h;split at h
 ·rename_i f I J u G j L O;cases h;refine⟨KA,M0,0,false,⟨iY (fun Q:(zzI)->Prop=>((vQ f I J u G j 0 0)/\Q (tN f I J u G j 0 0))) (fun Q=>Q (Fe f I J u G j L O)) (fun S=>(.sl .int S:aC UU)=.sl .int (Fe f I J u G j L O)) KA (fun Q h=>?_) rfl⟩⟩
  try dsimp only at h ⊢
  unfold Fe at h;have hp:Ly f I J u G j L O:=V;unfold Ly at hp;have Z:=hp;refine⟨Z,?_⟩;exact h
 ·cases h
def kf (F:Nat):=cX (aU c8 F 0 rR) rR Tryz.f8.ntmps c8 F
def Q5 (F:Nat):=cA (aU c8 F 0 rR) rR Tryz.f8.ntmps c8 F
abbrev aJR:=ByteArray->Int->List Opn->Int->Int->ByteArray->Int->Int->Prop
def Bi (k:ASt UU->Prop):aJR:=(fun I G u j f J O L=>k ⟨tmL [(4,.str I),(5,.i G),(6,.ptr 6 0),(8,.ptr 8 0),(9,.ptr 9 0),(28,.sl .op u),(29,.i j),(30,.i f)],obL [(6,.cells [.frz .W1,.fn 65 [],.fn 67 []]),(8,.opq .bld J),(9,.cells [.i O,.i L])]⟩)
abbrev aJQ:=ByteArray->Int->List Opn->Int->Int->zzI->Int->Int->ByteArray->Int->Int->Int->Int->Int->Int->Int->Int->Prop
def dh (k:ASt UU->Prop):aJQ:=(fun O L J I G u j f S aG aI Z iD iC iB iA V=>k ⟨tmL [(4,.str O),(5,.i L),(6,.ptr 6 0),(8,.ptr 8 0),(9,.ptr 9 0),(11,.ptr 11 0),(28,.sl .op J),(29,.i I),(30,.i G),(60,.sl .int u),(61,.i j),(62,.i f)],obL [(6,.cells [.frz .W1,.fn 65 [],.fn 67 []]),(8,.opq .bld S),(9,.cells [.i aG,.i aI]),(11,.cells [.i Z,.i iD,.i iC,.i iB,.i iA,.i V])]⟩)
def Pv:=(cL (cB (cS (cF (cS4 (cS (cS (bo Tryz.f8))))))))
def bAW:=(cL (cB (cS (cF (cS4 (cB (cF (cS (cS Pv)))))))))
def Qu (F:Nat) (K:zK) (n r:Nat):aJR:=Bi fun s=>iter (kf F 0 Pv) (c8 0 0) n r s K
def I7 (F:Nat) (K:zK) (n r:Nat):aJQ:=dh fun s=>iter (kf F 2 bAW) (c8 0 2) n r s K
def aE8 (F:Nat) (Post:aC UU->Prop):zK:=bW 0 (Q5 F 0 (cS4 (cS (cS (cS (bo Tryz.f8))))) (bN rR false Tryz.f8 Post))
def aE7 (F n r:Nat) (K:zK):zK:=bW 2 (Q5 F 1 (cS4 (cS (cB (cF (cS (cS Pv)))))) (bW 1 (Q5 F 0 (cS (cS (cS Pv))) (lT (kf F 0 Pv) (c8 0 0) n r K))))
theorem aCn (F:Nat) (K:zK):∀n r,I7 F K n r=Sy F (dh (K (.exit 2))) n
 |0,_=>KA
 |n+1,r=>QG (b:=aGg (I7 F K n (r+1)) (dh (K (.exit 2)))) KA (by rewrite[aCn F K n (r+1)];kernel_rfl)
theorem aTF (F n r:Nat) (K:zK):I7 F (aE7 F n r K) F 0=Y5 F (Qu F K n (r+1)) (Bi (K .ret)) (Bi (K (.exit 0))):=
 (aCn F _ F 0).trans KA
theorem aCo (F:Nat) (K:zK):∀n r,Qu F K n r=xH F (Bi (K .ret)) (Bi (K (.exit 0))) n
 |0,_=>KA
 |n+1,r=>QG (b:=(fun I G u j f J O L=>aGh (Qu F K n (r+1)) (Bi (K .ret)) (Bi (K (.exit 0))) I G u j f J O L (I7 F (aE7 F n r K) F 0))) KA (by rewrite[aTF F n r K,aCo F K n (r+1)];kernel_rfl)
theorem aTG (F:Nat) (Post:aC UU->Prop):Qu F (aE8 F Post) F 0=zh F (fun j f=>Post (.tup [.str j,.i f])):=
 (aCo F _ F 0).trans KA
def ke (F:Nat):=cX (aU b7 F 0 rR) rR Tryz.f8.ntmps b7 F
def Q4 (F:Nat):=cA (aU b7 F 0 rR) rR Tryz.f8.ntmps b7 F
abbrev aJP:=ByteArray->Int->List Opn->Int->Int->ByteArray->Int->Int->Prop
def Bh (k:ASt UU->Prop):aJP:=(fun I G u j f J O L=>k ⟨tmL [(4,.str I),(5,.i G),(6,.ptr 6 0),(8,.ptr 8 0),(9,.ptr 9 0),(28,.sl .op u),(29,.i j),(30,.i f)],obL [(6,.cells [.frz .W2,.fn 66 [],.fn 68 []]),(8,.opq .bld J),(9,.cells [.i O,.i L])]⟩)
abbrev aJO:=ByteArray->Int->List Opn->Int->Int->zzI->Int->Int->ByteArray->Int->Int->Int->Int->Int->Int->Int->Int->Prop
def df (k:ASt UU->Prop):aJO:=(fun O L J I G u j f S aG aI Z iD iC iB iA V=>k ⟨tmL [(4,.str O),(5,.i L),(6,.ptr 6 0),(8,.ptr 8 0),(9,.ptr 9 0),(11,.ptr 11 0),(28,.sl .op J),(29,.i I),(30,.i G),(60,.sl .int u),(61,.i j),(62,.i f)],obL [(6,.cells [.frz .W2,.fn 66 [],.fn 68 []]),(8,.opq .bld S),(9,.cells [.i aG,.i aI]),(11,.cells [.i Z,.i iD,.i iC,.i iB,.i iA,.i V])]⟩)
def Pu:=(cL (cB (cS (cF (cS4 (cS (cS (bo Tryz.f8))))))))
def bAV:=(cL (cB (cS (cF (cS4 (cB (cF (cS (cS Pu)))))))))
def Qt (F:Nat) (K:zK) (n r:Nat):aJP:=Bh fun s=>iter (ke F 0 Pu) (b7 0 0) n r s K
def I6 (F:Nat) (K:zK) (n r:Nat):aJO:=df fun s=>iter (ke F 2 bAV) (b7 0 2) n r s K
def aE6 (F:Nat) (Post:aC UU->Prop):zK:=bW 0 (Q4 F 0 (cS4 (cS (cS (cS (bo Tryz.f8))))) (bN rR false Tryz.f8 Post))
def aE5 (F n r:Nat) (K:zK):zK:=bW 2 (Q4 F 1 (cS4 (cS (cB (cF (cS (cS Pu)))))) (bW 1 (Q4 F 0 (cS (cS (cS Pu))) (lT (ke F 0 Pu) (b7 0 0) n r K))))
theorem aCl (F:Nat) (K:zK):∀n r,I6 F K n r=Sx F (df (K (.exit 2))) n
 |0,_=>KA
 |n+1,r=>QG (b:=aGe (I6 F K n (r+1)) (df (K (.exit 2)))) KA (by rewrite[aCl F K n (r+1)];kernel_rfl)
theorem aTD (F n r:Nat) (K:zK):I6 F (aE5 F n r K) F 0=Y4 F (Qt F K n (r+1)) (Bh (K .ret)) (Bh (K (.exit 0))):=
 (aCl F _ F 0).trans KA
theorem aCm (F:Nat) (K:zK):∀n r,Qt F K n r=xG F (Bh (K .ret)) (Bh (K (.exit 0))) n
 |0,_=>KA
 |n+1,r=>QG (b:=(fun I G u j f J O L=>aGf (Qt F K n (r+1)) (Bh (K .ret)) (Bh (K (.exit 0))) I G u j f J O L (I6 F (aE5 F n r K) F 0))) KA (by rewrite[aTD F n r K,aCm F K n (r+1)];kernel_rfl)
theorem aTE (F:Nat) (Post:aC UU->Prop):Qt F (aE6 F Post) F 0=zg F (fun j f=>Post (.tup [.str j,.i f])):=
 (aCm F _ F 0).trans KA
def Xb:Model UU
 |[.int .i64 1,.sl .op ops]=>some ([R9 ops],.tup [.str ((qW ops).1),.i ((qW ops).2)])
 |[.int .i64 2,.sl .op ops]=>some ([Vf ops],.tup [.str ((pD ops).1),.i ((pD ops).2)])
 |_=>none
def aKO:Cfg UU:=rR.add 8 Xb
theorem aNv:aE aKO:=dN aN2 mixed func8 KA KA fun xs I r h G=>by
 unfold Xb at h;split at h
 ·rename_i ops;cases h;obtain⟨F,hF⟩:=aRe ops G;exact⟨KA,c8,F,false,fS fun Post u=>fT (QG (b:=jf ops (fun j f=>Post (.tup [.str j,.i f])) (Qu F (aE8 F Post) F 0)) KA (by rewrite[aTG F Post];kernel_rfl)) (hF (fun j f=>Post (.tup [.str j,.i f])) u)⟩
 ·rename_i ops;cases h;obtain⟨F,hF⟩:=aRd ops G;exact⟨KA,b7,F,false,fS fun Post u=>fT (QG (b:=je ops (fun j f=>Post (.tup [.str j,.i f])) (Qt F (aE6 F Post) F 0)) KA (by rewrite[aTE F Post];kernel_rfl)) (hF (fun j f=>Post (.tup [.str j,.i f])) u)⟩
 ·cases h
def aAE:Model UU
 |[]=>some ([],.bool Tj)
 |_=>none
def aJ2:Cfg UU:=aKO.add 6 aAE
theorem aMj:aE aJ2:=dN aNv mixed func6 KA KA fun xs G r h u=>by
 unfold aAE at h;split at h
 ·cases h;obtain⟨F,hF⟩:=aRG ;exact⟨KA,bBo,F,false,fS fun Post j=>fT KA (hF (fun f=>Post (.bool f)) j)⟩
 ·cases h
def aA9:Model UU
 |[.agg [.str qf,.str Z,.int .i64 V,.int .i64 S,.int .i64 O,.int .i64 L,.sl .rect J,.sl .rect I],.agg [.int .i64 G,.int .i64 u,.int .i64 j,.int .i64 f]]=>some ([],.bool (Fb qf Z V S O L J I G u j f))
 |_=>none
def aJg:Cfg UU:=aJ2.add 36 aA9
theorem aNP:aE aJg:=dN aMj mixed func36 KA KA fun xs cs r h hc=>by
 unfold aA9 at h;split at h
 ·rename_i qf Z V S O L J I G u j f;cases h;refine⟨KA,M0,0,false,⟨of_eq (q:=(fun Q:Bool->Prop=>cond ((!(qA qf Z V S O L J I G u))||(!(qA qf Z V S O L J I j f))) (Q false) (Q (((u==f)&&(decide (G<j)))||((G==j)&&(decide (u<f)))))) fun r0=>(.bool r0:aC UU)=.bool (Fb qf Z V S O L J I G u j f)) KA ?_⟩⟩;unfold Fb;cases (((!(qA qf Z V S O L J I G u))||(!(qA qf Z V S O L J I j f))))<;>rfl
 ·cases h
def aAu:Model UU
 |[.int .u64 a0,.int .u64 f]=>some ([Lz a0 f],.tup [.int .u64 ((qV a0 f).1),.int .u64 ((qV a0 f).2)])
 |_=>none
def aJy:Cfg UU:=aJg.add 168 aAu
theorem aNc:aE aJy:=dN aNP mixed func168 KA KA fun xs O r h I=>by
 unfold aAu at h;split at h
 ·rename_i a0 f;cases h;refine⟨KA,M0,0,false,⟨iY (fun Q:Int->Int->Prop=>((0<=(32:Int))/\((0<=(32:Int))/\((0<=(32:Int))/\((0<=(32:Int))/\((0<=(32:Int))/\Q (IntKind.u64.wrap ((IntKind.u64.wrap ((IntKind.u64.wrap ((Int.fdiv a0 (2^(min 32 64)))*(Int.fdiv f (2^(min 32 64)))))+(Int.fdiv (IntKind.u64.wrap ((IntKind.u64.wrap ((Int.fdiv a0 (2^(min 32 64)))*(kO .u64 f 4294967295)))+(Int.fdiv (IntKind.u64.wrap ((kO .u64 a0 4294967295)*(kO .u64 f 4294967295))) (2^(min 32 64))))) (2^(min 32 64)))))+(Int.fdiv (IntKind.u64.wrap ((kO .u64 (IntKind.u64.wrap ((IntKind.u64.wrap ((Int.fdiv a0 (2^(min 32 64)))*(kO .u64 f 4294967295)))+(Int.fdiv (IntKind.u64.wrap ((kO .u64 a0 4294967295)*(kO .u64 f 4294967295))) (2^(min 32 64))))) 4294967295)+(IntKind.u64.wrap ((kO .u64 a0 4294967295)*(Int.fdiv f (2^(min 32 64))))))) (2^(min 32 64))))) (IntKind.u64.wrap (a0*f)))))))) (fun Q=>Q ((qV a0 f).1) ((qV a0 f).2)) (fun G u=>(.tup [.int .u64 G,.int .u64 u]:aC UU)=.tup [.int .u64 ((qV a0 f).1),.int .u64 ((qV a0 f).2)]) KA (fun Q h=>?_) rfl⟩⟩
  try dsimp only at h ⊢
  unfold qV at h;have hp:Lz a0 f:=I;unfold Lz at hp;obtain⟨J,hp⟩:=hp;refine⟨J,?_⟩;obtain⟨Bq,hp⟩:=hp;refine⟨Bq,?_⟩;obtain⟨j,hp⟩:=hp;refine⟨j,?_⟩;obtain⟨Ot,hp⟩:=hp;refine⟨Ot,?_⟩;have L:=hp;refine⟨L,?_⟩;exact h
 ·cases h
def aAv:Model UU
 |[.int .u64 a0,.int .u64 f]=>some ([Uz a0 f],.tup [.int .u64 ((tQ a0 f).1),.int .u64 ((tQ a0 f).2)])
 |_=>none
def aJz:Cfg UU:=aJy.add 122 aAv
theorem aNd:aE aJz:=dN aNc mixed func122 KA KA fun xs J r h G=>by
 unfold aAv at h;split at h
 ·rename_i a0 f;cases h;refine⟨KA,M0,0,false,⟨iY (fun Q:Int->Int->Prop=>((Lz a0 f)/\Q ((qV a0 f).1) ((qV a0 f).2))) (fun Q=>Q ((tQ a0 f).1) ((tQ a0 f).2)) (fun u j=>(.tup [.int .u64 u,.int .u64 j]:aC UU)=.tup [.int .u64 ((tQ a0 f).1),.int .u64 ((tQ a0 f).2)]) KA (fun Q h=>?_) rfl⟩⟩
  try dsimp only at h ⊢
  unfold tQ at h;have hp:Uz a0 f:=G;unfold Uz at hp;have I:=hp;refine⟨I,?_⟩;exact h
 ·cases h
def aB5:Model UU
 |[.int .i64 a0]=>some ([],.bool (Ty a0))
 |_=>none
def aK1:Cfg UU:=aJz.add 153 aB5
theorem aOT:aE aK1:=tin aNd mixed func153 KA KA false fun xs f r h=>by
 unfold aB5 at h;split at h
 ·cases h;exact⟨KA,KA⟩
 ·cases h
def aB6:Model UU
 |[.int .i64 a0,.int .i64 f]=>some ([],.bool (N3 a0 f))
 |_=>none
def aK2:Cfg UU:=aK1.add 123 aB6
theorem aOU:aE aK2:=tin aOT mixed func123 KA KA false fun xs f r h=>by
 unfold aB6 at h;split at h
 ·cases h;exact⟨KA,KA⟩
 ·cases h
def aA6:Model UU
 |[.int .i64 a0]=>some ([],.bool (To a0))
 |_=>none
def Du:Cfg UU:=aK2.add 124 aA6
theorem aNK:aE Du:=tin aOU mixed func124 KA KA false fun xs f r h=>by
 unfold aA6 at h;split at h
 ·cases h;exact⟨KA,KA⟩
 ·cases h
def aYE (F:Nat):=cX (aU Is F 0 Du) Du f79.ntmps Is F
def aP3 (F:Nat):=cA (aU Is F 0 Du) Du f79.ntmps Is F
def ca (k:ASt UU->Prop):Int->zzI->Prop:=(fun f j=>k ⟨tmL [(7,.osl 48 0),(8,.i f)],obL [(48,.row .int 0 j)]⟩)
def bAE:=(cL (cB (cF (cS4 (cS (cS (bo f79)))))))
def G7 (F:Nat) (K:zK) (n r:Nat):Int->zzI->Prop:=ca fun s=>iter (aYE F 0 bAE) (Is 0 0) n r s K
def aEL (F:Nat) (Post:aC UU->Prop):zK:=bW 0 (aP3 F 0 (cS4 (cS (cS (cS (bo f79))))) (bN Du true f79 Post))
theorem aC0 (F:Nat) (K:zK):∀n r,G7 F K n r=Kf F (ca (K (.exit 0))) n
 |0,_=>KA
 |n+1,r=>QG (b:=Yx (G7 F K n (r+1)) (ca (K (.exit 0)))) KA (by rewrite[aC0 F K n (r+1)];kernel_rfl)
theorem aSh (F:Nat) (Post:aC UU->Prop):G7 F (aEL F Post) F 0=zd F (fun f=>Post (.new .int f)):=
 (aC0 F _ F 0).trans KA
def aAX:Model UU
 |[.sl .int a0,.int .i64 f]=>some ([R7 a0 f],.new .int (Kr a0 f))
 |_=>none
def Dq:Cfg UU:=Du.add 79 aAX
theorem aNA:aE Dq:=dN aNK mixed func79 KA KA fun xs I r h u=>by
 unfold aAX at h;split at h
 ·rename_i a0 j;cases h;obtain⟨F,hF⟩:=aRZ a0 j u;exact⟨KA,Is,F,true,fS fun Post G=>fT (QG (b:=Yy a0 j (fun f=>Post (.new .int f)) (G7 F (aEL F Post) F 0)) KA (by rewrite[aSh F Post];kernel_rfl)) (hF (fun f=>Post (.new .int f)) G)⟩
 ·cases h
def aYF (F:Nat):=cX (aU It F 0 Dq) Dq f80.ntmps It F
def aP4 (F:Nat):=cA (aU It F 0 Dq) Dq f80.ntmps It F
abbrev aJE:=zzI->Int->Int->Int->Int->Prop
def cj (k:ASt UU->Prop):aJE:=(fun I G u j f=>k ⟨tmL [(0,.sl .int I),(1,.i G),(6,.i u),(7,.i j),(8,.i f)],obL []⟩)
def bAG:=(cL (cB (cF (cS (cS (cS (bo f80)))))))
def G9 (F:Nat) (K:zK) (n r:Nat):aJE:=cj fun s=>iter (aYF F 0 bAG) (It 0 0) n r s K
def aEO (F:Nat) (Post:aC UU->Prop):zK:=bW 0 (aP4 F 0 (cS4 (bo f80)) (bN Dq false f80 Post))
theorem aC3 (F:Nat) (K:zK):∀n r,G9 F K n r=Sg F (cj (K (.exit 0))) n
 |0,_=>KA
 |n+1,r=>QG (b:=Yz (G9 F K n (r+1)) (cj (K (.exit 0)))) KA (by rewrite[aC3 F K n (r+1)];kernel_rfl)
theorem aSk (F:Nat) (Post:aC UU->Prop):G9 F (aEO F Post) F 0=ze F (fun j f=>Post (.tup [.i j,.bool f])):=
 (aC3 F _ F 0).trans KA
def aAZ:Model UU
 |[.sl .int a0,.int .i64 f]=>some ([Uu a0 f],.tup [.i ((x9 a0 f).1),.bool ((x9 a0 f).2)])
 |_=>none
def aJc:Cfg UU:=Dq.add 80 aAZ
theorem aNC:aE aJc:=dN aNA mixed func80 KA KA fun xs J r h G=>by
 unfold aAZ at h;split at h
 ·rename_i a0 u;cases h;obtain⟨F,hF⟩:=aR1 a0 u G;exact⟨KA,It,F,false,fS fun Post I=>fT (QG (b:=aGJ a0 u (fun j f=>Post (.tup [.i j,.bool f])) (G9 F (aEO F Post) F 0)) KA (by rewrite[aSk F Post];kernel_rfl)) (hF (fun j f=>Post (.tup [.i j,.bool f])) I)⟩
 ·cases h
end
end Go.Proofs.YtgcpildegdgekaaGreatDoor
namespace Go.Proofs.YtgcpildegdgekaaGreatDoor
open Go.Proofs.Tryz
open Go.Shelf Go.RowKit Go.Lib Go.Sort
theorem aQ8 {w:World} {os:Array Obj} {base:Nat} {e:TypeId} {u:Value} {n:Nat} {cs:List Value} (h:w.ownsRow base e 1 u n cs):(grow w os).ownsRow base e 1 u n cs:=by
 refine⟨h.1,?_⟩;rcases h.2 with I|⟨g,f,cur,G,j,J,rest⟩
 ·grind
 ·exact .inr ⟨g,f,cur,G,j,by grind [heap_grow_old],rest⟩
theorem bAq {B:Nat} {w0 w:World} {os:Array Obj} (h:Below B w0 w) (j:B<=w.heap.size):Below B w0 (grow w os):=
 ⟨h.os,h.tape,h.output,by have:=h.size;rw[size_grow];omega,fun k f=>by rw[heap_grow_old _ _ KI];exact h.block k f⟩
set_option maxHeartbeats 2000000 in
theorem aQN (p:Option Addr) (c:Nat) (w:World):
  Calls prog 78 #[.slice p 0 c] w fun e w'=>e=.returned (.slice p 0 c)/\w'=w:=by
 have f:=fun q c W=>slices_Sort_int_none q c W
 have hC:=fun q c W=>slices_Compact_int_empty q c W
 go_enter func78,ntmps78
 go_wp2_with (first
  | (go_at_call 120;refine(f _ _ _).mono ?_;rintro e w' ⟨rfl,rfl⟩)
  | (go_at_call 121;refine(hC _ _ _).mono ?_;rintro e w' ⟨rfl,rfl⟩))
 go_ret
 simp_all
set_option maxHeartbeats 2000000 in
theorem aQM (g cap:Nat) (l:zzI) (w:World) (V:l.length<=1000) (J:Holds (Value.int .i64) w g 0 l.toArray) (h3:g<w.heap.size) (h4:l.length<=cap):
  Calls prog 78 #[.slice (some ⟨g,0,none⟩) l.length cap] w fun e w'=>e=.returned (.slice (some ⟨g,0,none⟩) (cY l).length cap)/\
   ∃j f q,w'=putRow (Value.int .i64) (Sort.ahead (grow (putRow (Value.int .i64) (Sort.ahead w j) g 0 (l.mergeSort fun x y=>decide (x<=y)).toArray) f) q) g 0 (cY l++List.replicate (l.length-(cY l).length) 0).toArray:=by
 have I:Calls prog 120 #[.slice (some ⟨g,0,none⟩) l.length cap] w fun e w'=>e=.returned (.tuple #[])/\∃n f,w'=grow (putRow (Value.int .i64) (Sort.ahead w n) g 0 (l.mergeSort fun x y=>decide (x<=y)).toArray) f:=
  slices_Sort_int g 0 cap l w J h3 KI
 have u:(l.mergeSort fun x y=>decide (x<=y)).length=l.length:=List.length_mergeSort ..;have G:∀(j:Nat) (f:Array Obj),Calls prog 121 #[.slice (some ⟨g,0,none⟩) l.length cap] (grow (putRow (Value.int .i64) (Sort.ahead w j) g 0 (l.mergeSort fun x y=>decide (x<=y)).toArray) f) fun e w'=>e=.returned (.slice (some ⟨g,0,none⟩) (cY l).length cap)/\∃q,w'=putRow (Value.int .i64) (Sort.ahead (grow (putRow (Value.int .i64) (Sort.ahead w j) g 0 (l.mergeSort fun x y=>decide (x<=y)).toArray) f) q) g 0 (cY l++List.replicate (l.length-(cY l).length) 0).toArray:=fun j f=>by
  generalize Z:grow (putRow (Value.int .i64) (Sort.ahead w j) g 0 (l.mergeSort fun x y=>decide (x<=y)).toArray) f=W;have hH:Holds (Value.int .i64) W g 0 (l.mergeSort fun x y=>decide (x<=y)).toArray:=by
   rw[<- Z];refine holds_grow _ _ _ _ _ _ (by simp_all) ?_;exact holds_putRow _ _ _ _ l.toArray _ J XQ
  have:=slices_Compact_int g 0 cap (l.mergeSort fun x y=>decide (x<=y)) W hH KI KI;rw[u] at this;exact this
 generalize L:cY l=sc at G ⊢;generalize O:(l.mergeSort fun x y=>decide (x<=y))=ms at I G ⊢;clear L O u J h4;generalize S:l.length=n at I G ⊢;clear V S
 go_enter func78,ntmps78
 go_wp2_with (first
  | (go_at_call 120;refine I.mono ?_;rintro e w2 ⟨rfl,j,f,rfl⟩)
  | (go_at_call 121;refine(G _ _).mono ?_;rintro e w3 ⟨rfl,q,rfl⟩))
 go_ret
 exact⟨rfl,j,f,q,rfl⟩
end Go.Proofs.YtgcpildegdgekaaGreatDoor
namespace Go.Proofs.YtgcpildegdgekaaGreatDoor
open Go.Proofs.Tryz
open Go.RowKit Go.Vm
noncomputable section
def Zw (B:Nat):Jg UU
 |[.osl 0 g],.row .int f l=>cond (Nat.beq g f) (some ([l.length<=B],.osl 0 (g+1),.row .int (g+1) (cY l))) none
 |_,_=>none
open Go.Sort in
theorem aHV {C:Cfg UU} (hP:C.P=prog) (hE:C.E=EE) (w0:World) {f:Nat} (B:Nat) (hf:∀G w,(callFunc f G).run prog w=.ok (.enter f G) w)
  (hnone:∀(p:Option Addr) (c:Nat) (w:World),Calls prog f #[.slice p 0 c] w fun e w'=>e=.returned (.slice p 0 c)/\w'=w)
  (Z:∀(g cap:Nat) (l:zzI) (w:World),l.length<=B->Holds (Value.int .i64) w g 0 l.toArray->g<w.heap.size->l.length<=cap->Calls prog f #[.slice (some ⟨g,0,none⟩) l.length cap] w fun e w'=>e=.returned (.slice (some ⟨g,0,none⟩) (cY l).length cap)/\
   ∃n1 os q,w'=putRow (Value.int .i64) (Sort.ahead (grow (putRow (Value.int .i64) (Sort.ahead w n1) g 0 (l.mergeSort fun x y=>decide (x<=y)).toArray) os) q) g 0 (cY l++List.replicate (l.length-(cY l).length) 0).toArray):Di C f (Zw B) w0:=by
 refine⟨fun G w=>by grind,fun st ρ w G k0 xs ob ob' cs r hb hst S hsep hob hsz O oB hm hc oA hpr hown=>?_⟩;unfold Zw at hm;split at hm
 ·rename_i g g' l;have hm2:=cC hm;clear hm;obtain⟨hg,hm⟩:=hm2;obtain rfl:=QQ hg;cases hm;obtain rfl:0=k0:=by cases hown;rfl
  have h2:l.length<=B:=hc;rw[hE] at hob O ⊢;obtain⟨u,cells,hu,hup,hro,hcs⟩:=hob;have e0:=O 0 XQ;obtain⟨al⟩:=G
  match al,hsz with
  |[x],_=>
   simp at e0;obtain rfl:x=u:=by
    cases e0 with
    |osl _ _ u' hu' _=>
     grind
    |oslOld _ _ g2 u' v hu' hlt=>
     grind
   rw[hP];have hbase:w0.heap.size<=w.heap.size:=hb.size
   let ρ2:Own:=fun nm=>if nm=.ob 0 then none else ρ nm
   have fin:∀(w':World) (I:Value) (cs':List Value),w'.ownsRow w0.heap.size (UU.ety .int) (UU.size .int) I (cY l).length ((cY l).map (Value.int .i64))->(∀a,I≠ .pointer a)->(∀b,blk I=some b->blk x=some b)->Go.RowKit.Below w0.heap.size w w'->
     (∀b,b<w.heap.size->blk x≠some b->w'.heap[b]?=w.heap[b]?)->∃v ρ',Ending.returned I=.returned v/\(((aC.osl 0 (g+1):aC UU).yF=true->Rel EE w' cO (fun _=>False) (.osl 0 (g+1)) v)/\(Gc 0 (.osl 0 (g+1):aC UU) (.row .int (g+1) (cY l))=true->Rel EE w' ρ' (fun _=>False) (.osl 0 (g+1)) v))/\
   gF EE w' ρ' (fun b=>(st b\/w.heap.size<=b\/∃nm g u,ρ nm=some (g,u)/\blk u=some b)/\b<w'.heap.size/\∀nm g u,ρ' nm=some (g,u)->blk u≠some b) w0.heap.size 0 (.row .int (g+1) (cY l))/\
   (∀nm g' u,ρ' nm=some (g',u)->nm.id=0/\((aT.row .int (g+1) (cY l):aT UU).simple=true->nm=.ob 0))/\Chg (fun _=>False) (fun i=>i=0) w0.heap.size ρ ρ' w w':=by
    intro w' I cs' q1 qp q2 q3 q4;have er:dJ ρ (.ob 0) (g+1) I (.ob 0)=some (g+1,I):=by rfl
    refine⟨I,dJ ρ (.ob 0) (g+1) I,rfl,⟨(fun h=>by cases h),fun _=>.osl 0 (g+1) I er qp⟩,⟨I,_,er,qp,q1,fun i hi k hk=>?_⟩,fun nm q u hr=>?_,?_⟩
    ·have pN:k=0:=by
      have:k<1:=hk;omega
     subst pN;show Rel EE w' _ _ (.int .i64 (cY l)[i]) _;have:((cY l).map (Value.int .i64)).getD (i*UU.size .int+0) undef=.int .i64 (cY l)[i]:=by
      grind
     rw[this];exact .int _ _
    ·by_cases hn:nm=.ob 0
     ·grind
     ·have hr':ρ nm=some (q,u):=by
       grind [dJ]
      have:=(S nm q u hr').2 rfl;grind
    ·have only0:∀(nm:Name) q u,ρ nm=some (q,u)->nm=.ob 0/\(q,u)=(g,x):=fun nm q u hr=>by
      have e:=(S nm q u hr).2 rfl;grind
     refine⟨fun nm hn=>?_,fun nm q u hn hr=>?_,q3,fun b hb J=>q4 b hb (J (.ob 0) _ _ rfl hu),fun nm q u k hn h V=>?_,fun nm nm' q q' u u' k hn hn' h h' J V=>?_⟩
     ·grind [dJ]
     ·grind
     ·grind [dJ]
     grind [dJ]
   rcases hro.2 with ⟨rfl,hn⟩|⟨b,cap,cur,rfl,q1,q2,q3,q4,q5,q6⟩
   ·have wJ:l=[]:=List.eq_nil_of_length_eq_zero hn;subst wJ;refine(hnone none 0 w).mono ?_
    rintro e w' ⟨rfl,rfl⟩
    have e3:cY ([]:zzI)=[]:=List.eq_nil_of_length_eq_zero (Nat.le_zero.1 (Ey []));refine fin w' _ [] ?_ (fun a e=>by cases e) (fun b hb=>hb) (Go.RowKit.Below.refl _ _) (fun b hb _=>rfl);grind [World.ownsRow_nil]
   ·have V:b<w.heap.size:=(QD.1 q2).1;have L:UU.size .int=1:=rfl;rw[L,Nat.mul_one] at q6;have hcl:cells.length=l.length:=by grind
    have hcells:cells=l.map (Value.int .i64):=by
     refine List.ext_getElem (by grind) fun i h1 h2=>?_
     have hi:i<l.length:=KI;have:=hcs i hi 0 (by show 0<1;omega);rw[L,Nat.mul_one,JB] at this;have h9:Rel EE w ρ st (.int .i64 l[i]) (cells.getD i undef):=this;rw[List.getD_eq_getElem?_getD,JW h1,Option.getD_some] at h9;generalize hcv:cells[i]=cv at h9;cases h9;simp
    obtain⟨hH0,hcp⟩:Holds (Value.int .i64) w b 0 l.toArray/\l.length<=cap:=by
     refine⟨?_,q3⟩;intro j hj;have hj':j<l.length:=KI;refine⟨?_,by simp[World.frozen?,q2]⟩;have h6:(cur.toList.take l.length)[j]?=some (.int .i64 l[j]):=by
      grind
     grind [cell_of_row]
    refine(Z b cap l w h2 hH0 V hcp).mono ?_
    rintro e w' ⟨rfl,n1,os,q,rfl⟩
    have hle:=Ey l;have hro':w.ownsRow w0.heap.size 3 1 (.slice (some ⟨b,0,none⟩) l.length cap) l.length (l.map (Value.int .i64)):=by
     grind
    have s1:=Go.Lib.ownsRow_putRow (q:=n1) (k:=l.length) (ys:=l.mergeSort fun x y=>decide (x<=y)) hro' (List.length_mergeSort ..) (QP _);have s2:=aQ8 (os:=os) s1;have s3:=Go.Lib.ownsRow_putRow (q:=q) (k:=(cY l).length) (ys:=cY l++List.replicate (l.length-(cY l).length) 0) s2 (by grind) hle;rw[List.take_left] at s3;refine fin _ _ [] s3 (fun a e=>by cases e) (fun b' hb'=>hb') ?_ (fun b' hb' J=>?_)
    ·exact Go.Lib.below_putRow (bAq (Go.Lib.below_putRow (Go.RowKit.Below.refl _ _) q1) (by simp;omega)) q1
    ·have hne':b≠b':=fun e=>J (by rw[e];rfl)
     grind [putRow,mapBlock,Sort.ahead,heap_grow_old]
 grind
def dM:Cfg UU:=aJc.Cq 78 (Zw 1000)
theorem aNO:aE dM:=aNC.Lo fun w0 _=>aHV rfl rfl w0 1000 (lE (fn:=f78) func78 KA rfl) aQN aQM
def dv (f:FuncId):Option (Func×Code):=cond (Nat.beq f 37) (some (f37,bo f37)) (cond (Nat.beq f 38) (some (f38,bo f38)) (cond (Nat.beq f 81) (some (f81,bo f81)) (cond (Nat.beq f 125) (some (f125,bo f125)) none)))
theorem Po {α:Type} {b:Bool} {x y:Option α} {z:α} (h:cond b x y=some z):(b=true/\x=some z)\/y=some z:=by
 grind
theorem one {f:FuncId} {fn:Func} {c:Code} {k:Nat} {j:Func} (I:prog.funcs[k]?=some j) (G:j.body=some (bo j)) (u:∀args w,(callFunc k args).run prog w=.ok (.enter k args) w) (hb:Nat.beq f k=true) (he:some (j,bo j)=some (fn,c)):prog.funcs[f]?=some fn/\fn.body=some c/\∀(args:Array Value) (w:World),(callFunc f args).run prog w=.ok (.enter f args) w:=by
 grind [Nat.eq_of_beq_eq_true]
theorem aVJ (f:FuncId) (fn:Func) (c:Code) (h:dv f=some (fn,c)):prog.funcs[f]?=some fn/\fn.body=some c/\∀(args:Array Value) (w:World),(callFunc f args).run prog w=.ok (.enter f args) w:=by
 unfold dv at h;rcases Po h with ⟨hb,h⟩|h
 ·exact one func37 KA (lE (fn:=f37) func37 KA rfl) hb h
 rcases Po h with ⟨hb,h⟩|h
 ·exact one func38 KA (lE (fn:=f38) func38 KA rfl) hb h
 rcases Po h with ⟨hb,h⟩|h
 ·exact one func81 KA (lE (fn:=f81) func81 KA rfl) hb h
 rcases Po h with ⟨hb,h⟩|h
 ·exact one func125 KA (lE (fn:=f125) func125 KA rfl) hb h
 grind
def dH (C:Cfg UU) (j:C.P=prog:=by rfl):Cfg UU:={C with inl:=dv,inlOK:=fun f fn c h=>by grind [aVJ],dep:=3}
theorem bB5 {C:Cfg UU} (u:C.P=prog) (O:aE C) (j:C.P.follows .mixedOrders=true) {f:FuncId} {m:Model UU} {fn:Func} {c:Code} (hf:C.P.funcs[f]?=some fn) (S:(fn.name== "runtime.NumGoroutine")=false)
  (hb:fn.body=some c) (L:∀xs I r,m xs=some (I,r)->dZ I->(Nat.ble xs.length fn.ntmps&&Nat.ble fn.ntmps 1000000)=true/\∃M fuel V,tE (exec (dH C u).bZ fn.ntmps M fuel 0 c (gK xs) (bN (dH C u).bZ V fn fun J=>J=r))):aE (C.add f m):=by
 have G:aE (dH C u):=O;have:=aE.J8 (C:=dH C u) G j hf S hb L;exact this
end
end Go.Proofs.YtgcpildegdgekaaGreatDoor
