/- Texts of this proof, one behind another: The error of a layout. Conditions: lists of at most 2,000,000.; What pieces of code must make hold, in plain Lean; printed by gen.py. Conditions: none; de; Rectangles, as the reference looks at them: the least corner, deep inside, meeting, connec; What pieces of code must make hold, in plain Lean; printed by gen.py. Conditions: none; de; What pieces of code must make hold, in plain Lean; printed by gen.py. Conditions: none; de; The error of a piece, as the reference says it. Conditions: none.; What pieces of code must make hold, in plain Lean; printed by gen.py. Conditions: none; de; A piece moved to 0, 0, as the reference moves it. Conditions: lists of at most 2,000,000.; What pieces of code must make hold, in plain Lean; printed by gen.py. Conditions: none; de; The error of a layout, as the reference says it; both are the same. Conditions: lists of a; What pieces of code must make hold, in plain Lean; printed by gen.py. Conditions: none; de; A grid and a finer one; areas; cells that do not overlap. Conditions: none; plain lemmas.; That a region is covered, in two ways of saying it: by the areas that are shared. Conditio; The parts of a sheet: how many, how large. Conditions: none.; Whether cells have a region: by the areas that are shared. Conditions: small rectangles.; What pieces of code must make hold, in plain Lean; printed by gen.py. Conditions: none; de; Which of some lists of cells has a region. Conditions: small rectangles.; What pieces of code must make hold, in pl. Conditions: none. -/
import Derived.Test.YtjjbojomlfgjlaaGreatDoorMC5
import Derived.Test.YtjjbojomlfgjlaaGreatDoorMC4
import Derived.WalkKit
import Derived.OwnWalk
import Derived.Lib.Walk
import Derived.Lib.SliceRun
import Derived.Deep.LoopGhost
import Derived.LaidEql
import Derived.RowKitTokens
import Derived.Deep.RegionHeld3
import Derived.Shelf.SlSortCmp.QuietGrown
import Derived.Ground.SlsfProg
import Derived.Shelf.SlSortCmp.NoneTotal
import Derived.Test.YtjjbojomlfgjlaaGreatDoorProg
import Derived.Lib.OwnBridge
namespace Go.Proofs.YtjjbojomlfgjlaaGreatDoor
open Go.Vm Go.RowKit
set_option linter.unusedVariables false
noncomputable section
def tK {α:Type} (f:α->Int):List α->Int
 |[]=>0
 |x::l=>cond (f x !=0) (f x) (tK f l)
theorem aV5 {α:Type} [Inhabited α] (l:List α) (f:α->Int) (X:Int->Prop) (Y:Prop) (W:Nat->Int->Prop)
  (hs:∀n (i:Nat),i<l.length->((f (l.getD i default) !=0)=true->X (f (l.getD i default)))->((f (l.getD i default) !=0)=false->W n ((i+1:Nat):Int))->W (n+1) i)
  (hy:∀n,Y->W (n+1) l.length):∀(n i:Nat),i<=l.length->l.length<n+i->((tK f (l.drop i) !=0)=true->X (tK f (l.drop i)))->((tK f (l.drop i) !=0)=false->Y)->W n i:=by
 intro n
 induction n with
 |zero=>intro i h1 h2;omega
 |succ n ih=>
  intro i h1 h2 hX hY
  by_cases h:i<l.length
  ·rw[iJ l i h] at hX hY;unfold tK at hX hY;refine hs n i h (fun q=>?_) (fun q=>ih (i+1) (by omega) (by omega) (fun q'=>?_) (fun q'=>?_))
   ·rw[q] at hX;exact hX q
   ·rw[q] at hX;exact hX q'
   ·rw[q] at hY;exact hY q'
  ·obtain rfl:i=l.length:=by omega
   refine hy n (hY ?_);rw[List.drop_length];rfl
theorem aWP {α:Type} [Inhabited α] (l:List α) (p:α->Bool):((List.range l.length).any fun i=>p (l.getD i default))=l.any p:=by
 rw[Bool.eq_iff_iff,List.any_eq_true,List.any_eq_true];constructor
 ·rintro ⟨i,hi,hp⟩
  have hi':=List.mem_range.1 hi;rw[List.getD_eq_getElem?_getD,List.getElem?_eq_getElem hi',Option.getD_some] at hp;exact⟨_,List.getElem_mem hi',hp⟩
 ·rintro ⟨x,hx,hp⟩
  obtain⟨i,hi,rfl⟩:=List.mem_iff_getElem.1 hx;refine⟨i,List.mem_range.2 hi,?_⟩;rw[List.getD_eq_getElem?_getD,List.getElem?_eq_getElem hi,Option.getD_some];exact hp
theorem jX {α:Type} [Inhabited α] (l:List α) (p:α->Bool) (X Y:Prop) (W:Nat->Int->Prop) (hs:∀n (i:Nat),i<l.length->(p (l.getD i default)=true->X)->(p (l.getD i default)=false->W n ((i+1:Nat):Int))->W (n+1) i)
  (hy:∀n,Y->W (n+1) l.length) (n:Nat) (hn:l.length<n) (hX:l.any p=true->X) (hY:l.any p=false->Y):W n 0:=
 lU l.length (fun i=>p (l.getD i default)) X Y W hs hy n hn (by rw[aWP];exact hX) (by rw[aWP];exact hY)
theorem aYN {α:Type} [Inhabited α] (l:List α) (i j:Nat) (h:j<i):(l.take i).getD j default=l.getD j default:=by
 rw[List.getD_eq_getElem?_getD,List.getD_eq_getElem?_getD,List.getElem?_take,if_pos h]
theorem gC {α:Type} [Inhabited α] {l:List α} {j:Nat} (h:j<l.length):l.getD j default∈l:=by
 rw[List.getD_eq_getElem?_getD,List.getElem?_eq_getElem h,Option.getD_some];exact List.getElem_mem h
def aB9 (e:Int) (ps:List Pce) (f:Pce->Int) (bad:aA->Bool) (mt:aA->List aA->Bool):Int:=
 cond (e !=0) e (cond (decide (8<(ps.length:Int))) 4 (cond (tK f ps !=0) (tK f ps) (cond (ps.any fun p=>p.Rects.any bad) 13
  (cond ((List.range ps.length).any fun i=>(List.range i).any fun j=>(ps.getD i default).Rects.any fun r=>mt r (ps.getD j default).Rects) 7 0))))
def mtP (r:aA) (l:List aA):Bool:=oE r.X r.Y r.W r.H l
def lX (w h:Int) (cl us:List aA) (r:aA):Bool:=((!(pI r.X r.Y r.W r.H 0 0 w h))||mtP r cl)||mtP r us
def pT (p:Pce):Int:=vC p.Name p.Material p.Gauge p.Grain p.Rects p.Cuts p.Forms
def sQ (ps:List Pce):Prop:=∀p∈ps,p.Rects.length<=2000000/\p.Cuts.length<=2000000/\p.Forms.length<=2000000
def aJJ (nm mt:ByteArray) (g gr w h:Int) (cl us:List aA) (ps:List Pce):Prop:=cl.length<=2000000/\us.length<=2000000/\sQ ps
def kI (nm mt:ByteArray) (g gr w h:Int) (cl us:List aA) (ps:List Pce):Int:=aB9 (gX nm mt g gr w h cl us) ps pT (lX w h cl us) mtP
section
variable {F:Nat} {Q:Int->Prop} (nm mt:ByteArray) (g gr w h:Int) (cl us:List aA) (ps:List Pce) (hF:2000000<F) (h8:ps.length<=8) (h6:cl.length<=2000000) (h7:us.length<=2000000) (hp:sQ ps)
include hF h8 hp
theorem cv3 (hX:((List.range ps.length).any fun i=>(List.range i).any fun j=>(ps.getD i default).Rects.any fun r=>mtP r (ps.getD j default).Rects)=true->Q 7)
  (hY:((List.range ps.length).any fun i=>(List.range i).any fun j=>(ps.getD i default).Rects.any fun r=>mtP r (ps.getD j default).Rects)=false->Q 0):tG F Q 0 ps ps.length 0 nm mt g gr w h cl us ps:=by
 unfold tG;refine lU ps.length (fun i=>(List.range i).any fun j=>(ps.getD i default).Rects.any fun r=>mtP r (ps.getD j default).Rects) (Q 7) (Q 0) (fun n i=>uY F _ _ n 0 ps ps.length i nm mt g gr w h cl us ps) (fun n i hi hx hw=>?_) (fun n hy=>?_) F (by omega) hX hY
 ·show cond (decide ((i:Int)<(ps.length:Int))) _ _;rw[aW (by omega),cond_true];refine⟨⟨by omega,by omega⟩,⟨by omega,by omega⟩,?_⟩;rw[Int.toNat_natCast];have hlen:(ps.take i).length=i:=by simp;omega
  rw[hlen];unfold aJt;refine lU i (fun j=>(ps.getD i default).Rects.any fun r=>mtP r (ps.getD j default).Rects) (Q 7) (uY F (fun _ _ _ _ _ _ _ _ _ _ _ _ _=>Q 0) (fun t2 _ _ _ _ _ _ _ _ _ _ _ _=>Q t2) n 0 ps ps.length ((i+1:Nat):Int) nm mt g gr w h cl us ps) (fun m j=>uX F _ _ m 0 ps ps.length i (ps.take i) i j nm mt g gr w h cl us ps _ _ _ _ _ _ _) (fun m j hj hx' hw'=>?_) (fun m hy=>?_) F (by omega) hx hw
  ·show cond (decide ((j:Int)<(i:Int))) _ _;rw[aW (by omega),cond_true];refine⟨⟨by omega,by omega⟩,?_⟩;rw[Int.toNat_natCast,aYN ps i j hj];unfold aJs;have hR:=(hp _ (gC hi)).1;refine jX (ps.getD i default).Rects (fun r=>mtP r (ps.getD j default).Rects) (Q 7) (uX F _ _ m 0 ps ps.length i (ps.take i) i ((j+1:Nat):Int) nm mt g gr w h cl us ps _ _ _ _ _ _ _) (fun k q=>aDf F _ _ k 0 ps ps.length i (ps.take i) i j (ps.getD i default).Rects (ps.getD i default).Rects.length q nm mt g gr w h cl us ps _ _ _ _ _ _ _ _ _ _ _ _ _ _) (fun k q hq hx'' hw''=>?_) (fun k hy=>?_) F (by omega) hx' hw'
   ·show cond (decide ((q:Int)<((ps.getD i default).Rects.length:Int))) _ _;rw[aW (by omega),cond_true];refine⟨⟨by omega,by omega⟩,show (ps.getD j default).Rects.length<=2000000 from (hp _ (gC (by omega))).1,?_⟩;rw[Int.toNat_natCast,bX hq (by omega)];show cond (mtP ((ps.getD i default).Rects.getD q default) (ps.getD j default).Rects) _ _;cases hb:mtP ((ps.getD i default).Rects.getD q default) (ps.getD j default).Rects with
    |true=>exact hx'' hb
    |false=>exact hw'' hb
   ·show cond (decide (((ps.getD i default).Rects.length:Int)<((ps.getD i default).Rects.length:Int))) _ _;rw[bD (by omega),cond_false];show uX F _ _ m 0 ps ps.length i (ps.take i) i (aC ((j:Int)+1)) nm mt g gr w h cl us ps _ _ _ _ _ _ _;rw[bX hj (by omega)];exact hy
  ·show cond (decide ((i:Int)<(i:Int))) _ _;rw[bD (by omega),cond_false];show uY F _ _ n 0 ps ps.length (aC ((i:Int)+1)) nm mt g gr w h cl us ps;rw[bX hi (by omega)];exact hy
 ·show cond (decide ((ps.length:Int)<(ps.length:Int))) _ _;rw[bD (by omega),cond_false];exact hy
include h6 h7
theorem cv1 (hX:(ps.any fun p=>p.Rects.any (lX w h cl us))=true->Q 13) (hY:(ps.any fun p=>p.Rects.any (lX w h cl us))=false->tG F Q 0 ps ps.length 0 nm mt g gr w h cl us ps):
  w9 F Q 0 ps ps.length 0 nm mt g gr w h cl us ps 0 0 w h:=by
 unfold w9;refine jX ps (fun p=>p.Rects.any (lX w h cl us)) (Q 13) (tG F Q 0 ps ps.length 0 nm mt g gr w h cl us ps) (fun n i=>sC F (aGB Q (tG F Q)) (aGA Q) n 0 ps ps.length i nm mt g gr w h cl us ps 0 0 w h) (fun n i hi hx hw=>?_) (fun n hy=>?_) F (by omega) hX hY
 ·show cond (decide ((i:Int)<(ps.length:Int))) _ _;rw[aW (by omega),cond_true];refine⟨⟨by omega,by omega⟩,?_⟩;rw[Int.toNat_natCast];unfold aJu;have hR:=(hp _ (gC hi)).1;refine jX (ps.getD i default).Rects (lX w h cl us) (Q 13) (sC F (aGB Q (tG F Q)) (aGA Q) n 0 ps ps.length ((i+1:Nat):Int) nm mt g gr w h cl us ps 0 0 w h) (fun m j=>aDg F _ _ m 0 ps ps.length i (ps.getD i default).Rects (ps.getD i default).Rects.length j nm mt g gr w h cl us ps 0 0 w h) (fun m j hj hx' hw'=>?_) (fun m hy=>?_) F (by omega) hx hw
  ·show cond (decide ((j:Int)<((ps.getD i default).Rects.length:Int))) _ _;rw[aW (by omega),cond_true];refine⟨⟨by omega,by omega⟩,⟨fun _=>h6,fun _=>h7⟩,?_⟩;rw[Int.toNat_natCast,bX hj (by omega)];show cond (lX w h cl us ((ps.getD i default).Rects.getD j default)) _ _;cases hb:lX w h cl us ((ps.getD i default).Rects.getD j default) with
   |true=>exact hx' hb
   |false=>exact hw' hb
  ·show cond (decide (((ps.getD i default).Rects.length:Int)<((ps.getD i default).Rects.length:Int))) _ _;rw[bD (by omega),cond_false];show sC F _ _ n 0 ps ps.length (aC ((i:Int)+1)) nm mt g gr w h cl us ps 0 0 w h;rw[bX hi (by omega)];exact hy
 ·show cond (decide ((ps.length:Int)<(ps.length:Int))) _ _;rw[bD (by omega),cond_false];exact hy
end
theorem bDC (y0 y1:ByteArray) (y2 y3 y4 y5:Int) (y6 y7:List aA) (y8:List Pce) (h:aJJ y0 y1 y2 y3 y4 y5 y6 y7 y8):∃F,∀Q:Int->Prop,Q (kI y0 y1 y2 y3 y4 y5 y6 y7 y8)->aIN F y0 y1 y2 y3 y4 y5 y6 y7 y8 Q:=by
 obtain⟨h6,h7,hp⟩:=h;obtain⟨F,hF⟩:∃F:Nat,2000000<F:=⟨2000001,by omega⟩;refine⟨F,fun Q hQ=>?_⟩;unfold kI aB9 at hQ;unfold aIN aLU;dsimp only;cases h1:(gX y0 y1 y2 y3 y4 y5 y6 y7 !=0)
 ·rw[h1] at hQ;simp only[cond_false] at hQ ⊢
  by_cases hl:8<(y8.length:Int)
  ·rw[aW hl] at hQ ⊢;exact hQ
  rw[bD hl] at hQ ⊢;simp only[cond_false] at hQ ⊢;have h8:y8.length<=8:=by omega
  unfold aJv;refine aV5 y8 pT Q (w9 F Q 0 y8 y8.length 0 y0 y1 y2 y3 y4 y5 y6 y7 y8 0 0 y4 y5) (fun n i=>aAw F (aLW Q) (aLV Q (w9 F Q)) n 0 y8 y8.length i y0 y1 y2 y3 y4 y5 y6 y7 y8) (fun n i hi hx hw=>?_) (fun n hy=>?_) F 0 (by omega) (by omega) (fun q=>?_) (fun q=>?_)
  ·show cond (decide ((i:Int)<(y8.length:Int))) _ _;rw[aW (by omega),cond_true];refine⟨⟨by omega,by omega⟩,?_⟩;rw[Int.toNat_natCast,bX hi (by omega)];refine⟨hp _ (gC hi),?_⟩;show cond (pT (y8.getD i default) !=0) _ _;cases hb:(pT (y8.getD i default) !=0) with
   |true=>exact hx hb
   |false=>exact hw hb
  ·show cond (decide ((y8.length:Int)<(y8.length:Int))) _ _;rw[bD (by omega),cond_false];exact hy
  ·rw[List.drop_zero] at q ⊢;rw[q] at hQ;exact hQ
  ·rw[List.drop_zero] at q;rw[q,cond_false] at hQ;refine cv1 y0 y1 y2 y3 y4 y5 y6 y7 y8 hF h8 h6 h7 hp (fun q=>?_) (fun q=>?_)
   ·rw[q] at hQ;exact hQ
   ·rw[q,cond_false] at hQ;refine cv3 y0 y1 y2 y3 y4 y5 y6 y7 y8 hF h8 hp (fun q=>?_) (fun q=>?_)
    ·rw[q] at hQ;exact hQ
    ·rw[q] at hQ;exact hQ
 ·rw[h1] at hQ;exact hQ
end
end Go.Proofs.YtjjbojomlfgjlaaGreatDoor
namespace Go.Proofs.YtjjbojomlfgjlaaGreatDoor
open Go.Vm Go.RowKit
set_option linter.unusedVariables false
noncomputable section
def zM:Nat->Nat->Nat->Canon UU:=fun o b r=>cond (Nat.beq b 0) ⟨[0,4,5,6],[],[],[],[]⟩ (⟨[],[],[],[],[]⟩)
abbrev yI:=List aA->Int->Int->Int->Prop
def aUq (a0:List aA) (Q:Int->Int->Prop) (i0:yI):Prop:=(let e0:=(a0.getD 0 default);((0<=(0:Int)/\(0:Int)<a0.length)/\(let e1:=(a0.getD 0 default);((0<=(0:Int)/\(0:Int)<a0.length)/\i0 a0 e0.X e1.Y 1))))
def aUp (rec x0:yI) (t0:List aA) (t4 t5 t6:Int):Prop:=cond (decide (t6<(t0.length:Int))) ((let e0:=(t0.getD t6.toNat default);((0<=t6/\t6<t0.length)/\(let e1:=(t0.getD t6.toNat default);((0<=t6/\t6<t0.length)/\rec t0 (mi t4 e0.X) (mi t5 e1.Y) (aC (t6+1))))))) (x0 t0 t4 t5 t6)
def aD9 (F:Nat) (x0:yI):Nat->yI
 |0=>fun _ _ _ _=>False
 |n+1=>aUp (aD9 F x0 n) x0
def aJq (F:Nat) (Q:Int->Int->Prop):yI:=aD9 F (fun _ t4 t5 _=>Q t4 t5) F
def aMj (F:Nat) (a0:List aA) (Q:Int->Int->Prop):Prop:=aUq a0 Q (aJq F Q)
def zL:Nat->Nat->Nat->Canon UU:=fun o b r=>cond (Nat.beq b 0) ⟨[1,2,4,5],[2],[],[],[]⟩ (⟨[],[],[],[],[]⟩)
abbrev yH:=List aA->Bool->Int->Int->Int->Int->Int->Prop
def aUo (aE aD aG aF:Int) (a1:List aA) (Q:Bool->Prop) (i0:yH):Prop:=i0 a1 false 0 aE aD aG aF
def aUn (rec x0 x1:yH) (t1:List aA) (t4:Bool) (t5 aS aR aU aT:Int):Prop:=cond (decide (t5<(t1.length:Int))) ((let e0:=(t1.getD t5.toNat default);((0<=t5/\t5<t1.length)/\cond (decide (e0.X<aS)) ((let e1:=(t1.getD t5.toNat default);((0<=t5/\t5<t1.length)/\cond (decide (e1.Y<aR)) ((let e2:=(t1.getD t5.toNat default);((0<=t5/\t5<t1.length)/\(let e3:=(t1.getD t5.toNat default);((0<=t5/\t5<t1.length)/\cond (decide ((aC (aS+aU))<(aC (e2.X+e3.W)))) ((let e4:=(t1.getD t5.toNat default);((0<=t5/\t5<t1.length)/\(let e5:=(t1.getD t5.toNat default);((0<=t5/\t5<t1.length)/\cond (decide ((aC (aR+aT))<(aC (e4.Y+e5.H)))) (x0 t1 true t5 aS aR aU aT) (rec t1 t4 (aC (t5+1)) aS aR aU aT)))))) (rec t1 t4 (aC (t5+1)) aS aR aU aT)))))) (rec t1 t4 (aC (t5+1)) aS aR aU aT)))) (rec t1 t4 (aC (t5+1)) aS aR aU aT)))) (x1 t1 t4 t5 aS aR aU aT)
def aD8 (F:Nat) (x0 x1:yH):Nat->yH
 |0=>fun _ _ _ _ _ _ _=>False
 |n+1=>aUn (aD8 F x0 x1 n) x0 x1
def aEs (F:Nat) (Q:Bool->Prop):yH:=aD8 F (fun _ t4 _ _ _ _ _=>Q t4) (fun _ _ _ _ _ _ _=>Q false) F
def aMi (F:Nat) (aE aD aG aF:Int) (a1:List aA) (Q:Bool->Prop):Prop:=aUo aE aD aG aF a1 Q (aEs F Q)
def zN:Nat->Nat->Nat->Canon UU:=fun o b r=>cond (Nat.beq b 0) ⟨[1,2,4,5],[2],[],[],[]⟩ (⟨[],[],[],[],[]⟩)
abbrev yJ:=List aA->Bool->Int->Int->Int->Int->Int->Prop
def aUs (aE aD aG aF:Int) (a1:List aA) (Q:Bool->Prop) (i0:yJ):Prop:=i0 a1 false 0 aE aD aG aF
def aUr (rec x0 x1:yJ) (t1:List aA) (t4:Bool) (t5 aS aR aU aT:Int):Prop:=cond (decide (t5<(t1.length:Int))) ((let e0:=(t1.getD t5.toNat default);((0<=t5/\t5<t1.length)/\(let r1:=(aBE aS aR aU aT e0.X e0.Y e0.W e0.H);cond r1 (x0 t1 true t5 aS aR aU aT) (rec t1 t4 (aC (t5+1)) aS aR aU aT))))) (x1 t1 t4 t5 aS aR aU aT)
def aDa (F:Nat) (x0 x1:yJ):Nat->yJ
 |0=>fun _ _ _ _ _ _ _=>False
 |n+1=>aUr (aDa F x0 x1 n) x0 x1
def aEt (F:Nat) (Q:Bool->Prop):yJ:=aDa F (fun _ t4 _ _ _ _ _=>Q t4) (fun _ _ _ _ _ _ _=>Q false) F
def aMk (F:Nat) (aE aD aG aF:Int) (a1:List aA) (Q:Bool->Prop):Prop:=aUs aE aD aG aF a1 Q (aEt F Q)
def qO:Nat->Nat->Nat->Canon UU:=fun o b r=>cond (Nat.beq b 0) ⟨[0,3,4,5],[],[(.tmp 3,56,.bool),(.tmp 4,57,.int)],[],[]⟩ (cond (Nat.beq b 2) ⟨[0,3,4,5,6],[],[(.tmp 3,56,.bool),(.tmp 4,57,.int)],[],[]⟩ (⟨[],[],[],[],[]⟩))
abbrev uA:=List aA->Int->List Bool->zzI->Prop
def aUP (a0:List aA) (Q:Bool->Prop) (i0:uA):Prop:=((0<=(a0.length:Int)/\(a0.length:Int)=(a0.length:Int)/\(a0.length:Int)*1<=140737488355328)/\((0<=(0:Int)/\(0:Int)<(List.replicate ((a0.length:Int).toNat) (false:Bool)).length)/\i0 a0 0 ((List.replicate ((a0.length:Int).toNat) (false:Bool)).set 0 true) ([0])))
abbrev xZ:=List aA->Int->Int->List Bool->zzI->Prop
def aUO (rec x0:uA) (i1:xZ) (t0:List aA) (t5:Int) (jY:List Bool) (gB:zzI):Prop:=cond (decide (t5<(gB.length:Int))) (i1 t0 t5 0 jY gB) (x0 t0 t5 jY gB)
def aUN (rec x0:xZ) (t0:List aA) (t5 t6:Int) (jY:List Bool) (gB:zzI):Prop:=cond (decide (t6<(t0.length:Int))) (((0<=t6/\t6<jY.length)/\cond (!(jY.getD t6.toNat default)) (((0<=t5/\t5<gB.length)/\(let e0:=(t0.getD ((gB.getD t5.toNat default).toNat) default);((0<=(gB.getD t5.toNat default)/\(gB.getD t5.toNat default)<t0.length)/\(let e1:=(t0.getD t6.toNat default);((0<=t6/\t6<t0.length)/\(let r2:=(aNG e0.X e0.Y e0.W e0.H e1.X e1.Y e1.W e1.H);cond r2 (((0<=t6/\t6<jY.length)/\(((gB.length+([t6]).length)*8<=140737488355328)/\rec t0 t5 (aC (t6+1)) (jY.set t6.toNat true) (gB++([t6]))))) (rec t0 t5 (aC (t6+1)) jY gB)))))))) (rec t0 t5 (aC (t6+1)) jY gB))) (x0 t0 t5 t6 jY gB)
def aD0 (F:Nat) (x0:xZ):Nat->xZ
 |0=>fun _ _ _ _ _=>False
 |n+1=>aUN (aD0 F x0 n) x0
def aJf (F:Nat) (rec x0:uA):xZ:=aD0 F (fun t0 t5 _ jY gB=>rec t0 (aC (t5+1)) jY gB) F
def b9 (F:Nat) (x0:uA):Nat->uA
 |0=>fun _ _ _ _=>False
 |n+1=>aUO (b9 F x0 n) x0 (aJf F (b9 F x0 n) x0)
def aOF (F:Nat) (Q:Bool->Prop):uA:=b9 F (fun t0 _ _ gB=>Q ((gB.length:Int)==(t0.length:Int))) F
def aM9 (F:Nat) (a0:List aA) (Q:Bool->Prop):Prop:=aUP a0 Q (aOF F Q)
def zP:Nat->Nat->Nat->Canon UU:=fun o b r=>cond (Nat.beq b 0) ⟨[0,1,2,7,8,9],[],[(.tmp 7,60,.rect)],[],[]⟩ (⟨[],[],[],[],[]⟩)
abbrev yK:=List aA->Int->Int->Int->Int->List aA->Prop
def aUv (a0:List aA) (a1 a2:Int) (Q:List aA->Prop) (i0:yK):Prop:=i0 a0 a1 a2 2147483648 0 ([])
def aUu (rec x0:yK) (t0:List aA) (t1 t2 t8 t9:Int) (pY:List aA):Prop:=cond (decide (t9<(t0.length:Int))) ((let e0:=(t0.getD t9.toNat default);((0<=t9/\t9<t0.length)/\cond ((((decide ((aC (0-t8))<e0.X))&&(decide (e0.X<t8)))&&(decide ((aC (0-t8))<e0.Y)))&&(decide (e0.Y<t8))) ((((pY.length+([(aA.mk (aC (e0.X+t1)) (aC (e0.Y+t2)) e0.W e0.H)]).length)*32<=140737488355328)/\rec t0 t1 t2 t8 (aC (t9+1)) (pY++([(aA.mk (aC (e0.X+t1)) (aC (e0.Y+t2)) e0.W e0.H)])))) ((((pY.length+([e0]).length)*32<=140737488355328)/\rec t0 t1 t2 t8 (aC (t9+1)) (pY++([e0]))))))) (x0 t0 t1 t2 t8 t9 pY)
def aDc (F:Nat) (x0:yK):Nat->yK
 |0=>fun _ _ _ _ _ _=>False
 |n+1=>aUu (aDc F x0 n) x0
def aEu (F:Nat) (Q:List aA->Prop):yK:=aDc F (fun _ _ _ _ _ pY=>Q pY) F
def aMm (F:Nat) (a0:List aA) (a1 a2:Int) (Q:List aA->Prop):Prop:=aUv a0 a1 a2 Q (aEu F Q)
theorem aOZ (a:Int):mi a a=a:=by unfold mi;split<;>rfl
theorem aQA {R:List aA} (h:1<=R.length):(R.drop 1).foldl (fun (m:Int×Int) r=>(mi m.1 r.X,mi m.2 r.Y)) ((R.getD 0 default).X,(R.getD 0 default).Y)=dC R:=by
 cases R with
 |nil=>cases h
 |cons r R=>
  show R.foldl _ (r.X,r.Y)=R.foldl _ (mi r.X r.X,mi r.Y r.Y);rw[aOZ,aOZ]
def aJG (l:List aA):Prop:=1<=l.length/\l.length<=2000000
def k8 (l:List aA):Int×Int:=dC l
theorem bCv (a0:List aA) (h:aJG a0):∃F,∀Q:Int->Int->Prop,Q ((k8 a0).1) ((k8 a0).2)->aMj F a0 Q:=by
 obtain⟨h1,h2⟩:=h;refine⟨a0.length+1,fun Q hQ=>⟨⟨by omega,by omega⟩,⟨by omega,by omega⟩,?_⟩⟩;unfold k8 at hQ;rw[<- aQA h1] at hQ;unfold aJq;refine aGF a0 (fun (m:Int×Int) r=>(mi m.1 r.X,mi m.2 r.Y)) (fun m=>Q m.1 m.2) (fun n i m=>aD9 (a0.length+1) (fun _ t4 t5 _=>Q t4 t5) n a0 m.1 m.2 i) (fun n i m hi hw=>?_) (fun n m hq=>?_) (a0.length+1) 1 ((a0.getD 0 default).X,(a0.getD 0 default).Y) (by omega) (by omega) hQ
 ·show cond (decide ((i:Int)<(a0.length:Int))) _ _;rw[aW (by omega),cond_true];refine⟨⟨by omega,by omega⟩,⟨by omega,by omega⟩,?_⟩;rw[Int.toNat_natCast,bX hi (by omega)];exact hw
 ·show cond (decide ((a0.length:Int)<(a0.length:Int))) _ _;rw[bD (by omega),cond_false];exact hq
def aJF (x y w h:Int) (l:List aA):Prop:=l.length<=2000000
def aDv (x y w h:Int) (l:List aA):Bool:=l.any (aAy x y w h)
theorem bCu (aE aD aG aF:Int) (a1:List aA) (h:aJF aE aD aG aF a1):∃F,∀Q:Bool->Prop,Q (aDv aE aD aG aF a1)->aMi F aE aD aG aF a1 Q:=by
 have h':a1.length<=2000000:=h;refine⟨a1.length+1,fun Q hQ=>?_⟩;unfold aDv at hQ;show aEs (a1.length+1) Q a1 false 0 aE aD aG aF;unfold aEs;refine jX a1 (aAy aE aD aG aF) (Q true) (Q false) (fun n i=>aD8 (a1.length+1) _ _ n a1 false i aE aD aG aF) (fun n i hi hx hw=>?_) (fun n hy=>?_) (a1.length+1) (by omega) (fun q=>?_) (fun q=>?_)
 ·show cond (decide ((i:Int)<(a1.length:Int))) _ _;rw[aW (by omega),cond_true];have gV:(0:Int)<=i/\(i:Int)<a1.length:=⟨by omega,by omega⟩;refine⟨gV,?_⟩;rw[Int.toNat_natCast,bX hi (by omega)];unfold aAy at hx hw;generalize a1.getD i default=e at hx hw ⊢;cases q1:decide (e.X<aE) with
  |false=>exact hw (by rw[q1];rfl)
  |true=>
  refine⟨gV,?_⟩;cases q2:decide (e.Y<aD) with
  |false=>exact hw (by rw[q1,q2];rfl)
  |true=>
  refine⟨gV,gV,?_⟩;cases q3:decide ((aC (aE+aG))<(aC (e.X+e.W))) with
  |false=>exact hw (by rw[q1,q2,q3];rfl)
  |true=>
  refine⟨gV,gV,?_⟩;cases q4:decide ((aC (aD+aF))<(aC (e.Y+e.H))) with
  |false=>exact hw (by rw[q1,q2,q3,q4];rfl)
  |true=>exact hx (by rw[q1,q2,q3,q4];rfl)
 ·show cond (decide ((a1.length:Int)<(a1.length:Int))) _ _;rw[bD (by omega),cond_false];exact hy
 ·rw[q] at hQ;exact hQ
 ·rw[q] at hQ;exact hQ
theorem bCE (a b c d x y w h:Int):aBE a b c d x y w h=vG a b c d x y w h:=by
 unfold aBE vG;rw[mD,mD]
def s7 (x y w h:Int) (l:List aA):Prop:=l.length<=2000000
def sO (x y w h:Int) (l:List aA):Bool:=l.any (tA x y w h)
theorem bEo (x y w h:Int) (l:List aA):oE x y w h l=l.any (tA x y w h):=aF0 (tA x y w h) l 0 (by omega)
theorem bCw (aE aD aG aF:Int) (a1:List aA) (h:s7 aE aD aG aF a1):∃F,∀Q:Bool->Prop,Q (sO aE aD aG aF a1)->aMk F aE aD aG aF a1 Q:=by
 have h':a1.length<=2000000:=h;refine⟨a1.length+1,fun Q hQ=>?_⟩;unfold sO at hQ;show aEt (a1.length+1) Q a1 false 0 aE aD aG aF;unfold aEt;refine jX a1 (tA aE aD aG aF) (Q true) (Q false) (fun n i=>aDa (a1.length+1) _ _ n a1 false i aE aD aG aF) (fun n i hi hx hw=>?_) (fun n hy=>?_) (a1.length+1) (by omega) (fun q=>?_) (fun q=>?_)
 ·show cond (decide ((i:Int)<(a1.length:Int))) _ _;rw[aW (by omega),cond_true];refine⟨⟨by omega,by omega⟩,?_⟩;rw[Int.toNat_natCast,bX hi (by omega)];show cond (aBE aE aD aG aF (a1.getD i default).X (a1.getD i default).Y (a1.getD i default).W (a1.getD i default).H) _ _;rw[bCE];show cond (tA aE aD aG aF (a1.getD i default)) _ _;cases hb:tA aE aD aG aF (a1.getD i default) with
  |true=>exact hx hb
  |false=>exact hw hb
 ·show cond (decide ((a1.length:Int)<(a1.length:Int))) _ _;rw[bD (by omega),cond_false];exact hy
 ·rw[q] at hQ;exact hQ
 ·rw[q] at hQ;exact hQ
structure fZ (l:List aA) (s:List Bool×zzI):Prop where
 len:s.1.length=l.length
 cnt:s.2.length=s.1.count true
 mem:∀x∈s.2,0<=x/\x<l.length
theorem fZ.le {l:List aA} {s:List Bool×zzI} (h:fZ l s):s.2.length<=l.length:=by
 rw[h.cnt,<- h.len];exact List.count_le_length
theorem fZ.get {l:List aA} {s:List Bool×zzI} (h:fZ l s) {i:Nat} (hi:i<s.2.length):0<=s.2.getD i default/\s.2.getD i default<l.length:=h.mem _ (gC hi)
theorem fZ.add {l:List aA} {s:List Bool×zzI} (h:fZ l s) {k:Nat} (hk:k<l.length) (hf:s.1.getD k default=false):fZ l (s.1.set k true,s.2++[(k:Int)]):=by
 have hk':k<s.1.length:=by rw[h.len];exact hk
 refine⟨by rw[List.length_set];exact h.len,?_,fun x hx=>?_⟩
 ·rw[List.length_append,h.cnt,List.count_set (h:=hk')];have e:s.1[k]=false:=by
   rw[List.getD_eq_getElem?_getD,List.getElem?_eq_getElem hk',Option.getD_some] at hf;exact hf
  rw[e];simp
 ·rcases List.mem_append.1 hx with hx|hx
  ·exact h.mem x hx
  ·obtain rfl:=List.mem_singleton.1 hx;exact⟨by omega,by omega⟩
theorem fZ.iE {l:List aA} {s:List Bool×zzI} (h:fZ l s) (a:Nat) {k:Nat} (hk:k<l.length):fZ l (iE l a s k)/\s.2.length<=(Go.Proofs.YtjjbojomlfgjlaaGreatDoor.iE l a s k).2.length/\∀i,i<s.2.length->(Go.Proofs.YtjjbojomlfgjlaaGreatDoor.iE l a s k).2.getD i default=s.2.getD i default:=by
 unfold Go.Proofs.YtjjbojomlfgjlaaGreatDoor.iE;cases hf:s.1.getD k default with
 |true=>exact⟨h,Nat.le_refl _,fun _ _=>rfl⟩
 |false=>
  cases sE (l.getD a default) (l.getD k default) with
  |false=>exact⟨h,Nat.le_refl _,fun _ _=>rfl⟩
  |true=>
   refine⟨h.add hk hf,by simp,fun i hi=>?_⟩;show (s.2++[(k:Int)]).getD i default=_;rw[List.getD_eq_getElem?_getD,List.getElem?_append_left hi,<- List.getD_eq_getElem?_getD]
theorem fZ.aNQ {l:List aA} (a:Nat):∀(ks:List Nat) (s:List Bool×zzI),fZ l s->(∀k∈ks,k<l.length)->fZ l (ks.foldl (Go.Proofs.YtjjbojomlfgjlaaGreatDoor.iE l a) s)/\s.2.length<=(ks.foldl (Go.Proofs.YtjjbojomlfgjlaaGreatDoor.iE l a) s).2.length
 |[],s,h,_=>⟨h,Nat.le_refl _⟩
 |k::ks,s,h,hk=>by
  obtain⟨h1,h2,_⟩:=h.iE a (hk k (List.mem_cons_self ..));obtain⟨h3,h4⟩:=fZ.aNQ a ks _ h1 fun j hj=>hk j (List.mem_cons_of_mem _ hj)
  exact⟨h3,Nat.le_trans h2 h4⟩
theorem fZ.start {l:List aA} (h:1<=l.length):fZ l ((List.replicate l.length false).set 0 true,[0]):=by
 refine⟨by simp,?_,fun x hx=>?_⟩
 ·rw[List.count_set (h:=by simp;omega)];simp;rw[List.count_eq_zero_of_not_mem];simp
 ·obtain rfl:=List.mem_singleton.1 hx;exact⟨by omega,by omega⟩
theorem aYk {σ:Type} (len:Nat) (f:σ->Nat->σ) (I:σ->Prop) (Q:σ->Prop) (W:Nat->Int->σ->Prop) (hI:∀s k,k<len->I s->I (f s k)) (hs:∀n (i:Nat) s,i<len->I s->W n ((i+1:Nat):Int) (f s i)->W (n+1) i s)
  (hq:∀n s,I s->Q s->W (n+1) len s):∀(n i:Nat) (s:σ),i<=len->len<n+i->I s->Q ((List.range' i (len-i)).foldl f s)->W n i s:=by
 intro n
 induction n with
 |zero=>intro i s h1 h2;omega
 |succ n ih=>
  intro i s h1 h2 hi hQ
  by_cases h:i<len
  ·rw[show len-i=(len-(i+1))+1 by omega,List.range'_succ,List.foldl_cons] at hQ;exact hs n i s h hi (ih (i+1) _ (by omega) (by omega) (hI s i h hi) hQ)
  ·obtain rfl:i=len:=by omega
   rw[show i-i=0 by omega] at hQ;exact hq n s hi hQ
def aIz (l:List aA):Prop:=1<=l.length/\l.length<=2000000
def aDt (l:List aA):Bool:=kR l
theorem bCh (a0:List aA) (h:aIz a0):∃F,∀Q:Bool->Prop,Q (aDt a0)->aM9 F a0 Q:=by
 obtain⟨h1,h2⟩:=h;refine⟨a0.length+1,fun Q hQ=>⟨⟨by omega,rfl,by omega⟩,⟨by omega,by simp;omega⟩,?_⟩⟩;rw[Int.toNat_natCast];unfold aDt kR at hQ;have key:∀(n i:Nat) (s:List Bool×zzI),fZ a0 s->i<=s.2.length->a0.length<n+i->Q (((xH a0 n i s).2.length:Int)==(a0.length:Int))->
   b9 (a0.length+1) (fun t0 _ _ gB=>Q ((gB.length:Int)==(t0.length:Int))) n a0 i s.1 s.2:=by
  intro n
  induction n with
  |zero=>
   intro i s hi h3 h4;have:=hi.le;omega
  |succ n ih=>
   intro i s hi h3 h4 hq;unfold xH at hq;show cond (decide ((i:Int)<(s.2.length:Int))) _ _
   by_cases h5:i<s.2.length
   ·rw[aW h5,cond_true] at hq;rw[aW (show (i:Int)<(s.2.length:Int) by omega),cond_true];obtain⟨g1,g2⟩:=hi.get h5;obtain⟨a,ha⟩:∃a:Nat,s.2.getD i default=a:=⟨(s.2.getD i default).toNat,by omega⟩;have hle:=hi.le;unfold aJf;refine aYk a0.length (iE a0 a) (fun t=>fZ a0 t/\i<t.2.length/\t.2.getD i default=a) (fun t=>b9 (a0.length+1) (fun t0 _ _ gB=>Q ((gB.length:Int)==(t0.length:Int))) n a0 (aC ((i:Int)+1)) t.1 t.2) (fun m k t=>aD0 (a0.length+1) _ m a0 i k t.1 t.2) (fun t k hk ht=>?_) (fun m k t hk ht hw=>?_) (fun m t ht hq=>?_) (a0.length+1) 0 s (by omega) (by omega) ⟨hi,h5,ha⟩ ?_
    ·obtain⟨t1,t2,t3⟩:=ht;obtain⟨q1,q2,q3⟩:=t1.iE a hk;exact⟨q1,by omega,by rw[q3 i t2];exact t3⟩
    ·obtain⟨t1,t2,t3⟩:=ht;have tl:=t1.le;have tn:=t1.len;show cond (decide ((k:Int)<(a0.length:Int))) _ _;rw[aW (by omega),cond_true];refine⟨⟨by omega,by omega⟩,?_⟩;rw[Int.toNat_natCast,Int.toNat_natCast,bX hk (by omega),t3,Int.toNat_natCast];unfold iE at hw;cases hf:!(t.1.getD k default)
     ·rw[hf] at hw;exact hw
     ·rw[hf,cond_true] at hw;rw[cond_true];refine⟨⟨by omega,by omega⟩,⟨by omega,by omega⟩,⟨by omega,by omega⟩,?_⟩;change cond (sE (a0.getD a default) (a0.getD k default)) _ _;cases ht:sE (a0.getD a default) (a0.getD k default)
      ·rw[ht] at hw;exact hw
      ·rw[ht] at hw;refine⟨⟨by omega,by omega⟩,show (t.2.length+1)*8<=140737488355328 by omega,?_⟩;exact hw
    ·show cond (decide ((a0.length:Int)<(a0.length:Int))) _ _;rw[bD (by omega),cond_false];exact hq
    ·rw[bX (n:=a0.length) (by omega) (by omega)];rw[ha,Int.toNat_natCast] at hq;have e:(List.range' 0 (a0.length-0)).foldl (iE a0 a) s=q7 a0 a s:=by
      unfold q7;rw[List.range_eq_range',Nat.sub_zero]
     rw[e];obtain⟨q1,q2⟩:=fZ.aNQ a (List.range a0.length) s hi fun k hk=>List.mem_range.1 hk
     exact ih (i+1) (q7 a0 a s) q1 (Nat.le_trans h5 q2) (by omega) hq
   ·rw[bD h5,cond_false] at hq;rw[bD (show ¬(i:Int)<(s.2.length:Int) by omega),cond_false];exact hq
 exact key (a0.length+1) 0 _ (fZ.start h1) (by omega) (by omega) hQ
def nA (x y:Int) (r:aA):aA:=cond ((((decide (-2147483648<r.X))&&(decide (r.X<2147483648)))&&(decide (-2147483648<r.Y)))&&(decide (r.Y<2147483648))) (aA.mk (aC (r.X+x)) (aC (r.Y+y)) r.W r.H) r
theorem bLG {α β:Type} [Inhabited α] (l:List α) (f:α->β) (Q:List β->Prop) (W:Nat->Int->List β->Prop) (hs:∀n (i:Nat) (m:List β),m.length=i->i<l.length->W n ((i+1:Nat):Int) (m++[f (l.getD i default)])->W (n+1) i m)
  (hq:∀n m,Q m->W (n+1) l.length m):∀(n i:Nat) (m:List β),m.length=i->i<=l.length->l.length<n+i->Q (m++(l.drop i).map f)->W n i m:=by
 intro n
 induction n with
 |zero=>intro i m h0 h1 h2;omega
 |succ n ih=>
  intro i m h0 h1 h2 hQ
  by_cases h:i<l.length
  ·rw[iJ l i h,List.map_cons,List.append_cons] at hQ;exact hs n i m h0 h (ih (i+1) _ (by simp[h0]) (by omega) (by omega) hQ)
  ·obtain rfl:i=l.length:=by omega
   rw[List.drop_length,List.map_nil,List.append_nil] at hQ;exact hq n m hQ
def sX (l:List aA) (x y:Int):Prop:=l.length<=2000000
def sP (l:List aA) (x y:Int):List aA:=l.map (nA x y)
theorem bCy (a0:List aA) (a1 a2:Int) (h:sX a0 a1 a2):∃F,∀Q:List aA->Prop,Q (sP a0 a1 a2)->aMm F a0 a1 a2 Q:=by
 have h':a0.length<=2000000:=h;refine⟨a0.length+1,fun Q hQ=>?_⟩;show aEu (a0.length+1) Q a0 a1 a2 2147483648 0 [];unfold aEu;refine bLG a0 (nA a1 a2) Q (fun n i m=>aDc (a0.length+1) _ n a0 a1 a2 2147483648 i m) (fun n i m hm hi hw=>?_) (fun n m hq=>?_) (a0.length+1) 0 [] rfl (by omega) (by omega) hQ
 ·show cond (decide ((i:Int)<(a0.length:Int))) _ _;rw[aW (by omega),cond_true];refine⟨⟨by omega,by omega⟩,?_⟩;rw[Int.toNat_natCast,bX hi (by omega),bQ (n:=0-2147483648) (by omega) (by omega)];unfold nA at hw;rw[show (0-2147483648:Int)= -2147483648 by omega];cases hb:((((decide (-2147483648<(a0.getD i default).X))&&(decide ((a0.getD i default).X<2147483648)))&&(decide (-2147483648<(a0.getD i default).Y)))&&(decide ((a0.getD i default).Y<2147483648)))
  ·rw[hb] at hw;exact⟨show (m.length+1)*32<=140737488355328 by omega,hw⟩
  ·rw[hb] at hw;exact⟨show (m.length+1)*32<=140737488355328 by omega,hw⟩
 ·show cond (decide ((a0.length:Int)<(a0.length:Int))) _ _;rw[bD (by omega),cond_false];exact hq
def aE2 (qa qb:ByteArray) (qc qd:Int) (qe qj qk:List aA) (a1 a2:Int):Prop:=(sX qe a1 a2)/\(sX qj a1 a2)/\(sX qk a1 a2)
def gL (qa qb:ByteArray) (qc qd:Int) (qe qj qk:List aA) (a1 a2:Int):ByteArray×ByteArray×Int×Int×(List aA)×(List aA)×(List aA):=(qa,qb,qc,qd,(sP qe a1 a2),(sP qj a1 a2),(sP qk a1 a2))
def nU:Nat->Nat->Nat->Canon UU:=fun o b r=>cond (Nat.beq b 0) ⟨[1,2,6],[1],[],[],[]⟩ (cond (Nat.beq b 2) ⟨[1,2,7,8],[1],[(.tmp 7,159,.rect)],[],[]⟩ (cond (Nat.beq b 4) ⟨[2,7,9],[],[(.tmp 7,159,.rect)],[],[]⟩ (cond (Nat.beq b 6) ⟨[2,7,9,10],[],[(.tmp 7,159,.rect)],[],[]⟩ (⟨[],[],[],[],[]⟩))))
abbrev yE:=Int->Int->ByteArray->ByteArray->Int->Int->List aA->List aA->List aA->Prop
def aLP (qa qb:ByteArray) (qc qd:Int) (qe qj qk:List aA) (Q:Int->Prop) (i0:yE):Prop:=(let r0:=(kJ qa qb qc qd);cond (r0 !=0) (Q r0) (cond (((decide (12<(qe.length:Int)))||(decide (12<(qj.length:Int))))||(decide (12<(qk.length:Int)))) (Q 4) ((((((qe.length:Int)==0)=false->oG qe)/\(((((qe.length:Int)==0)||(!(fY qe)))=false->oG qj)/\(((((qe.length:Int)==0)||(!(fY qe)))||(!(fY qj)))=false->oG qk)))/\cond (((((qe.length:Int)==0)||(!(fY qe)))||(!(fY qj)))||(!(fY qk))) (Q 1) ((let r1:=(k8 qe);((aJG qe)/\cond ((r1.1 !=0)||(r1.2 !=0)) (Q 1) (i0 0 0 qa qb qc qd qe qj qk))))))))
def aU7 (rec x0 x1:yE) (t2 t6:Int) (aQ aP:ByteArray) (aO aN:Int) (aH aK aL:List aA):Prop:=cond (decide (t6<(aH.length:Int))) ((let e0:=(aH.getD t6.toNat default);((0<=t6/\t6<aH.length)/\((0<=t6/\t6<=aH.length)/\(let r1:=(sO e0.X e0.Y e0.W e0.H (aH.take t6.toNat));((s7 e0.X e0.Y e0.W e0.H (aH.take t6.toNat))/\cond r1 (x0 7 t6 aQ aP aO aN aH aK aL) (rec t2 (aC (t6+1)) aQ aP aO aN aH aK aL))))))) (x1 t2 t6 aQ aP aO aN aH aK aL)
def aU9 (Q:Int->Prop) (t2 t6:Int) (aQ aP:ByteArray) (aO aN:Int) (aH aK aL:List aA):Prop:=Q t2
abbrev yD:=Int->Int->ByteArray->ByteArray->Int->Int->List aA->List aA->List aA->List aA->Prop
def aU8 (Q:Int->Prop) (i1:yD) (t2 t6:Int) (aQ aP:ByteArray) (aO aN:Int) (aH aK aL:List aA):Prop:=((aIz aH)/\cond (!(aDt aH)) (Q 6) ((((([]:List aA).length+aK.length)*32<=140737488355328)/\((((([]:List aA)++aK).length+aL.length)*32<=140737488355328)/\i1 t2 0 aQ aP aO aN aH aK aL ((([]:List aA)++aK)++aL)))))
def aU6 (rec x0 x1:yD) (t2 t8:Int) (aQ aP:ByteArray) (aO aN:Int) (aH aK aL dD:List aA):Prop:=cond (decide (t8<(dD.length:Int))) (((0<=t8/\t8<dD.length)/\(let r0:=(aDv ((dD.getD t8.toNat default).X) ((dD.getD t8.toNat default).Y) ((dD.getD t8.toNat default).W) ((dD.getD t8.toNat default).H) aH);((aJF ((dD.getD t8.toNat default).X) ((dD.getD t8.toNat default).Y) ((dD.getD t8.toNat default).W) ((dD.getD t8.toNat default).H) aH)/\cond (!r0) (x0 13 t8 aQ aP aO aN aH aK aL dD) (cond (decide (t8<(aK.length:Int))) (((0<=t8/\t8<dD.length)/\cond (((dD.getD t8.toNat default).W)==1) (x0 13 t8 aQ aP aO aN aH aK aL dD) (((0<=t8/\t8<dD.length)/\cond (((dD.getD t8.toNat default).H)==1) (x0 13 t8 aQ aP aO aN aH aK aL dD) (rec t2 (aC (t8+1)) aQ aP aO aN aH aK aL dD))))) (rec t2 (aC (t8+1)) aQ aP aO aN aH aK aL dD)))))) (x1 t2 t8 aQ aP aO aN aH aK aL dD)
def aLR (Q:Int->Prop) (t2 t8:Int) (aQ aP:ByteArray) (aO aN:Int) (aH aK aL dD:List aA):Prop:=Q t2
def aLQ (Q:Int->Prop) (i2:Int->Int->List aA->Prop) (t2 t8:Int) (aQ aP:ByteArray) (aO aN:Int) (aH aK aL dD:List aA):Prop:=i2 t2 0 dD
abbrev yC:=Int->Int->Int->List aA->Prop
def aU5 (rec x0 x1:Int->Int->List aA->Prop) (i3:yC) (t2 t9:Int) (dD:List aA):Prop:=cond (decide (t9<(dD.length:Int))) (i3 t2 t9 0 dD) (x0 t2 t9 dD)
def aU4 (rec x0 x1:yC) (t2 t9 t10:Int) (dD:List aA):Prop:=cond (decide (t10<t9)) (((0<=t9/\t9<dD.length)/\((0<=t10/\t10<dD.length)/\(let r0:=(o4 ((dD.getD t9.toNat default).X) ((dD.getD t9.toNat default).Y) ((dD.getD t9.toNat default).W) ((dD.getD t9.toNat default).H) ((dD.getD t10.toNat default).X) ((dD.getD t10.toNat default).Y) ((dD.getD t10.toNat default).W) ((dD.getD t10.toNat default).H));cond (r0==0) (x0 7 t9 t10 dD) (rec t2 t9 (aC (t10+1)) dD))))) (x1 t2 t9 t10 dD)
def aD3 (F:Nat) (x0 x1:yC):Nat->yC
 |0=>fun _ _ _ _=>False
 |n+1=>aU4 (aD3 F x0 x1 n) x0 x1
def aJn (F:Nat) (rec x0 x1:Int->Int->List aA->Prop):yC:=aD3 F (fun t2 t9 _ dD=>x1 t2 t9 dD) (fun t2 t9 _ dD=>rec t2 (aC (t9+1)) dD) F
def uV (F:Nat) (x0 x1:Int->Int->List aA->Prop):Nat->Int->Int->List aA->Prop
 |0=>fun _ _ _=>False
 |n+1=>aU5 (uV F x0 x1 n) x0 x1 (aJn F (uV F x0 x1 n) x0 x1)
def aB5 (F:Nat) (Q:Int->Prop):Int->Int->List aA->Prop:=uV F (fun _ _ _=>Q 0) (fun t2 _ _=>Q t2) F
def aAp (F:Nat) (x0 x1:yD):Nat->yD
 |0=>fun _ _ _ _ _ _ _ _ _ _=>False
 |n+1=>aU6 (aAp F x0 x1 n) x0 x1
def aEp (F:Nat) (Q:Int->Prop):yD:=aAp F (aLR Q) (aLQ Q (aB5 F Q)) F
def aAq (F:Nat) (x0 x1:yE):Nat->yE
 |0=>fun _ _ _ _ _ _ _ _ _=>False
 |n+1=>aU7 (aAq F x0 x1 n) x0 x1
def aJo (F:Nat) (Q:Int->Prop):yE:=aAq F (aU9 Q) (aU8 Q (aEp F Q)) F
def aIL (F:Nat) (qa qb:ByteArray) (qc qd:Int) (qe qj qk:List aA) (Q:Int->Prop):Prop:=aLP qa qb qc qd qe qj qk Q (aJo F Q)
theorem maE (a b:Int):ma a b=max a b:=by unfold ma;split<;>omega
theorem miE (a b:Int):mi a b=min a b:=by unfold mi;split<;>omega
theorem aBM {a b c d:Int} (h:gK a b c d=true): -1048576<=a/\a+c<=1048576/\1<=c/\c<=2097152/\ -1048576<=b/\b+d<=1048576/\1<=d/\d<=2097152:=by
 unfold gK lM at h;cases hX:((((((!((decide ((-1048576)<=a))&&(decide (a<=1048576))))||(!((decide ((-1048576)<=b))&&(decide (b<=1048576)))))||(decide (c<1)))||(decide (d<1)))||(decide (2097152<c)))||(decide (2097152<d)))
 ·rw[hX] at h;simp only[Bool.or_eq_false_iff,Bool.not_eq_false',Bool.and_eq_true,decide_eq_true_eq,decide_eq_false_iff_not] at hX;simp only[cond_false,Bool.and_eq_true,decide_eq_true_eq] at h;rw[bQ (n:=a+c) (by omega) (by omega),bQ (n:=b+d) (by omega) (by omega)] at h;omega
 ·rw[hX] at h;cases h
theorem bLH (a b c d x y w h:Int):o4 a b c d x y w h=vH a b c d x y w h:=by
 unfold o4 vH;rw[mD,mD];cases h1:gK a b c d
 ·rfl
 cases h2:gK x y w h
 ·rfl
 have p:=aBM h1;have q:=aBM h2;simp only[Bool.not_true,Bool.or_false,cond_false,maE];rw[bQ (n:=a-x) (by omega) (by omega),bQ (n:=x-a) (by omega) (by omega),bQ (n:=b-y) (by omega) (by omega),bQ (n:=y-b) (by omega) (by omega)];rw[bQ (n:=a-x-w) (by omega) (by omega),bQ (n:=x-a-c) (by omega) (by omega),bQ (n:=b-y-h) (by omega) (by omega),bQ (n:=y-b-d) (by omega) (by omega)];omega
theorem aYQ (nm mt:ByteArray) (g gr:Int):kJ nm mt g gr=cond ((!(vn nm))||(!(vn mt))) 2 (cond (!(lA g gr)) 1 0):=by
 unfold kJ;have e:((((decide (g<1))||(decide (60<g)))||(decide (gr<0)))||(decide (2<gr)))=!(lA g gr):=by
  unfold lA jU;rw[Bool.eq_iff_iff];simp only[Bool.or_eq_true,Bool.not_eq_true',Bool.and_eq_false_imp,Bool.and_eq_true,decide_eq_true_eq,decide_eq_false_iff_not];omega
 rw[e]
theorem aEN (l:List aA):fY l=dQ l:=by
 unfold fY dQ;congr 1;funext r;exact(mD _ _ _ _).symm
def aJC (nm mt:ByteArray) (g gr:Int) (R C M:List aA):Prop:=True
def aDu (nm mt:ByteArray) (g gr:Int) (R C M:List aA):Int:=iF nm mt g gr R C M
theorem bCm (qa qb:ByteArray) (qc qd:Int) (qe qj qk:List aA) (h:aJC qa qb qc qd qe qj qk):
  ∃F,∀Q:Int->Prop,Q (aDu qa qb qc qd qe qj qk)->aIL F qa qb qc qd qe qj qk Q:=by
 refine⟨60,fun Q hQ=>?_⟩;unfold aDu iF at hQ;unfold aIL aLP;dsimp only;rw[aYQ,aEN,aEN,aEN];cases h1:((!(vn qa))||(!(vn qb)))
 case true=>
  rw[h1] at hQ;exact hQ
 rw[h1] at hQ;simp only[cond_false] at hQ ⊢;cases h2:!(lA qc qd)
 case true=>
  rw[h2] at hQ;exact hQ
 rw[h2] at hQ;simp only[cond_false] at hQ ⊢;show cond false _ _;simp only[cond_false];cases h3:(((decide (12<(qe.length:Int)))||(decide (12<(qj.length:Int))))||(decide (12<(qk.length:Int))))
 case true=>
  rw[h3] at hQ;exact hQ
 rw[h3] at hQ;simp only[cond_false] at hQ ⊢;simp only[Bool.or_eq_false_iff,decide_eq_false_iff_not] at h3;have l1:qe.length<=12:=by omega
 have l2:qj.length<=12:=by omega
 have l3:qk.length<=12:=by omega
 refine⟨⟨fun _=>show _<=2000000 by omega,fun _=>show _<=2000000 by omega,fun _=>show _<=2000000 by omega⟩,?_⟩;cases h4:(((((qe.length:Int)==0)||(!(dQ qe)))||(!(dQ qj)))||(!(dQ qk)))
 case true=>
  rw[h4] at hQ;exact hQ
 rw[h4] at hQ;simp only[cond_false] at hQ ⊢;have hpos:0<qe.length:=by
  simp only[Bool.or_eq_false_iff,beq_eq_false_iff_ne] at h4;omega
 refine⟨⟨by omega,by omega⟩,?_⟩;show cond (((dC qe).1 !=0)||((dC qe).2 !=0)) _ _;cases h5:(((dC qe).1 !=0)||((dC qe).2 !=0))
 case true=>
  rw[h5] at hQ;exact hQ
 rw[h5] at hQ;simp only[cond_false] at hQ ⊢;unfold aJo;refine lU qe.length (fun i=>(qe.take i).any (ovP (qe.getD i default))) (Q 7) (cond (!(kR qe)) (Q 6) (Q (aAC qe qj (qj++qk)))) (fun n i=>aAq 60 _ _ n 0 i qa qb qc qd qe qj qk) (fun n i hi hx hw=>?_) (fun n hy=>?_) 60 (by omega) (fun q=>?_) (fun q=>?_)
 ·show cond (decide ((i:Int)<(qe.length:Int))) _ _;rw[aW (by omega),cond_true];refine⟨⟨by omega,by omega⟩,⟨by omega,by omega⟩,show (qe.take (i:Int).toNat).length<=2000000 by simp;omega,?_⟩;rw[Int.toNat_natCast,bX hi (by omega)];show cond ((qe.take i).any (ovP (qe.getD i default))) _ _;cases hb:(qe.take i).any (ovP (qe.getD i default)) with
  |true=>exact hx hb
  |false=>exact hw hb
 ·show cond (decide ((qe.length:Int)<(qe.length:Int))) _ _;rw[bD (by omega),cond_false];refine⟨⟨by omega,by omega⟩,?_⟩;show cond (!(kR qe)) _ _;cases hc:!(kR qe)
  case true=>
   rw[hc] at hy;exact hy
  rw[hc] at hy;simp only[cond_false] at hy ⊢;refine⟨show (0+qj.length)*32<=_ by omega,show (qj.length+qk.length)*32<=_ by omega,?_⟩;show aEp 60 Q 0 0 qa qb qc qd qe qj qk (qj++qk);have hlen:(qj++qk).length<=24:=by simp;omega
  unfold aAC at hy;generalize qj++qk=H at hy hlen ⊢;unfold aEp;refine lU H.length (fun i=>aAE qj.length qe i (H.getD i default)) (Q 13) (aB5 60 Q 0 0 H) (fun n i=>aAp 60 (aLR Q) (aLQ Q (aB5 60 Q)) n 0 i qa qb qc qd qe qj qk H) (fun n i hi hx hw=>?_) (fun n hy=>?_) 60 (by omega) (fun q=>?_) (fun q=>?_)
  ·show cond (decide ((i:Int)<(H.length:Int))) _ _;rw[aW (by omega),cond_true];have gV:(0:Int)<=i/\(i:Int)<H.length:=⟨by omega,by omega⟩;refine⟨gV,show _<=2000000 by omega,?_⟩;rw[Int.toNat_natCast,bX hi (by omega)];unfold aAE at hx hw;generalize H.getD i default=e at hx hw ⊢;show cond (!(sI e.X e.Y e.W e.H qe)) _ _;cases q1:!(sI e.X e.Y e.W e.H qe) with
   |true=>exact hx (by rw[q1,Bool.or_true])
   |false=>
   rw[cond_false];cases q2:decide ((i:Int)<(qj.length:Int)) with
   |false=>exact hw (by rw[q1,q2];rfl)
   |true=>
   refine⟨gV,?_⟩;cases q3:(e.W==1) with
   |true=>exact hx (by rw[q2,q3];rfl)
   |false=>
   refine⟨gV,?_⟩;cases q4:(e.H==1) with
   |true=>exact hx (by rw[q2,q3,q4];rfl)
   |false=>exact hw (by rw[q1,q2,q3,q4];rfl)
  ·show cond (decide ((H.length:Int)<(H.length:Int))) _ _;rw[bD (by omega),cond_false];exact hy
  ·rw[q] at hy;exact hy
  ·rw[q,cond_false] at hy;unfold aB5;refine lU H.length (fun i=>(List.range i).any fun j=>pF (H.getD i default) (H.getD j default)) (Q 7) (Q 0) (fun n i=>uV 60 (fun _ _ _=>Q 0) (fun t2 _ _=>Q t2) n 0 i H) (fun n i hi hx hw=>?_) (fun n hy=>?_) 60 (by omega) (fun q=>?_) (fun q=>?_)
   ·show cond (decide ((i:Int)<(H.length:Int))) _ _;rw[aW (by omega),cond_true];unfold aJn;refine lU i (fun j=>pF (H.getD i default) (H.getD j default)) (Q 7) (uV 60 (fun _ _ _=>Q 0) (fun t2 _ _=>Q t2) n 0 ((i+1:Nat):Int) H) (fun m j=>aD3 60 _ _ m 0 i j H) (fun m j hj hx hw=>?_) (fun m hy=>?_) 60 (by omega) hx hw
    ·show cond (decide ((j:Int)<(i:Int))) _ _;rw[aW (by omega),cond_true];refine⟨⟨by omega,by omega⟩,⟨by omega,by omega⟩,?_⟩;rw[Int.toNat_natCast,Int.toNat_natCast,bX hj (by omega),bLH];show cond (pF (H.getD i default) (H.getD j default)) _ _;cases hb:pF (H.getD i default) (H.getD j default) with
     |true=>exact hx hb
     |false=>exact hw hb
    ·show cond (decide ((i:Int)<(i:Int))) _ _;rw[bD (by omega),cond_false];show uV _ _ _ _ _ (aC ((i:Int)+1)) _;rw[bX hi (by omega)];exact hy
   ·show cond (decide ((H.length:Int)<(H.length:Int))) _ _;rw[bD (by omega),cond_false];exact hy
   ·rw[q] at hy;exact hy
   ·rw[q] at hy;exact hy
 ·rw[q] at hQ;exact hQ
 ·rw[q,cond_false] at hQ;cases hc:!(kR qe)<;>rw[hc] at hQ<;>exact hQ
abbrev aMQ:=ByteArray->ByteArray->Int->Int->List aA->List aA->List aA->Bool->Prop
def zI:Nat->Nat->Nat->Canon UU:=fun o b r=>cond (Nat.beq b 0) ⟨[1,2,4,5,6],[1,2],[],[],[]⟩ (⟨[],[],[],[],[]⟩)
abbrev yG:=Int->Int->Int->ByteArray->ByteArray->Int->Int->List aA->List aA->List aA->ByteArray->ByteArray->Int->Int->Prop
def aUk (qa qb:ByteArray) (qc qd:Int) (qe qj qk:List aA) (Q:aMQ) (i0:yG):Prop:=((oG qe)/\cond (!(fY qe)) (Q qa qb qc qd qe qj qk false) (cond ((qe.length:Int)==0) (Q qa qb qc qd qe qj qk true) ((let e0:=(qe.getD 0 default);((0<=(0:Int)/\(0:Int)<qe.length)/\(let e1:=(qe.getD 0 default);((0<=(0:Int)/\(0:Int)<qe.length)/\i0 e0.X e1.Y 1 qa qb qc qd qe qj qk ByteArray.empty ByteArray.empty 0 0)))))))
def aUj (rec x0:yG) (t4 t5 t6:Int) (aQ aP:ByteArray) (aO aN:Int) (aH aK aL:List aA) (aS aR:ByteArray) (aU aT:Int):Prop:=cond (decide (t6<(aH.length:Int))) ((let e0:=(aH.getD t6.toNat default);((0<=t6/\t6<aH.length)/\(let e1:=(aH.getD t6.toNat default);((0<=t6/\t6<aH.length)/\rec (mi t4 e0.X) (mi t5 e1.Y) (aC (t6+1)) aQ aP aO aN aH aK aL aS aR aU aT))))) (x0 t4 t5 t6 aQ aP aO aN aH aK aL aS aR aU aT)
def aD7 (F:Nat) (x0:yG):Nat->yG
 |0=>fun _ _ _ _ _ _ _ _ _ _ _ _ _ _=>False
 |n+1=>aUj (aD7 F x0 n) x0
def aJp (F:Nat) (Q:aMQ):yG:=aD7 F (fun t4 t5 _ aQ aP aO aN aH aK aL _ _ _ _=>(let r0:=(gL aQ aP aO aN aH aK aL (aC (0-t4)) (aC (0-t5)));((aE2 aQ aP aO aN aH aK aL (aC (0-t4)) (aC (0-t5)))/\Q r0.1 r0.2.1 r0.2.2.1 r0.2.2.2.1 r0.2.2.2.2.1 r0.2.2.2.2.2.1 r0.2.2.2.2.2.2 true))) F
def aMg (F:Nat) (qa qb:ByteArray) (qc qd:Int) (qe qj qk:List aA) (Q:aMQ):Prop:=aUk qa qb qc qd qe qj qk Q (aJp F Q)
def lC (R:List aA):aA->aA:=nA (aC (0-(dC R).1)) (aC (0-(dC R).2))
def aJE (nm mt:ByteArray) (g gr:Int) (R C M:List aA):Prop:=R.length<=2000000/\C.length<=2000000/\M.length<=2000000
def iM (nm mt:ByteArray) (g gr:Int) (R C M:List aA):ByteArray×ByteArray×Int×Int×List aA×List aA×List aA×Bool:=
 cond (!(dQ R)) (nm,mt,g,gr,R,C,M,false) (cond ((R.length:Int)==0) (nm,mt,g,gr,R,C,M,true) (nm,mt,g,gr,R.map (lC R),C.map (lC R),M.map (lC R),true))
theorem bCs (qa qb:ByteArray) (qc qd:Int) (qe qj qk:List aA) (h:aJE qa qb qc qd qe qj qk):∃F,∀Q:ByteArray->ByteArray->Int->Int->List aA->List aA->List aA->Bool->Prop,Q ((iM qa qb qc qd qe qj qk).1) ((iM qa qb qc qd qe qj qk).2.1) ((iM qa qb qc qd qe qj qk).2.2.1) ((iM qa qb qc qd qe qj qk).2.2.2.1) ((iM qa qb qc qd qe qj qk).2.2.2.2.1) ((iM qa qb qc qd qe qj qk).2.2.2.2.2.1) ((iM qa qb qc qd qe qj qk).2.2.2.2.2.2.1) ((iM qa qb qc qd qe qj qk).2.2.2.2.2.2.2)->aMg F qa qb qc qd qe qj qk Q:=by
 obtain⟨h1,h2,h3⟩:=h;refine⟨qe.length+1,fun Q hQ=>?_⟩;unfold iM at hQ;refine⟨h1,?_⟩;rw[aEN];cases q1:!(dQ qe)
 case true=>
  rw[q1] at hQ;exact hQ
 rw[q1] at hQ;simp only[cond_false] at hQ ⊢;cases q2:((qe.length:Int)==0)
 case true=>
  rw[q2] at hQ;exact hQ
 rw[q2] at hQ;simp only[cond_false] at hQ ⊢;have hpos:1<=qe.length:=by
  simp only[beq_eq_false_iff_ne] at q2;omega
 refine⟨⟨by omega,by omega⟩,⟨by omega,by omega⟩,?_⟩;unfold aJp;refine aGF qe (fun (m:Int×Int) r=>(mi m.1 r.X,mi m.2 r.Y)) (fun m=>Q qa qb qc qd (qe.map (nA (aC (0-m.1)) (aC (0-m.2)))) (qj.map (nA (aC (0-m.1)) (aC (0-m.2)))) (qk.map (nA (aC (0-m.1)) (aC (0-m.2)))) true) (fun n i m=>aD7 (qe.length+1) _ n m.1 m.2 i qa qb qc qd qe qj qk _ _ _ _) (fun n i m hi hw=>?_) (fun n m hq=>?_) (qe.length+1) 1 ((qe.getD 0 default).X,(qe.getD 0 default).Y) (by omega) (by omega) ?_
 ·show cond (decide ((i:Int)<(qe.length:Int))) _ _;rw[aW (by omega),cond_true];refine⟨⟨by omega,by omega⟩,⟨by omega,by omega⟩,?_⟩;rw[Int.toNat_natCast,bX hi (by omega)];exact hw
 ·show cond (decide ((qe.length:Int)<(qe.length:Int))) _ _;rw[bD (by omega),cond_false];exact⟨⟨h1,h2,h3⟩,hq⟩
 ·rw[aQA hpos];exact hQ
def kX:Nat->Nat->Nat->Canon UU:=fun o b r=>cond (Nat.beq b 0) ⟨[1,2,4],[1],[],[],[]⟩ (cond (Nat.beq b 2) ⟨[1,2,7,8],[1,7],[],[],[]⟩ (cond (Nat.beq b 4) ⟨[1,2,7,8,9,10],[1,7],[],[],[]⟩ (cond (Nat.beq b 6) ⟨[1,2,11],[1],[],[],[]⟩ (cond (Nat.beq b 8) ⟨[1,2,11,12],[1],[],[],[]⟩ (cond (Nat.beq b 10) ⟨[1,2,11,12,13],[1],[],[],[]⟩ (⟨[],[],[],[],[]⟩))))))
abbrev kV:=Int->Int->ByteArray->ByteArray->Int->Int->Int->Int->List aA->List aA->List Pce->Prop
def aLB (y0 y1:ByteArray) (y2 y3 y4 y5:Int) (y6 y7:List aA) (y8:List Pce) (Q:Int->Prop) (i0:kV):Prop:=(let r0:=(iB y0 y1 y2 y3 y4 y5 y6 y7);((pS y0 y1 y2 y3 y4 y5 y6 y7)/\cond (r0 !=0) (Q r0) (cond (decide (8<(y8.length:Int))) (Q 4) (i0 0 0 y0 y1 y2 y3 y4 y5 y6 y7 y8))))
def aTz (rec x0 x1:kV) (t2 t4:Int) (aQ aP:ByteArray) (aO aN aH aK:Int) (aL bN:List aA) (bG:List Pce):Prop:=cond (decide (t4<(bG.length:Int))) ((let e0:=(bG.getD t4.toNat default);(let r1:=(iM e0.Name e0.Material e0.Gauge e0.Grain e0.Rects e0.Cuts e0.Forms);(((0<=t4/\t4<bG.length)/\(aJE e0.Name e0.Material e0.Gauge e0.Grain e0.Rects e0.Cuts e0.Forms))/\cond (!r1.2.2.2.2.2.2.2) (x0 1 t4 aQ aP aO aN aH aK aL bN bG) ((let r2:=(aDu r1.1 r1.2.1 r1.2.2.1 r1.2.2.2.1 r1.2.2.2.2.1 r1.2.2.2.2.2.1 r1.2.2.2.2.2.2.1);((aJC r1.1 r1.2.1 r1.2.2.1 r1.2.2.2.1 r1.2.2.2.2.1 r1.2.2.2.2.2.1 r1.2.2.2.2.2.2.1)/\cond (r2 !=0) (x0 r2 t4 aQ aP aO aN aH aK aL bN bG) (rec t2 (aC (t4+1)) aQ aP aO aN aH aK aL bN bG)))))))) (x1 t2 t4 aQ aP aO aN aH aK aL bN bG)
def aLD (Q:Int->Prop) (t2 t4:Int) (aQ aP:ByteArray) (aO aN aH aK:Int) (aL bN:List aA) (bG:List Pce):Prop:=Q t2
abbrev tZ:=Int->Int->ByteArray->ByteArray->Int->Int->Int->Int->List aA->List aA->List Pce->Int->Int->Int->Int->Prop
def aLC (Q:Int->Prop) (i1:tZ) (t2 t4:Int) (aQ aP:ByteArray) (aO aN aH aK:Int) (aL bN:List aA) (bG:List Pce):Prop:=i1 t2 0 aQ aP aO aN aH aK aL bN bG 0 0 aH aK
abbrev xY:=Int->Int->List aA->Int->ByteArray->ByteArray->Int->Int->Int->Int->List aA->List aA->List Pce->Int->Int->Int->Int->Prop
def aTy (rec x0 x1:tZ) (i2:xY) (t2 t8:Int) (aQ aP:ByteArray) (aO aN aH aK:Int) (aL bN:List aA) (bG:List Pce) (cN cI dO dN:Int):Prop:=cond (decide (t8<(bG.length:Int))) ((let e0:=(bG.getD t8.toNat default);((0<=t8/\t8<bG.length)/\i2 t2 t8 e0.Rects 0 aQ aP aO aN aH aK aL bN bG cN cI dO dN))) (x0 t2 t8 aQ aP aO aN aH aK aL bN bG cN cI dO dN)
def aFf (Q:Int->Prop) (i3:kV) (t2 t8:Int) (aQ aP:ByteArray) (aO aN aH aK:Int) (aL bN:List aA) (bG:List Pce) (cN cI dO dN:Int):Prop:=i3 t2 0 aQ aP aO aN aH aK aL bN bG
def aFe (Q:Int->Prop) (t2 t8:Int) (aQ aP:ByteArray) (aO aN aH aK:Int) (aL bN:List aA) (bG:List Pce) (cN cI dO dN:Int):Prop:=Q t2
def aTx (rec x0 x1:xY) (t2 t8:Int) (t9:List aA) (t10:Int) (aQ aP:ByteArray) (aO aN aH aK:Int) (aL bN:List aA) (bG:List Pce) (cN cI dO dN:Int):Prop:=cond (decide (t10<(t9.length:Int))) ((let e0:=(t9.getD t10.toNat default);((0<=t10/\t10<t9.length)/\(let r1:=(lN e0.X e0.Y e0.W e0.H cN cI dO dN);cond (!r1) (x0 13 t8 t9 t10 aQ aP aO aN aH aK aL bN bG cN cI dO dN) ((let e2:=(t9.getD t10.toNat default);((0<=t10/\t10<t9.length)/\((s7 e2.X e2.Y e2.W e2.H aL)/\cond (sO e2.X e2.Y e2.W e2.H aL) (x0 13 t8 t9 t10 aQ aP aO aN aH aK aL bN bG cN cI dO dN) ((let e3:=(t9.getD t10.toNat default);((0<=t10/\t10<t9.length)/\((s7 e3.X e3.Y e3.W e3.H bN)/\cond (sO e3.X e3.Y e3.W e3.H bN) (x0 13 t8 t9 t10 aQ aP aO aN aH aK aL bN bG cN cI dO dN) (rec t2 t8 t9 (aC (t10+1)) aQ aP aO aN aH aK aL bN bG cN cI dO dN))))))))))))) (x1 t2 t8 t9 t10 aQ aP aO aN aH aK aL bN bG cN cI dO dN)
abbrev tY:=Int->Int->Int->ByteArray->ByteArray->Int->Int->Int->Int->List aA->List aA->List Pce->Prop
def aTw (rec x0 x1:kV) (i4:tY) (t2 t11:Int) (aQ aP:ByteArray) (aO aN aH aK:Int) (aL bN:List aA) (bG:List Pce):Prop:=cond (decide (t11<(bG.length:Int))) (i4 t2 t11 0 aQ aP aO aN aH aK aL bN bG) (x0 t2 t11 aQ aP aO aN aH aK aL bN bG)
abbrev xX:=Int->Int->Int->Int->ByteArray->ByteArray->Int->Int->Int->Int->List aA->List aA->List Pce->Prop
def aTv (rec x0 x1:tY) (i5:xX) (t2 t11 t12:Int) (aQ aP:ByteArray) (aO aN aH aK:Int) (aL bN:List aA) (bG:List Pce):Prop:=cond (decide (t12<t11)) (i5 t2 t11 t12 0 aQ aP aO aN aH aK aL bN bG) (x0 t2 t11 t12 aQ aP aO aN aH aK aL bN bG)
def aTu (rec x0 x1:xX) (t2 t11 t12 t13:Int) (aQ aP:ByteArray) (aO aN aH aK:Int) (aL bN:List aA) (bG:List Pce):Prop:=(let e0:=(bG.getD t11.toNat default);((0<=t11/\t11<bG.length)/\cond (decide (t13<(e0.Rects.length:Int))) ((let e1:=(bG.getD t11.toNat default);((0<=t11/\t11<bG.length)/\(let e2:=(e1.Rects.getD t13.toNat default);((0<=t13/\t13<e1.Rects.length)/\(let e3:=(bG.getD t12.toNat default);((0<=t12/\t12<bG.length)/\(let r4:=(sO e2.X e2.Y e2.W e2.H e3.Rects);((s7 e2.X e2.Y e2.W e2.H e3.Rects)/\cond r4 (x0 7 t11 t12 t13 aQ aP aO aN aH aK aL bN bG) (rec t2 t11 t12 (aC (t13+1)) aQ aP aO aN aH aK aL bN bG)))))))))) (x1 t2 t11 t12 t13 aQ aP aO aN aH aK aL bN bG)))
def aDX (F:Nat) (x0 x1:xY):Nat->xY
 |0=>fun _ _ _ _ _ _ _ _ _ _ _ _ _ _ _ _ _=>False
 |n+1=>aTx (aDX F x0 x1 n) x0 x1
def aJc (F:Nat) (rec x0 x1:tZ):xY:=aDX F (fun t2 t8 _ _ aQ aP aO aN aH aK aL bN bG cN cI dO dN=>x1 t2 t8 aQ aP aO aN aH aK aL bN bG cN cI dO dN) (fun t2 t8 _ _ aQ aP aO aN aH aK aL bN bG cN cI dO dN=>rec t2 (aC (t8+1)) aQ aP aO aN aH aK aL bN bG cN cI dO dN) F
def aDW (F:Nat) (x0 x1:xX):Nat->xX
 |0=>fun _ _ _ _ _ _ _ _ _ _ _ _ _=>False
 |n+1=>aTu (aDW F x0 x1 n) x0 x1
def aJa (F:Nat) (rec x0 x1:tY):xX:=aDW F (fun t2 t11 t12 _ aQ aP aO aN aH aK aL bN bG=>x1 t2 t11 t12 aQ aP aO aN aH aK aL bN bG) (fun t2 t11 t12 _ aQ aP aO aN aH aK aL bN bG=>rec t2 t11 (aC (t12+1)) aQ aP aO aN aH aK aL bN bG) F
def uR (F:Nat) (x0 x1:tY):Nat->tY
 |0=>fun _ _ _ _ _ _ _ _ _ _ _ _=>False
 |n+1=>aTv (uR F x0 x1 n) x0 x1 (aJa F (uR F x0 x1 n) x0 x1)
def aJb (F:Nat) (rec x0 x1:kV):tY:=uR F (fun t2 t11 _ aQ aP aO aN aH aK aL bN bG=>rec t2 (aC (t11+1)) aQ aP aO aN aH aK aL bN bG) (fun t2 t11 _ aQ aP aO aN aH aK aL bN bG=>x1 t2 t11 aQ aP aO aN aH aK aL bN bG) F
def uS (F:Nat) (x0 x1:kV):Nat->kV
 |0=>fun _ _ _ _ _ _ _ _ _ _ _=>False
 |n+1=>aTw (uS F x0 x1 n) x0 x1 (aJb F (uS F x0 x1 n) x0 x1)
def tF (F:Nat) (Q:Int->Prop):kV:=uS F (fun _ _ _ _ _ _ _ _ _ _ _=>Q 0) (fun t2 _ _ _ _ _ _ _ _ _ _=>Q t2) F
def sA (F:Nat) (x0 x1:tZ):Nat->tZ
 |0=>fun _ _ _ _ _ _ _ _ _ _ _ _ _ _ _=>False
 |n+1=>aTy (sA F x0 x1 n) x0 x1 (aJc F (sA F x0 x1 n) x0 x1)
def w8 (F:Nat) (Q:Int->Prop):tZ:=sA F (aFf Q (tF F Q)) (aFe Q) F
def aAg (F:Nat) (x0 x1:kV):Nat->kV
 |0=>fun _ _ _ _ _ _ _ _ _ _ _=>False
 |n+1=>aTz (aAg F x0 x1 n) x0 x1
def aJd (F:Nat) (Q:Int->Prop):kV:=aAg F (aLD Q) (aLC Q (w8 F Q)) F
def aIF (F:Nat) (y0 y1:ByteArray) (y2 y3 y4 y5:Int) (y6 y7:List aA) (y8:List Pce) (Q:Int->Prop):Prop:=aLB y0 y1 y2 y3 y4 y5 y6 y7 y8 Q (aJd F Q)
end
end Go.Proofs.YtjjbojomlfgjlaaGreatDoor
namespace Go.Proofs.YtjjbojomlfgjlaaGreatDoor
open Go.Vm Go.RowKit
set_option linter.unusedVariables false
noncomputable section
def u6 (p:Pce):Int:=cond (!(dQ p.Rects)) 1 (cond ((p.Rects.length:Int)==0) (iF p.Name p.Material p.Gauge p.Grain p.Rects p.Cuts p.Forms) (iF p.Name p.Material p.Gauge p.Grain (p.Rects.map (lC p.Rects)) (p.Cuts.map (lC p.Rects)) (p.Forms.map (lC p.Rects))))
theorem aKB (r:aA) (l:List aA):sO r.X r.Y r.W r.H l=mtP r l:=(bEo _ _ _ _ _).symm
def aIx (nm mt:ByteArray) (g gr w h:Int) (cl us:List aA) (ps:List Pce):Prop:=cl.length<=2000000/\us.length<=2000000/\sQ ps
def j9 (nm mt:ByteArray) (g gr w h:Int) (cl us:List aA) (ps:List Pce):Int:=aB9 (iB nm mt g gr w h cl us) ps u6 (lX w h cl us) mtP
section
variable {F:Nat} {Q:Int->Prop} (nm mt:ByteArray) (g gr w h:Int) (cl us:List aA) (ps:List Pce) (hF:2000000<F) (h8:ps.length<=8) (h6:cl.length<=2000000) (h7:us.length<=2000000) (hp:sQ ps)
include hF h8 hp
theorem rv3 (hX:((List.range ps.length).any fun i=>(List.range i).any fun j=>(ps.getD i default).Rects.any fun r=>mtP r (ps.getD j default).Rects)=true->Q 7)
  (hY:((List.range ps.length).any fun i=>(List.range i).any fun j=>(ps.getD i default).Rects.any fun r=>mtP r (ps.getD j default).Rects)=false->Q 0):tF F Q 0 0 nm mt g gr w h cl us ps:=by
 unfold tF;refine lU ps.length (fun i=>(List.range i).any fun j=>(ps.getD i default).Rects.any fun r=>mtP r (ps.getD j default).Rects) (Q 7) (Q 0) (fun n i=>uS F _ _ n 0 i nm mt g gr w h cl us ps) (fun n i hi hx hw=>?_) (fun n hy=>?_) F (by omega) hX hY
 ·show cond (decide ((i:Int)<(ps.length:Int))) _ _;rw[aW (by omega),cond_true];unfold aJb;refine lU i (fun j=>(ps.getD i default).Rects.any fun r=>mtP r (ps.getD j default).Rects) (Q 7) (uS F (fun _ _ _ _ _ _ _ _ _ _ _=>Q 0) (fun t2 _ _ _ _ _ _ _ _ _ _=>Q t2) n 0 ((i+1:Nat):Int) nm mt g gr w h cl us ps) (fun m j=>uR F _ _ m 0 i j nm mt g gr w h cl us ps) (fun m j hj hx' hw'=>?_) (fun m hy=>?_) F (by omega) hx hw
  ·show cond (decide ((j:Int)<(i:Int))) _ _;rw[aW (by omega),cond_true];unfold aJa;have hR:=(hp _ (gC hi)).1;refine jX (ps.getD i default).Rects (fun r=>mtP r (ps.getD j default).Rects) (Q 7) (uR F _ _ m 0 i ((j+1:Nat):Int) nm mt g gr w h cl us ps) (fun k q=>aDW F _ _ k 0 i j q nm mt g gr w h cl us ps) (fun k q hq hx'' hw''=>?_) (fun k hy=>?_) F (by omega) hx' hw'
   ·refine⟨⟨by omega,by omega⟩,?_⟩;rw[Int.toNat_natCast];show cond (decide ((q:Int)<((ps.getD i default).Rects.length:Int))) _ _;rw[aW (by omega),cond_true];refine⟨⟨by omega,by omega⟩,⟨by omega,by omega⟩,⟨by omega,by omega⟩,show (ps.getD (j:Int).toNat default).Rects.length<=2000000 from (hp _ (gC (by omega))).1,?_⟩;rw[Int.toNat_natCast,Int.toNat_natCast,bX hq (by omega),aKB];cases hb:mtP ((ps.getD i default).Rects.getD q default) (ps.getD j default).Rects with
    |true=>exact hx'' hb
    |false=>exact hw'' hb
   ·refine⟨⟨by omega,by omega⟩,?_⟩;rw[Int.toNat_natCast];show cond (decide (((ps.getD i default).Rects.length:Int)<((ps.getD i default).Rects.length:Int))) _ _;rw[bD (by omega),cond_false];show uR F _ _ m 0 i (aC ((j:Int)+1)) nm mt g gr w h cl us ps;rw[bX hj (by omega)];exact hy
  ·show cond (decide ((i:Int)<(i:Int))) _ _;rw[bD (by omega),cond_false];show uS F _ _ n 0 (aC ((i:Int)+1)) nm mt g gr w h cl us ps;rw[bX hi (by omega)];exact hy
 ·show cond (decide ((ps.length:Int)<(ps.length:Int))) _ _;rw[bD (by omega),cond_false];exact hy
include h6 h7
theorem rv1 (hX:(ps.any fun p=>p.Rects.any (lX w h cl us))=true->Q 13) (hY:(ps.any fun p=>p.Rects.any (lX w h cl us))=false->tF F Q 0 0 nm mt g gr w h cl us ps):
  w8 F Q 0 0 nm mt g gr w h cl us ps 0 0 w h:=by
 unfold w8;refine jX ps (fun p=>p.Rects.any (lX w h cl us)) (Q 13) (tF F Q 0 0 nm mt g gr w h cl us ps) (fun n i=>sA F (aFf Q (tF F Q)) (aFe Q) n 0 i nm mt g gr w h cl us ps 0 0 w h) (fun n i hi hx hw=>?_) (fun n hy=>?_) F (by omega) hX hY
 ·show cond (decide ((i:Int)<(ps.length:Int))) _ _;rw[aW (by omega),cond_true];refine⟨⟨by omega,by omega⟩,?_⟩;rw[Int.toNat_natCast];unfold aJc;have hR:=(hp _ (gC hi)).1;refine jX (ps.getD i default).Rects (lX w h cl us) (Q 13) (sA F (aFf Q (tF F Q)) (aFe Q) n 0 ((i+1:Nat):Int) nm mt g gr w h cl us ps 0 0 w h) (fun m j=>aDX F _ _ m 0 i (ps.getD i default).Rects j nm mt g gr w h cl us ps 0 0 w h) (fun m j hj hx' hw'=>?_) (fun m hy=>?_) F (by omega) hx hw
  ·show cond (decide ((j:Int)<((ps.getD i default).Rects.length:Int))) _ _;rw[aW (by omega),cond_true];have lS:(0:Int)<=j/\(j:Int)<(ps.getD i default).Rects.length:=⟨by omega,by omega⟩;refine⟨lS,?_⟩;rw[Int.toNat_natCast,bX hj (by omega),<- aKn];unfold lX at hx' hw';generalize (ps.getD i default).Rects.getD j default=e at hx' hw' ⊢;dsimp only;cases q1:!(pI e.X e.Y e.W e.H 0 0 w h) with
   |true=>exact hx' (by rw[q1];rfl)
   |false=>
   refine⟨lS,h6,?_⟩;rw[aKB];cases q2:mtP e cl with
   |true=>exact hx' (by rw[q1,q2];rfl)
   |false=>
   refine⟨lS,h7,?_⟩;rw[aKB];cases q3:mtP e us with
   |true=>exact hx' (by rw[q1,q2,q3];rfl)
   |false=>exact hw' (by rw[q1,q2,q3];rfl)
  ·show cond (decide (((ps.getD i default).Rects.length:Int)<((ps.getD i default).Rects.length:Int))) _ _;rw[bD (by omega),cond_false];show sA F _ _ n 0 (aC ((i:Int)+1)) nm mt g gr w h cl us ps 0 0 w h;rw[bX hi (by omega)];exact hy
 ·show cond (decide ((ps.length:Int)<(ps.length:Int))) _ _;rw[bD (by omega),cond_false];exact hy
end
theorem bCc (y0 y1:ByteArray) (y2 y3 y4 y5:Int) (y6 y7:List aA) (y8:List Pce) (h:aIx y0 y1 y2 y3 y4 y5 y6 y7 y8):∃F,∀Q:Int->Prop,Q (j9 y0 y1 y2 y3 y4 y5 y6 y7 y8)->aIF F y0 y1 y2 y3 y4 y5 y6 y7 y8 Q:=by
 obtain⟨h6,h7,hp⟩:=h;obtain⟨F,hF⟩:∃F:Nat,2000000<F:=⟨2000001,by omega⟩;refine⟨F,fun Q hQ=>?_⟩;unfold j9 aB9 at hQ;unfold aIF aLB;dsimp only;refine⟨aJL _ _ _ _ _ _ _ _,?_⟩;cases h1:(iB y0 y1 y2 y3 y4 y5 y6 y7 !=0)
 case true=>
  rw[h1] at hQ;exact hQ
 rw[h1] at hQ;simp only[cond_false] at hQ ⊢
 by_cases hl:8<(y8.length:Int)
 ·rw[aW hl] at hQ ⊢;exact hQ
 rw[bD hl] at hQ ⊢;simp only[cond_false] at hQ ⊢;have h8:y8.length<=8:=by omega
 unfold aJd;refine aV5 y8 u6 Q (w8 F Q 0 0 y0 y1 y2 y3 y4 y5 y6 y7 y8 0 0 y4 y5) (fun n i=>aAg F (aLD Q) (aLC Q (w8 F Q)) n 0 i y0 y1 y2 y3 y4 y5 y6 y7 y8) (fun n i hi hx hw=>?_) (fun n hy=>?_) F 0 (by omega) (by omega) (fun q=>?_) (fun q=>?_)
 ·show cond (decide ((i:Int)<(y8.length:Int))) _ _;rw[aW (by omega),cond_true];refine⟨⟨⟨by omega,by omega⟩,hp _ (gC (by omega))⟩,?_⟩;rw[Int.toNat_natCast,bX hi (by omega)];unfold u6 at hx hw;generalize y8.getD i default=p at hx hw ⊢;unfold iM;cases q1:!(dQ p.Rects) with
  |true=>
   rw[q1] at hx;exact hx rfl
  |false=>
  rw[q1] at hx hw;simp only[cond_false] at hx hw ⊢;cases q2:((p.Rects.length:Int)==0) with
  |true=>
   rw[q2] at hx hw;simp only[cond_true] at hx hw ⊢;refine⟨trivial,?_⟩;show cond (iF p.Name p.Material p.Gauge p.Grain p.Rects p.Cuts p.Forms !=0) _ _;cases hb:(iF p.Name p.Material p.Gauge p.Grain p.Rects p.Cuts p.Forms !=0) with
   |true=>exact hx hb
   |false=>exact hw hb
  |false=>
   rw[q2] at hx hw;simp only[cond_false] at hx hw ⊢;refine⟨trivial,?_⟩;show cond (iF p.Name p.Material p.Gauge p.Grain (p.Rects.map (lC p.Rects)) (p.Cuts.map (lC p.Rects)) (p.Forms.map (lC p.Rects)) !=0) _ _;cases hb:(iF p.Name p.Material p.Gauge p.Grain (p.Rects.map (lC p.Rects)) (p.Cuts.map (lC p.Rects)) (p.Forms.map (lC p.Rects)) !=0) with
   |true=>exact hx hb
   |false=>exact hw hb
 ·show cond (decide ((y8.length:Int)<(y8.length:Int))) _ _;rw[bD (by omega),cond_false];exact hy
 ·rw[List.drop_zero] at q ⊢;rw[q] at hQ;exact hQ
 ·rw[List.drop_zero] at q;rw[q,cond_false] at hQ;refine rv1 y0 y1 y2 y3 y4 y5 y6 y7 y8 hF h8 h6 h7 hp (fun q=>?_) (fun q=>?_)
  ·rw[q] at hQ;exact hQ
  ·rw[q,cond_false] at hQ;refine rv3 y0 y1 y2 y3 y4 y5 y6 y7 y8 hF h8 hp (fun q=>?_) (fun q=>?_)
   ·rw[q] at hQ;exact hQ
   ·rw[q] at hQ;exact hQ
def aFH (R:List aA) (m:Int×Int):Int×Int:=R.foldl (fun (m:Int×Int) r=>(mi m.1 r.X,mi m.2 r.Y)) m
theorem aPz (R:List aA):∀(m:Int×Int), -1048576<=m.1->m.1<=1048576-> -1048576<=m.2->m.2<=1048576->(∀r∈R, -1048576<=r.X/\r.X<=1048576/\ -1048576<=r.Y/\r.Y<=1048576)->
  -1048576<=(aFH R m).1/\(aFH R m).1<=1048576/\ -1048576<=(aFH R m).2/\(aFH R m).2<=1048576:=by
 induction R with
 |nil=>exact fun m a b c d _=>⟨a,b,c,d⟩
 |cons r R ih=>
  intro m a b c d h;obtain⟨h1,h2,h3,h4⟩:=h r (List.mem_cons_self ..);refine ih _ ?_ ?_ ?_ ?_ fun s hs=>h s (List.mem_cons_of_mem _ hs)<;>simp only[miE]<;>omega
theorem j2 {r:aA} (h:fS r=true): -1048576<=r.X/\r.X<=1048576/\ -1048576<=r.Y/\r.Y<=1048576:=by
 unfold fS at h;rw[mD] at h;have:=aBM h;omega
theorem aTN {r:aA} (h:¬(-1048576<=r.X/\r.X<=1048576/\ -1048576<=r.Y/\r.Y<=1048576)):fS r=false:=by
 cases hv:fS r with
 |false=>rfl
 |true=>exact absurd (j2 hv) h
theorem bFg {r:aA} (h:r.W=0):fS r=false:=by
 cases hv:fS r with
 |false=>rfl
 |true=>
  unfold fS at hv;rw[mD] at hv;have:=aBM hv;omega
theorem bKr {a b:Int} (h1: -1048576<=a) (h2:a<=1048576) (h3: -1048576<=b) (h4:b<=1048576) (r:aA):
  gJ a b r=nA (aC (0-a)) (aC (0-b)) r\/(fS (gJ a b r)=false/\fS (nA (aC (0-a)) (aC (0-b)) r)=false):=by
 rw[bQ (n:=0-a) (by omega) (by omega),bQ (n:=0-b) (by omega) (by omega)];unfold gJ nA;cases hf:oP r with
 |false=>
  left;unfold oP at hf;simp only[Bool.or_eq_false_iff,decide_eq_false_iff_not] at hf;rw[aW (show -2147483648<r.X by omega),aW (show r.X<2147483648 by omega),aW (show -2147483648<r.Y by omega),aW (show r.Y<2147483648 by omega)];show aA.mk _ _ _ _=aA.mk _ _ _ _;rw[show r.X+(0-a)=r.X-a by omega,show r.Y+(0-b)=r.Y-b by omega]
 |true=>
  right;refine⟨bFg rfl,?_⟩;unfold oP at hf;simp only[Bool.or_eq_true,decide_eq_true_eq] at hf;cases hn:((((decide (-2147483648<r.X))&&(decide (r.X<2147483648)))&&(decide (-2147483648<r.Y)))&&(decide (r.Y<2147483648))) with
  |true=>
   simp only[Bool.and_eq_true,decide_eq_true_eq] at hn;refine aTN ?_;show ¬(-1048576<=aC (r.X+(0-a))/\aC (r.X+(0-a))<=1048576/\ -1048576<=aC (r.Y+(0-b))/\aC (r.Y+(0-b))<=1048576);rw[bQ (n:=r.X+(0-a)) (by omega) (by omega),bQ (n:=r.Y+(0-b)) (by omega) (by omega)];omega
  |false=>
   refine aTN ?_;show ¬(-1048576<=r.X/\r.X<=1048576/\ -1048576<=r.Y/\r.Y<=1048576);intro hc;rw[aW (show -2147483648<r.X by omega),aW (show r.X<2147483648 by omega),aW (show -2147483648<r.Y by omega),aW (show r.Y<2147483648 by omega)] at hn;cases hn
theorem aO5 {f g:aA->aA} (h:∀r,f r=g r\/(fS (f r)=false/\fS (g r)=false)) (l:List aA):l.map f=l.map g\/(dQ (l.map f)=false/\dQ (l.map g)=false):=by
 unfold dQ
 induction l with
 |nil=>exact .inl rfl
 |cons r l ih=>
  simp only[List.map_cons,List.all_cons];rcases h r with e|⟨e1,e2⟩
  ·rcases ih with q|⟨q1,q2⟩
   ·exact .inl (by rw[e,q])
   ·exact .inr ⟨by rw[q1,Bool.and_false],by rw[q2,Bool.and_false]⟩
  ·exact .inr ⟨by rw[e1,Bool.false_and],by rw[e2,Bool.false_and]⟩
theorem bBo (nm mt:ByteArray) (g gr:Int) {R C C' M M':List aA} (lc:C.length=C'.length) (lm:M.length=M'.length) (hc:C=C'\/(dQ C=false/\dQ C'=false)) (hm:M=M'\/(dQ M=false/\dQ M'=false)):
  iF nm mt g gr R C M=iF nm mt g gr R C' M':=by
 rcases hc with rfl|⟨c1,c2⟩
 ·rcases hm with rfl|⟨m1,m2⟩
  ·rfl
  ·unfold iF;rw[lm,m1,m2];simp only[Bool.not_false,Bool.or_true,cond_true]
 ·unfold iF;rw[lc,lm,c1,c2];simp only[Bool.not_false,Bool.or_true,Bool.true_or,cond_true]
theorem bBn (p:Pce):u6 p=pT p:=by
 unfold u6 pT vC mvS;show cond (!(p.Rects.all fS)) _ _=_;cases hv:!(p.Rects.all fS)
 case true=>rfl
 simp only[cond_false];cases hl:((p.Rects.length:Int)==0)
 case true=>rfl
 simp only[cond_false];have hall:∀r∈p.Rects,fS r=true:=fun r hr=>List.all_eq_true.1 (by simpa using hv) r hr
 have hpos:0<p.Rects.length:=by
  simp only[beq_eq_false_iff_ne] at hl;omega
 have h0:=j2 (hall _ (gC (j:=0) hpos));obtain⟨q1,q2,q3,q4⟩:=aPz p.Rects ((p.Rects.getD 0 default).X,(p.Rects.getD 0 default).Y) h0.1 h0.2.1 h0.2.2.1 h0.2.2.2 fun r hr=>j2 (hall r hr)
 change -1048576<=(dC p.Rects).1 at q1;change (dC p.Rects).1<=1048576 at q2;change -1048576<=(dC p.Rects).2 at q3;change (dC p.Rects).2<=1048576 at q4;have hb:=bKr (a:=(dC p.Rects).1) (b:=(dC p.Rects).2) q1 q2 q3 q4;have eR:p.Rects.map (lC p.Rects)=p.Rects.map (gJ (dC p.Rects).1 (dC p.Rects).2):=by
  refine List.map_congr_left fun r hr=>?_
  have hp:=j2 (hall r hr);rcases hb r with e|⟨e1,e2⟩
  ·exact e.symm
  ·unfold lC gJ nA;have hf:oP r=false:=by
    unfold oP;rw[bD (show ¬r.X < -4194304 by omega),bD (show ¬4194304<r.X by omega),bD (show ¬r.Y < -4194304 by omega),bD (show ¬4194304<r.Y by omega)];rfl
   rw[hf,bQ (n:=0-(dC p.Rects).1) (by omega) (by omega),bQ (n:=0-(dC p.Rects).2) (by omega) (by omega)];rw[aW (show -2147483648<r.X by omega),aW (show r.X<2147483648 by omega),aW (show -2147483648<r.Y by omega),aW (show r.Y<2147483648 by omega)];show aA.mk _ _ _ _=aA.mk _ _ _ _;rw[show r.X+(0-(dC p.Rects).1)=r.X-(dC p.Rects).1 by omega,show r.Y+(0-(dC p.Rects).2)=r.Y-(dC p.Rects).2 by omega]
 rw[eR];exact(bBo _ _ _ _ (by simp) (by simp) (aO5 hb _) (aO5 hb _)).symm
theorem bFY (nm mt:ByteArray) (g gr w h:Int) (cl us:List aA) (ps:List Pce):j9 nm mt g gr w h cl us ps=kI nm mt g gr w h cl us ps:=by
 unfold j9 kI;rw[aEL,show u6=pT from funext bBn]
end
end Go.Proofs.YtjjbojomlfgjlaaGreatDoor
namespace Go.Proofs.YtjjbojomlfgjlaaGreatDoor
open Go.Vm Go.RowKit
set_option linter.unusedVariables false
noncomputable section
def mB:Nat->Nat->Nat->Canon UU:=fun o b r=>cond (Nat.beq b 0) ⟨[0,1,2,7,19,20,21],[],[],[],[]⟩ (cond (Nat.beq b 2) ⟨[0,1,2,7,33,34,35],[],[],[],[]⟩ (cond (Nat.beq b 4) ⟨[1,2,6,7,47,48,49],[],[],[],[]⟩ (cond (Nat.beq b 6) ⟨[1,2,7,13,14,47,48,49,53,54,55],[13],[],[],[]⟩ (cond (Nat.beq b 8) ⟨[1,2,7,13,14,47,48,49,65,66,67],[13],[],[],[]⟩ (⟨[],[],[],[],[]⟩)))))
abbrev lI:=List aA->List aA->List aA->Int->List aA->Int->Int->Prop
def aUF (a0 a1 a2:List aA) (Q:Bool->Prop) (i0:lI):Prop:=i0 a0 a1 a2 0 a1 (a1.length:Int) 0
def aUE (rec x0:lI) (t0 t1 t2:List aA) (t7:Int) (t19:List aA) (t20 t21:Int):Prop:=cond (decide (t21<t20)) ((let e0:=(t19.getD t21.toNat default);((0<=t21/\t21<t19.length)/\rec t0 t1 t2 (aC (t7+(aC (e0.W*e0.H)))) t19 t20 (aC (t21+1))))) (x0 t0 t1 t2 t7 t19 t20 t21)
def aLG (Q:Bool->Prop) (i1:lI) (t0 t1 t2:List aA) (t7:Int) (t19:List aA) (t20 t21:Int):Prop:=i1 t0 t1 t2 t7 t2 (t2.length:Int) 0
def aUD (rec x0:lI) (t0 t1 t2:List aA) (t7:Int) (t33:List aA) (t34 t35:Int):Prop:=cond (decide (t35<t34)) ((let e0:=(t33.getD t35.toNat default);((0<=t35/\t35<t33.length)/\rec t0 t1 t2 (aC (t7-(aC (e0.W*e0.H)))) t33 t34 (aC (t35+1))))) (x0 t0 t1 t2 t7 t33 t34 t35)
abbrev oR:=List aA->List aA->Int->List aA->Int->Int->Prop
def aLF (Q:Bool->Prop) (i2:oR) (t0 t1 t2:List aA) (t7:Int) (t33:List aA) (t34 t35:Int):Prop:=i2 t1 t2 t7 t0 (t0.length:Int) 0
abbrev aA2:=List aA->List aA->Bool->Int->List aA->Int->Int->Prop
abbrev lH:=List aA->List aA->Int->Int->List aA->Int->Int->List aA->Int->Int->Int->Int->Int->Int->Prop
def aUC (rec x0:oR) (x1:aA2) (i3:lH) (t1 t2:List aA) (t7:Int) (t47:List aA) (t48 t49:Int):Prop:=cond (decide (t49<t48)) ((let e0:=(t47.getD t49.toNat default);((0<=t49/\t49<t47.length)/\i3 t1 t2 t7 0 t47 t48 t49 t1 (t1.length:Int) 0 e0.X e0.Y e0.W e0.H))) (x0 t1 t2 t7 t47 t48 t49)
def aUB (rec x0:lH) (t1 t2:List aA) (t7 t14:Int) (t47:List aA) (t48 t49:Int) (t53:List aA) (t54 t55 cY cX cV cU:Int):Prop:=cond (decide (t55<t54)) ((let e0:=(t53.getD t55.toNat default);((0<=t55/\t55<t53.length)/\(let r1:=(aBF cY cX cV cU e0.X e0.Y e0.W e0.H);rec t1 t2 t7 (aC (t14+r1)) t47 t48 t49 t53 t54 (aC (t55+1)) cY cX cV cU)))) (x0 t1 t2 t7 t14 t47 t48 t49 t53 t54 t55 cY cX cV cU)
def aUG (rec x0:oR) (x1:aA2) (i4:lH) (t1 t2:List aA) (t7 t14:Int) (t47:List aA) (t48 t49:Int) (t53:List aA) (t54 t55 cY cX cV cU:Int):Prop:=i4 t1 t2 t7 t14 t47 t48 t49 t2 (t2.length:Int) 0 cY cX cV cU
def aUA (rec x0:lH) (t1 t2:List aA) (t7 t14:Int) (t47:List aA) (t48 t49:Int) (t65:List aA) (t66 t67 cY cX cV cU:Int):Prop:=cond (decide (t67<t66)) ((let e0:=(t65.getD t67.toNat default);((0<=t67/\t67<t65.length)/\(let r1:=(aBF cY cX cV cU e0.X e0.Y e0.W e0.H);rec t1 t2 t7 (aC (t14-r1)) t47 t48 t49 t65 t66 (aC (t67+1)) cY cX cV cU)))) (x0 t1 t2 t7 t14 t47 t48 t49 t65 t66 t67 cY cX cV cU)
def aDY (F:Nat) (x0:lH):Nat->lH
 |0=>fun _ _ _ _ _ _ _ _ _ _ _ _ _ _=>False
 |n+1=>aUA (aDY F x0 n) x0
def aEl (F:Nat) (rec x0:oR) (x1:aA2):lH:=aDY F (fun t1 t2 t7 t14 t47 t48 t49 _ _ _ _ _ cV cU=>cond (t14 !=(aC (cV*cU))) (x1 t1 t2 false t7 t47 t48 t49) (rec t1 t2 (aC (t7-t14)) t47 t48 (aC (t49+1)))) F
def aAi (F:Nat) (x0:lH):Nat->lH
 |0=>fun _ _ _ _ _ _ _ _ _ _ _ _ _ _=>False
 |n+1=>aUB (aAi F x0 n) x0
def aJe (F:Nat) (rec x0:oR) (x1:aA2):lH:=aAi F (aUG rec x0 x1 (aEl F rec x0 x1)) F
def b6 (F:Nat) (x0:oR) (x1:aA2):Nat->oR
 |0=>fun _ _ _ _ _ _=>False
 |n+1=>aUC (b6 F x0 x1 n) x0 x1 (aJe F (b6 F x0 x1 n) x0 x1)
def aB3 (F:Nat) (Q:Bool->Prop):oR:=b6 F (fun _ _ t7 _ _ _=>Q (t7==0)) (fun _ _ t6 _ _ _ _=>Q t6) F
def b7 (F:Nat) (x0:lI):Nat->lI
 |0=>fun _ _ _ _ _ _ _=>False
 |n+1=>aUD (b7 F x0 n) x0
def aB4 (F:Nat) (Q:Bool->Prop):lI:=b7 F (aLF Q (aB3 F Q)) F
def b8 (F:Nat) (x0:lI):Nat->lI
 |0=>fun _ _ _ _ _ _ _=>False
 |n+1=>aUE (b8 F x0 n) x0
def aEm (F:Nat) (Q:Bool->Prop):lI:=b8 F (aLG Q (aB4 F Q)) F
def aM7 (F:Nat) (a0 a1 a2:List aA) (Q:Bool->Prop):Prop:=aUF a0 a1 a2 Q (aEm F Q)
structure bLh (xs xs':zzI) (w w':Nat):Prop where
 ax:asc xs
 ax':asc xs'
 sub:∀x∈xs,x∈xs'
 len:xs.length=w+1
 len':xs'.length=w'+1
 lo:xs.getD 0 default=xs'.getD 0 default
 hi:xs.getD w default=xs'.getD w' default
theorem asc.mono {l:zzI} (h:asc l) {i j:Nat} (hij:i<=j) (hj:j<l.length):l.getD i default<=l.getD j default:=by
 rcases Nat.lt_or_eq_of_le hij with q|q
 ·exact Int.le_of_lt (h.get q hj)
 ·rw[q];exact Int.le_refl _
theorem aO1 {l:zzI} {x:Int} (h:x∈l):∃j,j<l.length/\l.getD j default=x:=by
 obtain⟨i,hi,rfl⟩:=List.getElem_of_mem h;exact⟨i,hi,by simp[List.getD_eq_getElem?_getD,hi]⟩
theorem aAI {l:zzI} {j:Nat} (h:j<l.length):l.getD j default∈l:=by
 rw[List.getD_eq_getElem?_getD,List.getElem?_eq_getElem h,Option.getD_some];exact List.getElem_mem _
def eO (l:List aA):Int:=(l.map fun r=>r.W*r.H).sum
theorem bLE (r:aA) (l:List aA):eO (r::l)=r.W*r.H+eO l:=rfl
def apart (a b:aA):Prop:=a.X+a.W<=b.X\/b.X+b.W<=a.X\/a.Y+a.H<=b.Y\/b.Y+b.H<=a.Y
def Su (f:Int->Int) (lo:Int):Nat->Int
 |0=>0
 |n+1=>Su f lo n+f (lo+n)
theorem aMU {f g:Int->Int} {lo:Int} (h:∀x,f x=g x):∀n,Su f lo n=Su g lo n
 |0=>rfl
 |n+1=>by
  show Su f lo n+f (lo+n)=Su g lo n+g (lo+n);rw[aMU h n,h]
theorem aWt (f g:Int->Int) (lo:Int):∀n,Su (fun x=>f x+g x) lo n=Su f lo n+Su g lo n
 |0=>rfl
 |n+1=>by
  show Su (fun x=>f x+g x) lo n+(f (lo+n)+g (lo+n))=Su f lo n+f (lo+n)+(Su g lo n+g (lo+n));rw[aWt f g lo n];omega
theorem aWs (lo:Int):∀n,Su (fun _=>0) lo n=0
 |0=>rfl
 |n+1=>by
  show Su (fun _=>0) lo n+0=0;rw[aWs lo n];rfl
theorem aMR (c:Int) (f:Int->Int) (lo:Int):∀n,Su (fun x=>c*f x) lo n=c*Su f lo n
 |0=>by simp[Su]
 |n+1=>by
  show Su (fun x=>c*f x) lo n+c*f (lo+n)=c*(Su f lo n+f (lo+n));rw[aMR c f lo n,Int.mul_add]
theorem bL5 (c:Int) (f:Int->Int) (lo:Int) (n:Nat):Su (fun x=>f x*c) lo n=Su f lo n*c:=by
 rw[Int.mul_comm,<- aMR];exact aMU (fun x=>Int.mul_comm _ _) n
theorem aMS {f:Int->Int} {lo B:Int} (h:∀x,f x<=B):∀n,Su f lo n<=n*B
 |0=>by simp[Su]
 |n+1=>by
  have h1:=aMS h n (lo:=lo);have h2:=h (lo+n);have e:((n+1:Nat):Int)*B=n*B+B:=by rw[show ((n+1:Nat):Int)=(n:Int)+1 by omega,Int.add_mul,Int.one_mul]
  show Su f lo n+f (lo+n)<=_;omega
def ind (a b x:Int):Int:=if a<=x/\x<b then 1 else 0
def nE (a b c d:Int):Int:=max (min (a+b) (c+d)-max a c) 0
theorem aMT (a b lo:Int):∀n:Nat,Su (ind a b) lo n=max (min (lo+n) b-max lo a) 0
 |0=>by
  show 0=_;omega
 |n+1=>by
  show Su (ind a b) lo n+ind a b (lo+n)=_;rw[aMT a b lo n];unfold ind;split<;>omega
def shP (c r:aA):Int:=nE c.X c.W r.X r.W*nE c.Y c.H r.Y r.H
def lQ (r:aA) (x y:Int):Int:=ind r.X (r.X+r.W) x*ind r.Y (r.Y+r.H) y
theorem aYe (c r:aA) (hw:0<=c.W) (hh:0<=c.H):shP c r=Su (fun x=>Su (fun y=>lQ r x y) c.Y c.H.toNat) c.X c.W.toNat:=by
 have e:∀x,Su (fun y=>lQ r x y) c.Y c.H.toNat=ind r.X (r.X+r.W) x*nE c.Y c.H r.Y r.H:=fun x=>by
  unfold lQ;rw[aMR,aMT];unfold nE;rw[show c.Y+((c.H.toNat:Nat):Int)=c.Y+c.H by omega]
 rw[aMU e,bL5,aMT];unfold shP nE;rw[show c.X+((c.W.toNat:Nat):Int)=c.X+c.W by omega]
theorem aI6 (c r:aA):0<=shP c r:=Int.mul_nonneg (by unfold nE;omega) (by unfold nE;omega)
def cJ (f:aA->Int) (l:List aA):Int:=(l.map f).sum
theorem sF (f:aA->Int) (r:aA) (l:List aA):cJ f (r::l)=f r+cJ f l:=rfl
theorem aDo {f:aA->Int} (h:∀r,0<=f r):∀l,0<=cJ f l
 |[]=>Int.le_refl _
 |r::l=>by
  have:=h r;have:=aDo h l;rw[sF];omega
theorem aIW (g:aA->Int->Int) (lo:Int) (n:Nat):∀l,cJ (fun r=>Su (g r) lo n) l=Su (fun x=>cJ (fun r=>g r x) l) lo n
 |[]=>(aWs lo n).symm
 |r::l=>by
  rw[sF,aIW g lo n l,<- aWt];rfl
theorem aYP {f g:aA->Int} (h:∀r,f r=g r) (l:List aA):cJ f l=cJ g l:=by
 rw[show f=g from funext h]
theorem aTT:∀{l:List aA},l.Pairwise apart->∀x y,cJ (fun r=>lQ r x y) l<=1
 |[],_,x,y=>by
  show (0:Int)<=1;omega
 |r::l,h,x,y=>by
  obtain⟨h1,h2⟩:=List.pairwise_cons.1 h;have ih:=aTT h2 x y;rw[sF]
  by_cases hin:(r.X<=x/\x<r.X+r.W)/\(r.Y<=y/\y<r.Y+r.H)
  ·have e0:cJ (fun r=>lQ r x y) l=0:=by
    have:∀l':List aA,(∀s∈l',apart r s)->cJ (fun r=>lQ r x y) l'=0:=fun l'=>by
     induction l' with
     |nil=>intro _;rfl
     |cons s l' ih=>
      intro hs;rw[sF,ih fun t ht=>hs t (List.mem_cons_of_mem _ ht)];have ha:=hs s (List.mem_cons_self ..);unfold apart at ha;unfold lQ ind;split
      ·split
       ·omega
       ·rfl
      ·rw[Int.zero_mul];rfl
    exact this l h1
   have e1:lQ r x y=1:=by
    unfold lQ ind;rw[if_pos hin.1,if_pos hin.2];rfl
   rw[e0,e1];omega
  ·have e1:lQ r x y=0:=by
    unfold lQ ind;split
    ·split
     ·rename_i q1 q2;exact absurd ⟨q1,q2⟩ hin
     ·rfl
    ·rw[Int.zero_mul]
   rw[e1];omega
theorem aYd {l:List aA} (h:l.Pairwise apart) (c:aA) (hw:0<=c.W) (hh:0<=c.H):cJ (shP c) l<=c.W*c.H:=by
 rw[aYP (fun r=>aYe c r hw hh),aIW];have e:∀x,cJ (fun r=>Su (fun y=>lQ r x y) c.Y c.H.toNat) l<=c.H:=fun x=>by
  rw[aIW];have:=aMS (lo:=c.Y) (f:=fun y=>cJ (fun r=>lQ r x y) l) (B:=1) (fun y=>aTT h x y) c.H.toNat;omega
 have:=aMS (lo:=c.X) e c.W.toNat;rw[show ((c.W.toNat:Nat):Int)=c.W by omega] at this;exact this
def fN (rects holes:List aA) (c:aA):Int:=cJ (shP c) rects-cJ (shP c) holes
theorem bIz {rects holes cells:List aA} (h:rects.Pairwise apart) (hc:∀c∈cells,0<=c.W/\0<=c.H):
  ((∀c∈cells,fN rects holes c=c.W*c.H)/\eO rects-eO holes-cJ (fN rects holes) cells=0)↔
  ((∀c∈cells,cJ (shP c) rects=c.W*c.H/\cJ (shP c) holes=0)/\eO cells=eO rects-eO holes):=by
 have key:∀c∈cells,(fN rects holes c=c.W*c.H↔cJ (shP c) rects=c.W*c.H/\cJ (shP c) holes=0):=fun c hm=>by
  have h1:=aYd h c (hc c hm).1 (hc c hm).2;have h2:=aDo (aI6 c) holes;unfold fN;omega
 have hsum:(∀c∈cells,fN rects holes c=c.W*c.H)->cJ (fN rects holes) cells=eO cells:=fun hq=>by
  clear key hc
  induction cells with
  |nil=>rfl
  |cons c cells ih=>
   rw[sF,bLE,hq c (List.mem_cons_self ..),ih fun d hd=>hq d (List.mem_cons_of_mem _ hd)]
 constructor
 ·rintro ⟨h1,h2⟩
  rw[hsum h1] at h2;exact⟨fun c hm=>(key c hm).1 (h1 c hm),by omega⟩
 ·rintro ⟨h1,h2⟩
  have h3:∀c∈cells,fN rects holes c=c.W*c.H:=fun c hm=>(key c hm).2 (h1 c hm)
  refine⟨h3,?_⟩;rw[hsum h3];omega
theorem aYc (c r:aA):(if 0<min (c.X+c.W) (r.X+r.W)-max c.X r.X/\0<min (c.Y+c.H) (r.Y+r.H)-max c.Y r.Y then (min (c.X+c.W) (r.X+r.W)-max c.X r.X)*(min (c.Y+c.H) (r.Y+r.H)-max c.Y r.Y) else 0)=shP c r:=by
 unfold shP nE;split
 ·rename_i h;rw[show max (min (c.X+c.W) (r.X+r.W)-max c.X r.X) 0=min (c.X+c.W) (r.X+r.W)-max c.X r.X by omega,show max (min (c.Y+c.H) (r.Y+r.H)-max c.Y r.Y) 0=min (c.Y+c.H) (r.Y+r.H)-max c.Y r.Y by omega]
 ·rename_i h
  by_cases h1:0<min (c.X+c.W) (r.X+r.W)-max c.X r.X
  ·rw[show max (min (c.Y+c.H) (r.Y+r.H)-max c.Y r.Y) 0=0 by omega,Int.mul_zero]
  ·rw[show max (min (c.X+c.W) (r.X+r.W)-max c.X r.X) 0=0 by omega,Int.zero_mul]
def aEJ (r:aA):Prop:=(0<=r.X/\r.X<=1048576)/\(0<=r.Y/\r.Y<=1048576)/\(0<=r.W/\r.W<=1048576)/\(0<=r.H/\r.H<=1048576)
theorem aWH {l:zzI} (h:asc l) {a b:Int} (ha:a∈l) (hb:b∈l) (hl:∀x∈l,a<=x/\x<=b):l.getD 0 default=a/\l.getD (l.length-1) default=b:=by
 obtain⟨i,hi,hia⟩:=aO1 ha;obtain⟨j,hj,hjb⟩:=aO1 hb;have m1:=h.mono (Nat.zero_le i) hi;have m2:=h.mono (show j<=l.length-1 by omega) (by omega);have m3:=hl _ (aAI (show 0<l.length by omega));have m4:=hl _ (aAI (show l.length-1<l.length by omega));omega
theorem aYj {nm mt:ByteArray} {g gr w h:Int} {cl us:List aA} {ls:List Seg} (hq:(fF nm mt g gr w h cl us ls).2=0):
  (fF nm mt g gr w h cl us ls).1=oH w h ls/\(1<=w/\w<=1048576/\1<=h/\h<=1048576)/\(∀s∈ls,mJ w h s)/\ls.length<=200:=by
 unfold fF at hq ⊢;cases h1:(gX nm mt g gr w h cl us !=0) with
 |true=>
  rw[h1] at hq;simp only[cond_true] at hq;rw[hq] at h1;cases h1
 |false=>
  have hz:=aI5 h1;rw[h1] at hq;simp only[cond_false] at hq ⊢
  by_cases h2:200<(ls.length:Int)
  ·rw[aW h2] at hq;cases hq
  rw[bD h2] at hq ⊢;simp only[cond_false] at hq ⊢;cases h3:ls.all (mO nm mt g gr w h cl us) with
  |false=>
   rw[h3] at hq;cases hq
  |true=>
   rw[h3] at hq;simp only[Bool.not_true,cond_false] at hq ⊢
   by_cases h4:6000<(((gxs w ls).length:Int)-1)*(((gys h ls).length:Int)-1)
   ·rw[aW h4] at hq;cases hq
   ·rw[bD h4];exact⟨rfl,hz,fun s hs=>aKM.1 (List.all_eq_true.1 h3 s hs),by omega⟩
theorem bGO {w h:Int} {ls:List Seg} (hw:1<=w) (hok:∀s∈ls,mJ w h s):(∀x∈gxs w ls,0<=x/\x<=w)/\(gxs w ls).getD 0 default=0/\(gxs w ls).getD ((gxs w ls).length-1) default=w:=by
 have hb:∀x∈gxs w ls,0<=x/\x<=w:=fun x hx=>by
  rcases wU.1 hx with e|e|⟨s,hs,e⟩
  ·omega
  ·omega
  ·have:=(hok s hs).1;omega
 exact⟨hb,aWH (aCQ w ls) (wU.2 (.inl rfl)) (wU.2 (.inr (.inl rfl))) hb⟩
theorem bGM {w h:Int} {ls:List Seg} (hw:1<=h) (hok:∀s∈ls,mJ w h s):(∀x∈gys h ls,0<=x/\x<=h)/\(gys h ls).getD 0 default=0/\(gys h ls).getD ((gys h ls).length-1) default=h:=by
 have hb:∀x∈gys h ls,0<=x/\x<=h:=fun x hx=>by
  rcases wT.1 hx with e|e|⟨s,hs,e⟩
  ·omega
  ·omega
  ·have:=(hok s hs).1;omega
 exact⟨hb,aWH (aCP h ls) (wT.2 (.inl rfl)) (wT.2 (.inr (.inl rfl))) hb⟩
theorem bBu (w h:Int) (ls:List Seg):(oH w h ls).flatten.Perm ((cellsOf ((gxs w ls).length-1) ((gys h ls).length-1)).map (gG (gxs w ls) (gys h ls))):=by
 obtain⟨L,hi⟩:=aNO (nb:=nbG (gxs w ls) (gys h ls) ls) aEe (gG (gxs w ls) (gys h ls)) (cellsOf ((gxs w ls).length-1) ((gys h ls).length-1));exact hi.perm
theorem bBt {w h:Int} {ls:List Seg} (hw:1<=w/\w<=1048576) (hh:1<=h/\h<=1048576) (hok:∀s∈ls,mJ w h s):∀r∈(oH w h ls).flatten,aEJ r:=fun r hr=>by
 obtain⟨c,hc,rfl⟩:=List.mem_map.1 ((bBu w h ls).mem_iff.1 hr);obtain⟨h1,h2⟩:=pW.1 hc;have bx:=(bGO hw.1 hok).1;have by_:=(bGM hh.1 hok).1;have m1:=bx _ (aAI (show c.1<(gxs w ls).length by omega));have m2:=bx _ (aAI (show c.1+1<(gxs w ls).length by omega));have m3:=by_ _ (aAI (show c.2<(gys h ls).length by omega));have m4:=by_ _ (aAI (show c.2+1<(gys h ls).length by omega));have m5:=(aCQ w ls).get (show c.1<c.1+1 by omega) (by omega);have m6:=(aCP h ls).get (show c.2<c.2+1 by omega) (by omega);unfold aEJ gG;simp only;omega
theorem aYh (nm mt:ByteArray) (g gr w h:Int) (cl us:List aA) (l:List Seg):sK nm mt g gr w h cl us l=fF nm mt g gr w h cl us l:=by
 unfold sK fF;rw[aEL]
theorem bBv (w h:Int) (ls:List Seg):(oH w h ls).length<=(cellsOf ((gxs w ls).length-1) ((gys h ls).length-1)).length/\∀l∈oH w h ls,l.length<=(cellsOf ((gxs w ls).length-1) ((gys h ls).length-1)).length:=by
 refine⟨?_,fun l hl=>?_⟩
 ·have:=aEM (nbG (gxs w ls) (gys h ls) ls) (gG (gxs w ls) (gys h ls)) (cellsOf ((gxs w ls).length-1) ((gys h ls).length-1)) (fun _=>none,[]);simpa[oH,vK] using this
 ·obtain⟨L,hi⟩:=aNO (nb:=nbG (gxs w ls) (gys h ls) ls) aEe (gG (gxs w ls) (gys h ls)) (cellsOf ((gxs w ls).length-1) ((gys h ls).length-1));have e:=hi.perm.length_eq;rw[List.length_map] at e;rw[<- e];exact(List.sublist_flatten_of_mem hl).length_le
theorem aYi (nm mt:ByteArray) (g gr w h:Int) (cl us:List aA) (ls:List Seg):(fF nm mt g gr w h cl us ls).1.length<=10000/\∀l∈(fF nm mt g gr w h cl us ls).1,l.length<=10000:=by
 unfold fF;cases (gX nm mt g gr w h cl us !=0)
 ·simp only[cond_false]
  by_cases h2:200<(ls.length:Int)
  ·rw[aW h2];exact⟨by simp,by simp⟩
  rw[bD h2];cases (!(ls.all (mO nm mt g gr w h cl us)))
  ·simp only[cond_false]
   by_cases h3:6000<(((gxs w ls).length:Int)-1)*(((gys h ls).length:Int)-1)
   ·rw[aW h3];exact⟨by simp,by simp⟩
   rw[bD h3];simp only[cond_false];have px:=aKv w ls;have py:=aKu h ls;have e1:(((gxs w ls).length:Int)-1)=(((gxs w ls).length-1:Nat):Int):=by omega
   have e2:(((gys h ls).length:Int)-1)=(((gys h ls).length-1:Nat):Int):=by omega
   rw[e1,e2] at h3;have hc:(cellsOf ((gxs w ls).length-1) ((gys h ls).length-1)).length<=6000:=by
    rw[aGS,Nat.mul_comm];have:((((gxs w ls).length-1)*((gys h ls).length-1):Nat):Int)<=6000:=by
     rw[Int.natCast_mul];exact Int.not_lt.1 h3
    omega
   obtain⟨q1,q2⟩:=bBv w h ls;exact⟨by omega,fun l hl=>by have:=q2 l hl;omega⟩
  ·exact⟨by simp,by simp⟩
 ·exact⟨by simp,by simp⟩
def rOK (r:aA):Prop:=(-4194304<=r.X/\r.X<=4194304)/\(-4194304<=r.Y/\r.Y<=4194304)/\(0<=r.W/\r.W<=2097152)/\(0<=r.H/\r.H<=2097152)
def okL (n:Nat) (l:List aA):Prop:=l.length<=n/\∀r∈l,rOK r
def arR (r:aA):Int:=r.W*r.H
theorem mW {r:aA} (h:rOK r): -4398046511104<=arR r/\arR r<=4398046511104:=by
 have h1:0<=r.W*r.H:=Int.mul_nonneg h.2.2.1.1 h.2.2.2.1;have h2:r.W*r.H<=2097152*2097152:=Int.mul_le_mul h.2.2.1.2 h.2.2.2.2 h.2.2.2.1 (by omega);unfold arR;omega
theorem aNc {a b c d:Int} (h:0<=b/\b<=2097152):0<=nE a b c d/\nE a b c d<=2097152:=by
 unfold nE;omega
theorem sS {c r:aA} (hc:rOK c):0<=shP c r/\shP c r<=4398046511104:=by
 obtain⟨h1,h2⟩:=aNc (a:=c.X) (c:=r.X) (d:=r.W) hc.2.2.1;obtain⟨h3,h4⟩:=aNc (a:=c.Y) (c:=r.Y) (d:=r.H) hc.2.2.2;have m1:0<=shP c r:=Int.mul_nonneg h1 h3;have m2:shP c r<=2097152*2097152:=Int.mul_le_mul h2 h4 h3 (by omega);omega
theorem aNM {c r:aA} (hc:rOK c) (hr:rOK r):aBF c.X c.Y c.W c.H r.X r.Y r.W r.H=shP c r:=by
 have hb:=sS (r:=r) hc;unfold rOK at hc hr;unfold aBF;rw[bQ (n:=c.X+c.W) (by omega) (by omega),bQ (n:=r.X+r.W) (by omega) (by omega),bQ (n:=c.Y+c.H) (by omega) (by omega),bQ (n:=r.Y+r.H) (by omega) (by omega)];simp only[miE,maE];rw[bQ (n:=min (c.X+c.W) (r.X+r.W)-max c.X r.X) (by omega) (by omega),bQ (n:=min (c.Y+c.H) (r.Y+r.H)-max c.Y r.Y) (by omega) (by omega)];have e:max (min (c.X+c.W) (r.X+r.W)-max c.X r.X) 0*max (min (c.Y+c.H) (r.Y+r.H)-max c.Y r.Y) 0=shP c r:=rfl;rw[e,bQ (by omega) (by omega)]
theorem oC {f:aA->Int} {B:Int}:∀{l:List aA},(∀r∈l, -B<=f r/\f r<=B)-> -(l.length*B)<=cJ f l/\cJ f l<=l.length*B
 |[],_=>by
  show -((0:Int)*B)<=0/\0<=(0:Int)*B;omega
 |r::l,h=>by
  have h1:=h r (List.mem_cons_self ..);have h2:=oC fun s hs=>h s (List.mem_cons_of_mem _ hs)
  rw[sF,show (((r::l).length:Nat):Int)*B=l.length*B+B by rw[List.length_cons,show ((l.length+1:Nat):Int)=(l.length:Int)+1 by omega,Int.add_mul,Int.one_mul]];omega
theorem aMy (f:aA->Int) (l:List aA) (i:Nat) (h:i<l.length):cJ f (l.take (i+1))=cJ f (l.take i)+f (l.getD i default):=by
 rw[aDn l i h];unfold cJ;rw[List.map_append,List.sum_append];show _+(f (l.getD i default)+0)=_;rw[Int.add_zero]
theorem aIV (f:aA->Int):∀l:List aA,cJ (fun r=> -f r) l= -cJ f l
 |[]=>rfl
 |r::l=>by
  rw[sF,sF,aIV f l];omega
theorem j5 (l:List aA) (f:aA->Int) (B s0:Int) (hf:∀r∈l, -B<=f r/\f r<=B) (hB:0<=B) (h1: -4000000000000000000<=s0-l.length*B) (h2:s0+l.length*B<=4000000000000000000) (W:Nat->Int->Int->Prop)
  (hs:∀n (i:Nat) s,i<l.length-> -4000000000000000000<=s->s<=4000000000000000000-> -4000000000000000000<=s+f (l.getD i default)->s+f (l.getD i default)<=4000000000000000000->W n ((i+1:Nat):Int) (s+f (l.getD i default))->W (n+1) i s)
  (hq:∀n,W (n+1) l.length (s0+cJ f l)) (n:Nat) (hn:l.length<n):W n 0 s0:=by
 have hbd:∀i,i<=l.length-> -4000000000000000000<=s0+cJ f (l.take i)/\s0+cJ f (l.take i)<=4000000000000000000:=fun i hi=>by
  have h3:=oC (f:=f) (B:=B) (l:=l.take i) fun r hr=>hf r (List.mem_of_mem_take hr)
  have h4:((l.take i).length:Int)*B<=l.length*B:=Int.mul_le_mul_of_nonneg_right (by simp;omega) hB;omega
 have key:∀(n i:Nat),i<=l.length->l.length<n+i->W n i (s0+cJ f (l.take i)):=by
  intro n
  induction n with
  |zero=>intro i h3 h4;omega
  |succ n ih=>
   intro i h3 h4
   by_cases h:i<l.length
   ·have e:=aMy f l i h;have b1:=hbd i (by omega);have b2:=hbd (i+1) (by omega);have h5:=ih (i+1) (by omega) (by omega);rw[e,<- Int.add_assoc] at h5;rw[e,<- Int.add_assoc] at b2;exact hs n i _ h b1.1 b1.2 b2.1 b2.2 h5
   ·obtain rfl:i=l.length:=by omega
    rw[List.take_length];exact hq n
 have:=key n 0 (Nat.zero_le _) (by omega);rw[show s0+cJ f (l.take 0)=s0 from Int.add_zero s0] at this;exact this
def aEY (cells rs hs:List aA):Prop:=okL 10000 cells/\okL 20 rs/\okL 20 hs
def pG (cells rs hs:List aA):Bool:=(cells.all fun c=>decide (fN rs hs c=arR c))&&decide (eO rs-eO hs-cJ (fN rs hs) cells=0)
theorem bFr {rs hs:List aA} (hr:rs.length<=20) (hh:hs.length<=20) {c:aA} (hc:rOK c): -87960930222080<=fN rs hs c/\fN rs hs c<=87960930222080:=by
 have h1:=oC (f:=shP c) (B:=4398046511104) (l:=rs) fun r _=>by have:=sS (r:=r) hc;omega
 have h2:=oC (f:=shP c) (B:=4398046511104) (l:=hs) fun r _=>by have:=sS (r:=r) hc;omega
 have h3:=aDo (aI6 c) rs;have h4:=aDo (aI6 c) hs;unfold fN;omega
theorem bCe (a0 a1 a2:List aA) (h:aEY a0 a1 a2):∃F,∀Q:Bool->Prop,Q (pG a0 a1 a2)->aM7 F a0 a1 a2 Q:=by
 obtain⟨⟨c1,c2⟩,⟨r1,r2⟩,⟨s1,s2⟩⟩:=h;obtain⟨F,hF⟩:∃F:Nat,20000<F:=⟨20001,by omega⟩;refine⟨F,fun Q hQ=>?_⟩;have ba1:=oC (f:=arR) (B:=4398046511104) (l:=a1) fun r hr=>mW (r2 r hr)
 have ba2:=oC (f:=arR) (B:=4398046511104) (l:=a2) fun r hr=>mW (s2 r hr)
 show aEm F Q a0 a1 a2 0 a1 a1.length 0;unfold aEm;refine j5 a1 arR 4398046511104 0 (fun r hr=>mW (r2 r hr)) (by omega) (by omega) (by omega) (fun n i s=>b8 F (aLG Q (aB4 F Q)) n a0 a1 a2 s a1 a1.length i) (fun n i s hi b1 b2 b3 b4 hw=>?_) (fun n=>?_) F (by omega)
 ·show cond (decide ((i:Int)<(a1.length:Int))) _ _;rw[aW (by omega),cond_true];refine⟨⟨by omega,by omega⟩,?_⟩;have hb:=mW (r2 _ (gC hi));rw[Int.toNat_natCast,bX hi (by omega)];show b8 F _ n a0 a1 a2 (aC (s+aC (arR (a1.getD i default)))) a1 a1.length ((i+1:Nat):Int);rw[bQ (n:=arR (a1.getD i default)) (by omega) (by omega),bQ (by omega) (by omega)];exact hw
 show cond (decide ((a1.length:Int)<(a1.length:Int))) _ _;rw[bD (by omega),cond_false,Int.zero_add];show aB4 F Q a0 a1 a2 (cJ arR a1) a2 a2.length 0;unfold aB4;refine j5 a2 (fun r=> -arR r) 4398046511104 (cJ arR a1) (fun r hr=>by have:=mW (s2 r hr);omega) (by omega) (by omega) (by omega) (fun n i s=>b7 F (aLF Q (aB3 F Q)) n a0 a1 a2 s a2 a2.length i) (fun n i s hi b1 b2 b3 b4 hw=>?_) (fun n=>?_) F (by omega)
 ·show cond (decide ((i:Int)<(a2.length:Int))) _ _;rw[aW (by omega),cond_true];refine⟨⟨by omega,by omega⟩,?_⟩;have hb:=mW (s2 _ (gC hi));rw[Int.toNat_natCast,bX hi (by omega)];show b7 F _ n a0 a1 a2 (aC (s-aC (arR (a2.getD i default)))) a2 a2.length ((i+1:Nat):Int);rw[bQ (n:=arR (a2.getD i default)) (by omega) (by omega),Int.sub_eq_add_neg,bQ (by omega) (by omega)];exact hw
 show cond (decide ((a2.length:Int)<(a2.length:Int))) _ _;rw[bD (by omega),cond_false,aIV,<- Int.sub_eq_add_neg];show aB3 F Q a1 a2 (eO a1-eO a2) a0 a0.length 0;have hA: -200000000000000<=eO a1-eO a2/\eO a1-eO a2<=200000000000000:=by
  have e1:eO a1=cJ arR a1:=rfl;have e2:eO a2=cJ arR a2:=rfl;omega
 unfold pG at hQ;generalize eO a1-eO a2=A at hQ hA ⊢;have hbd:∀i,i<=a0.length-> -1000000000000000000<=A-cJ (fN a1 a2) (a0.take i)/\A-cJ (fN a1 a2) (a0.take i)<=1000000000000000000:=fun i hi=>by
  have h3:=oC (f:=fN a1 a2) (B:=87960930222080) (l:=a0.take i) fun r hr=>bFr r1 s1 (c2 r (List.mem_of_mem_take hr))
  have h4:((a0.take i).length:Int)<=10000:=by simp;omega
  have h5:((a0.take i).length:Int)*87960930222080<=10000*87960930222080:=Int.mul_le_mul_of_nonneg_right h4 (by omega);omega
 unfold aB3;have e0:A=A-cJ (fN a1 a2) (a0.take ((0:Int)).toNat):=(Int.sub_zero A).symm;rw[e0];refine jX a0 (fun c=>!(decide (fN a1 a2 c=arR c))) (Q false) (Q (decide (A-cJ (fN a1 a2) a0=0))) (fun (n:Nat) (i:Int)=>b6 F (fun _ _ t7 _ _ _=>Q (t7==0)) (fun _ _ t6 _ _ _ _=>Q t6) n a1 a2 (A-cJ (fN a1 a2) (a0.take i.toNat)) a0 a0.length i) (fun n i hi hx hw=>?_) (fun n hy=>?_) F (by omega) (fun q=>?_) (fun q=>?_)
 ·show cond (decide ((i:Int)<(a0.length:Int))) _ _;rw[aW (by omega),cond_true];refine⟨⟨by omega,by omega⟩,?_⟩;have hc:=c2 _ (gC hi);have hbi:=hbd i (by omega);have hbj:=hbd (i+1) (by omega);have ebd:=mW hc;have eT:=aMy (fN a1 a2) a0 i hi;rw[Int.toNat_natCast] at hw ⊢;rw[eT] at hw hbj;generalize cJ (fN a1 a2) (a0.take i)=S at hw hbi hbj ⊢;clear eT e0;generalize a0.getD i default=c at hx hw hc hbj ebd ⊢;unfold aJe;refine j5 a1 (shP c) 4398046511104 0 (fun r hr=>by have:=sS (r:=r) hc;omega) (by omega) (by omega) (by omega) (fun m k s=>aAi F _ m a1 a2 (A-S) s a0 a0.length i a1 a1.length k c.X c.Y c.W c.H) (fun m k s hk b1 b2 b3 b4 hw'=>?_) (fun m=>?_) F (by omega)
  ·show cond (decide ((k:Int)<(a1.length:Int))) _ _;rw[aW (by omega),cond_true];refine⟨⟨by omega,by omega⟩,?_⟩;rw[Int.toNat_natCast,bX hk (by omega),aNM hc (r2 _ (gC hk))];dsimp only;rw[bQ (by omega) (by omega)];exact hw'
  show cond (decide ((a1.length:Int)<(a1.length:Int))) _ _;rw[bD (by omega),cond_false,Int.zero_add];have bs1:=oC (f:=shP c) (B:=4398046511104) (l:=a1) fun r _=>by have:=sS (r:=r) hc;omega
  show aEl F _ _ _ a1 a2 (A-S) (cJ (shP c) a1) a0 a0.length i a2 a2.length 0 c.X c.Y c.W c.H;unfold aEl;refine j5 a2 (fun r=> -shP c r) 4398046511104 (cJ (shP c) a1) (fun r hr=>by have:=sS (r:=r) hc;omega) (by omega) (by omega) (by omega) (fun m k s=>aDY F _ m a1 a2 (A-S) s a0 a0.length i a2 a2.length k c.X c.Y c.W c.H) (fun m k s hk b1 b2 b3 b4 hw'=>?_) (fun m=>?_) F (by omega)
  ·show cond (decide ((k:Int)<(a2.length:Int))) _ _;rw[aW (by omega),cond_true];refine⟨⟨by omega,by omega⟩,?_⟩;rw[Int.toNat_natCast,bX hk (by omega),aNM hc (s2 _ (gC hk))];dsimp only;rw[Int.sub_eq_add_neg,bQ (by omega) (by omega)];exact hw'
  show cond (decide ((a2.length:Int)<(a2.length:Int))) _ _;rw[bD (by omega),cond_false,aIV,<- Int.sub_eq_add_neg];show cond (fN a1 a2 c !=aC (arR c)) (Q false) (b6 F _ _ n a1 a2 (aC (A-S-fN a1 a2 c)) a0 a0.length (aC ((i:Int)+1)));rw[bQ (n:=arR c) (by omega) (by omega),bX hi (by omega),bQ (n:=A-S-fN a1 a2 c) (by omega) (by omega)]
  by_cases he:fN a1 a2 c=arR c
  ·rw[he,bne_self_eq_false,cond_false];have:=hw (by rw[aW he];rfl);rw[he,<- Int.sub_sub] at this;exact this
  ·rw[bne_iff_ne.2 he,cond_true];exact hx (by rw[bD he];rfl)
 ·show cond (decide ((a0.length:Int)<(a0.length:Int))) _ _;rw[bD (by omega),cond_false];show Q (A-cJ (fN a1 a2) (a0.take ((a0.length:Int)).toNat)==0);rw[Int.toNat_natCast,List.take_length];exact hy
 ·have e:(a0.all fun c=>decide (fN a1 a2 c=arR c))=false:=by
   rw[List.all_eq_not_any_not,q];rfl
  rw[e] at hQ;exact hQ
 ·have e:(a0.all fun c=>decide (fN a1 a2 c=arR c))=true:=by
   rw[List.all_eq_not_any_not,q];rfl
  rw[e,Bool.true_and] at hQ;exact hQ
def aE1 (cells rs hs:List aA):Prop:=(aEY cells rs hs)
def aBD (cells rs hs:List aA):Bool:=(pG cells rs hs)
def zR:Nat->Nat->Nat->Canon UU:=fun o b r=>cond (Nat.beq b 0) ⟨[0,1,4,7,8],[],[],[],[]⟩ (⟨[],[],[],[],[]⟩)
abbrev yQ:=List (List aA)->List aA->List aA->Int->Int->Int->Prop
def aVL (l:List (List aA)) (rs hs:List aA) (Q:Int->Prop) (i0:yQ):Prop:=i0 l rs hs 0 (l.length:Int) 0
def aVK (rec x0 x1:yQ) (t0:List (List aA)) (dS vB:List aA) (t4 t7 t8:Int):Prop:=cond (decide (t8<t7)) ((let e0:=(t0.getD t8.toNat default);(((0<=t8/\t8<t0.length)/\(aE1 e0 dS vB))/\cond (aBD e0 dS vB) (x0 t0 dS vB t8 t7 t8) (rec t0 dS vB t4 t7 (aC (t8+1)))))) (x1 t0 dS vB t4 t7 t8)
def aDi (F:Nat) (x0 x1:yQ):Nat->yQ
 |0=>fun _ _ _ _ _ _=>False
 |n+1=>aVK (aDi F x0 x1 n) x0 x1
def aEx (F:Nat) (Q:Int->Prop):yQ:=aDi F (fun _ _ _ t4 _ _=>Q t4) (fun _ _ _ _ _ _=>Q (-1)) F
def aMq (F:Nat) (l:List (List aA)) (rs hs:List aA) (Q:Int->Prop):Prop:=aVL l rs hs Q (aEx F Q)
theorem bGA {α:Type} [Inhabited α] (l:List α) (p:α->Bool) (Q:Int->Prop) (W:Nat->Int->Prop) (hs:∀n (i:Nat),i<l.length->(p (l.getD i default)=true->Q i)->(p (l.getD i default)=false->W n ((i+1:Nat):Int))->W (n+1) i)
  (hy:∀n,Q (-1)->W (n+1) l.length):∀(n i:Nat),i<=l.length->l.length<n+i->Q (nO p (l.drop i) i)->W n i:=by
 intro n
 induction n with
 |zero=>intro i h1 h2;omega
 |succ n ih=>
  intro i h1 h2 hQ
  by_cases h:i<l.length
  ·rw[iJ l i h] at hQ;unfold nO at hQ;refine hs n i h (fun q=>?_) (fun q=>ih (i+1) (by omega) (by omega) ?_)
   ·rw[q] at hQ;exact hQ
   ·rw[q] at hQ;exact hQ
  ·obtain rfl:i=l.length:=by omega
   rw[List.drop_length] at hQ;exact hy n hQ
def aAR (rs hs c:List aA):Bool:=pG c rs hs
def aE4 (l:List (List aA)) (rs hs:List aA):Prop:=l.length<=2000000/\okL 20 rs/\okL 20 hs/\∀c∈l,okL 10000 c
def aEB (l:List (List aA)) (rs hs:List aA):Int:=nO (aAR rs hs) l 0
theorem bDE (l:List (List aA)) (rs hs:List aA) (h:aE4 l rs hs):∃F,∀Q:Int->Prop,Q (aEB l rs hs)->aMq F l rs hs Q:=by
 obtain⟨h1,h2,h3,h4⟩:=h;refine⟨l.length+1,fun Q hQ=>?_⟩;show aEx (l.length+1) Q l rs hs 0 l.length 0;unfold aEx;refine bGA l (aAR rs hs) Q (fun n i=>aDi (l.length+1) _ _ n l rs hs 0 l.length i) (fun n i hi hx hw=>?_) (fun n hy=>?_) (l.length+1) 0 (by omega) (by omega) hQ
 ·show cond (decide ((i:Int)<(l.length:Int))) _ _;rw[aW (by omega),cond_true];refine⟨⟨⟨by omega,by omega⟩,h4 _ (gC (by omega)),h2,h3⟩,?_⟩;rw[Int.toNat_natCast,bX hi (by omega)];show cond (aAR rs hs (l.getD i default)) _ _;cases hb:aAR rs hs (l.getD i default) with
  |true=>exact hx hb
  |false=>exact hw hb
 ·show cond (decide ((l.length:Int)<(l.length:Int))) _ _;rw[bD (by omega),cond_false];exact hy
def aBX (l:List (List aA)) (rs hs:List aA):Prop:=(aE4 l rs hs)
def o6 (l:List (List aA)) (rs hs:List aA):Bool:=decide (0<=(aEB l rs hs))
def aBV (a0:List (List aA)) (a1 a2:List aA):Prop:=(aBX a0 a1 a2)
def jT (a0:List (List aA)) (a1 a2:List aA):Bool:=(o6 a0 a1 a2)
def zQ:Nat->Nat->Nat->Canon UU:=fun o b r=>cond (Nat.beq b 0) ⟨[0,1,4,12,13],[],[],[],[]⟩ (⟨[],[],[],[],[]⟩)
abbrev yP:=List aA->List aA->Bool->Int->Int->Prop
def aLX (a0 a1:List aA) (Q:Bool->Prop) (i0:yP):Prop:=cond ((a0.length:Int) !=(a1.length:Int)) (Q false) (i0 a0 a1 false (a0.length:Int) 0)
def aAK (rec x0 x1:yP) (t0 t1:List aA) (t4:Bool) (t12 t13:Int):Prop:=cond (decide (t13<t12)) ((let e0:=(t0.getD t13.toNat default);((0<=t13/\t13<t0.length)/\(let e1:=(t1.getD t13.toNat default);((0<=t13/\t13<t1.length)/\cond (!((e0.X==e1.X)&&((e0.Y==e1.Y)&&((e0.W==e1.W)&&((e0.H==e1.H)&&true))))) (x0 t0 t1 false t12 t13) (rec t0 t1 t4 t12 (aC (t13+1)))))))) (x1 t0 t1 t4 t12 t13)
def aDh (F:Nat) (x0 x1:yP):Nat->yP
 |0=>fun _ _ _ _ _=>False
 |n+1=>aAK (aDh F x0 x1 n) x0 x1
def aJw (F:Nat) (Q:Bool->Prop):yP:=aDh F (fun _ _ t4 _ _=>Q t4) (fun _ _ _ _ _=>Q true) F
def aIO (F:Nat) (a0 a1:List aA) (Q:Bool->Prop):Prop:=aLX a0 a1 Q (aJw F Q)
def aJK (a b:List aA):Prop:=a.length<=2000000
def aDy (a b:List aA):Bool:=eqB a b
theorem bDD (a0 a1:List aA) (h:aJK a0 a1):∃F,∀Q:Bool->Prop,Q (aDy a0 a1)->aIO F a0 a1 Q:=by
 have hl:a0.length<=2000000:=h;refine⟨a0.length+1,fun Q hQ=>?_⟩;unfold aIO aLX;unfold aDy at hQ
 by_cases hab:a0.length=a1.length
 ·rw[show ((a0.length:Int) !=(a1.length:Int))=false by rw[bne_eq_false_iff_eq];omega,cond_false];unfold aJw;refine aVa a0 a1 hab hl (fun n i=>aDh (a0.length+1) _ _ n a0 a1 false a0.length i) (fun j=>Q false) (fun j=>Q true) (fun n i hi=>?_) (fun n=>?_) (fun q j=>by rw[q] at hQ;exact hQ) (fun q=>by rw[q] at hQ;exact hQ) (a0.length+1) 0 (by omega) (by omega) rfl
  ·show aAK _ _ _ _ _ _ _ _↔_;unfold aAK;rw[aW (show (i:Int)<(a0.length:Int) by omega),cond_true];simp only[Int.toNat_natCast,aVb];rw[bX hi (by omega)];exact⟨fun z=>z.2.2,fun z=>⟨⟨by omega,by omega⟩,⟨by omega,by omega⟩,z⟩⟩
  ·show aAK _ _ _ _ _ _ _ _↔_;unfold aAK;rw[bD (by omega),cond_false]
 ·rw[show ((a0.length:Int) !=(a1.length:Int))=true by rw[bne_iff_ne];omega,cond_true];rw[aVc hab] at hQ;exact hQ
def qP:Nat->Nat->Nat->Canon UU:=fun o b r=>cond (Nat.beq b 0) ⟨[4,5,7,9,10,40,41,42],[7],[(.tmp 9,75,.rects),(.cell 7 0,76,.seg),(.cell 7 1,77,.rect),(.tmp 10,78,.rect)],[],[75]⟩ (cond (Nat.beq b 2) ⟨[4,5,7,9,10,40,41,42,58,59,60],[7],[(.tmp 9,75,.rects),(.tmp 10,76,.rect),(.cell 7 0,77,.seg),(.cell 7 1,78,.rect)],[],[75]⟩ (⟨[],[],[],[],[]⟩))
abbrev uB:=Bool->Int->List Pce->Int->Int->List (List aA)->List Seg->List aA->List aA->Prop
def aUS (y0 y1:ByteArray) (y2 y3 y4 y5:Int) (y6 y7:List aA) (y8:List Pce) (a1:List Opn) (Q:Bool->Int->Prop) (i0:uB):Prop:=((aJJ y0 y1 y2 y3 y4 y5 y6 y7 y8)/\cond ((kI y0 y1 y2 y3 y4 y5 y6 y7 y8) !=0) (Q false (kI y0 y1 y2 y3 y4 y5 y6 y7 y8)) ((let r0:=(gR y0 y1 y2 y3 y4 y5 y6 y7 a1);((aEX y0 y1 y2 y3 y4 y5 y6 y7 a1)/\cond (r0.2.2 !=0) (Q false 0) ((let r1:=(fF y0 y1 y2 y3 y4 y5 y6 y7 r0.1);((aJB y0 y1 y2 y3 y4 y5 y6 y7 r0.1)/\cond (r1.2 !=0) (Q false 0) (i0 false 0 y8 (y8.length:Int) 0 r1.1 r0.1 r0.2.1 ([])))))))))
abbrev yA:=Bool->Int->List Pce->Int->Int->List aA->Int->Int->List (List aA)->List aA->List Seg->List aA->Prop
def aUR (rec x0 x1:uB) (i1:yA) (t4:Bool) (t5:Int) (t40:List Pce) (t41 t42:Int) (iQ:List (List aA)) (kN:List Seg) (iY iP:List aA):Prop:=cond (decide (t42<t41)) ((let e0:=(t40.getD t42.toNat default);((0<=t42/\t42<t40.length)/\(((iP.length+e0.Forms.length)*32<=140737488355328)/\((aBV iQ e0.Rects e0.Cuts)/\cond (!(jT iQ e0.Rects e0.Cuts)) (x0 false 0 t40 t41 t42 iQ kN iY (iP++e0.Forms)) (i1 t4 t5 t40 t41 t42 e0.Cuts (e0.Cuts.length:Int) 0 iQ (iP++e0.Forms) kN iY)))))) (x1 t4 t5 t40 t41 t42 iQ kN iY iP)
def aUQ (rec x0 x1:yA) (t4:Bool) (t5:Int) (t40:List Pce) (t41 t42:Int) (t58:List aA) (t59 t60:Int) (iQ:List (List aA)) (kN:List aA) (iY:List Seg) (iP:List aA):Prop:=cond (decide (t60<t59)) ((let e0:=(t58.getD t60.toNat default);((0<=t60/\t60<t58.length)/\((aBV iQ ([e0]) ([]))/\cond (!(jT iQ ([e0]) ([]))) (x0 false 0 t40 t41 t42 t58 t59 t60 iQ kN iY iP) (rec t4 t5 t40 t41 t42 t58 t59 (aC (t60+1)) iQ kN iY iP))))) (x1 t4 t5 t40 t41 t42 t58 t59 t60 iQ kN iY iP)
def aD1 (F:Nat) (x0 x1:yA):Nat->yA
 |0=>fun _ _ _ _ _ _ _ _ _ _ _ _=>False
 |n+1=>aUQ (aD1 F x0 x1 n) x0 x1
def aJg (F:Nat) (rec x0 x1:uB):yA:=aD1 F (fun t4 t5 t40 t41 t42 _ _ _ iQ kN iY iP=>x0 t4 t5 t40 t41 t42 iQ iY iP kN) (fun t4 t5 t40 t41 t42 _ _ _ iQ kN iY iP=>rec t4 t5 t40 t41 (aC (t42+1)) iQ iY iP kN) F
def uT (F:Nat) (x0 x1:uB):Nat->uB
 |0=>fun _ _ _ _ _ _ _ _ _=>False
 |n+1=>aUR (uT F x0 x1 n) x0 x1 (aJg F (uT F x0 x1 n) x0 x1)
def aJh (F:Nat) (Q:Bool->Int->Prop):uB:=uT F (fun t4 t5 _ _ _ _ _ _ _=>Q t4 t5) (fun _ _ _ _ _ _ _ iY iP=>((aJK iP iY)/\Q (aDy iP iY) 0)) F
def aMa (F:Nat) (y0 y1:ByteArray) (y2 y3 y4 y5:Int) (y6 y7:List aA) (y8:List Pce) (a1:List Opn) (Q:Bool->Int->Prop):Prop:=aUS y0 y1 y2 y3 y4 y5 y6 y7 y8 a1 Q (aJh F Q)
theorem mV {b:Bool} {x y:Int} (h:cond b x y=0) (hx:x≠0):b=false/\y=0:=by
 cases b with
 |false=>exact⟨rfl,h⟩
 |true=>exact absurd h hx
theorem aLu {x y:Int} (h:cond (x !=0) x y=0):x=0/\y=0:=by
 cases hb:(x !=0) with
 |false=>
  rw[hb] at h;exact⟨by simpa using hb,h⟩
 |true=>
  rw[hb] at h;rw[show x=0 from h] at hb;cases hb
theorem aV6 {α:Type} {f:α->Int}:∀{l:List α},tK f l=0->∀x∈l,f x=0
 |[],_,x,hx=>by cases hx
 |y::l,h,x,hx=>by
  obtain⟨h1,h2⟩:=aLu h;rcases List.mem_cons.1 hx with rfl|hx
  ·exact h1
  ·exact aV6 h2 x hx
theorem bBp {nm mt:ByteArray} {g gr:Int} {R C M:List aA} (h:iF nm mt g gr R C M=0):
  (R.length<=12/\C.length<=12/\M.length<=12)/\dQ R=true/\dQ C=true/\∀i,i<R.length->(R.take i).any (ovP (R.getD i default))=false:=by
 unfold iF at h;obtain⟨_,h⟩:=mV h (by omega);obtain⟨_,h⟩:=mV h (by omega);obtain⟨h3,h⟩:=mV h (by omega);obtain⟨h4,h⟩:=mV h (by omega);obtain⟨_,h⟩:=mV h (by omega);obtain⟨h6,_⟩:=mV h (by omega);simp only[Bool.or_eq_false_iff,decide_eq_false_iff_not,Bool.not_eq_false'] at h3 h4;refine⟨by omega,h4.1.1.2,h4.1.2,fun i hi=>?_⟩;have:=List.any_eq_false.1 h6 i (List.mem_range.2 hi);simpa using this
theorem aDm {r:aA} (h:fS r=true): -1048576<=r.X/\r.X+r.W<=1048576/\1<=r.W/\r.W<=2097152/\ -1048576<=r.Y/\r.Y+r.H<=1048576/\1<=r.H/\r.H<=2097152:=by
 unfold fS at h;rw[mD] at h;exact aBM h
theorem bCF {a b:aA} (ha:fS a=true) (hb:fS b=true) (h:ovP a b=false):apart a b:=by
 have p:=aDm ha;have q:=aDm hb;unfold ovP vG at h;unfold fS at ha hb;rw[ha,hb,bQ (n:=a.X+a.W) (by omega) (by omega),bQ (n:=a.Y+a.H) (by omega) (by omega),bQ (n:=b.X+b.W) (by omega) (by omega),bQ (n:=b.Y+b.H) (by omega) (by omega)] at h;unfold apart;refine Classical.byContradiction fun hn=>?_
 rw[aW (show a.X<b.X+b.W by omega),aW (show b.X<a.X+a.W by omega),aW (show a.Y<b.Y+b.H by omega),aW (show b.Y<a.Y+a.H by omega)] at h;cases h
theorem bKs {a b:Int} (ha: -1048576<=a/\a<=1048576) (hb: -1048576<=b/\b<=1048576) {r:aA} (h:fS (gJ a b r)=true):rOK r/\gJ a b r=⟨r.X-a,r.Y-b,r.W,r.H⟩:=by
 unfold gJ at h ⊢;cases hf:oP r with
 |true=>
  rw[hf] at h;have:=aDm h;simp only[cond_true] at this;omega
 |false=>
  rw[hf] at h;have:=aDm h;simp only[cond_false] at this ⊢;unfold oP at hf;simp only[Bool.or_eq_false_iff,decide_eq_false_iff_not] at hf;rw[bQ (n:=r.X-a) (by omega) (by omega),bQ (n:=r.Y-b) (by omega) (by omega)];exact⟨⟨by omega,by omega,by omega,by omega⟩,rfl⟩
def okP (p:Pce):Prop:=okL 20 p.Rects/\okL 20 p.Cuts/\p.Forms.length<=20/\p.Rects.Pairwise apart
theorem bBq {p:Pce} (h:pT p=0):okP p:=by
 unfold pT vC mvS at h;obtain⟨h1,h⟩:=mV h (by omega);simp only[Bool.not_eq_false'] at h1;have hall:∀r∈p.Rects,fS r=true:=List.all_eq_true.1 h1;cases hl:((p.Rects.length:Int)==0) with
 |true=>
  rw[hl] at h;have e:p.Rects=[]:=List.eq_nil_of_length_eq_zero (by
   simp only[beq_iff_eq] at hl;omega)
  exfalso;unfold iF at h;simp only[cond_true] at h;obtain⟨_,h⟩:=mV h (by omega);obtain⟨_,h⟩:=mV h (by omega);obtain⟨_,h⟩:=mV h (by omega);obtain⟨h4,_⟩:=mV h (by omega);rw[hl] at h4;cases h4
 |false=>
  rw[hl] at h;have hpos:0<p.Rects.length:=by
   simp only[beq_eq_false_iff_ne] at hl;omega
  have h0:=j2 (hall _ (gC (j:=0) hpos));obtain⟨q1,q2,q3,q4⟩:=aPz p.Rects ((p.Rects.getD 0 default).X,(p.Rects.getD 0 default).Y) h0.1 h0.2.1 h0.2.2.1 h0.2.2.2 fun r hr=>j2 (hall r hr)
  change -1048576<=(dC p.Rects).1 at q1;change (dC p.Rects).1<=1048576 at q2;change -1048576<=(dC p.Rects).2 at q3;change (dC p.Rects).2<=1048576 at q4;obtain⟨⟨l1,l2,l3⟩,v1,v2,hov⟩:=bBp h;rw[List.length_map] at l1 l2 l3;have vb:∀{l:List aA},dQ (l.map (gJ (dC p.Rects).1 (dC p.Rects).2))=true->∀r∈l,rOK r/\fS (gJ (dC p.Rects).1 (dC p.Rects).2 r)=true/\gJ (dC p.Rects).1 (dC p.Rects).2 r=⟨r.X-(dC p.Rects).1,r.Y-(dC p.Rects).2,r.W,r.H⟩:=fun hv r hr=>by
   have hb:=List.all_eq_true.1 hv _ (List.mem_map.2 ⟨r,hr,rfl⟩);obtain⟨z1,z2⟩:=bKs ⟨q1,q2⟩ ⟨q3,q4⟩ hb;exact⟨z1,hb,z2⟩
  refine⟨⟨by omega,fun r hr=>(vb v1 r hr).1⟩,⟨by omega,fun r hr=>(vb v2 r hr).1⟩,by omega,?_⟩;rw[List.pairwise_iff_getElem];intro i j hi hj hij;have ho:=hov j (by rw[List.length_map];exact hj);obtain⟨_,b1,e1⟩:=vb v1 _ (List.getElem_mem hi);obtain⟨_,b2,e2⟩:=vb v1 _ (List.getElem_mem hj);have e3:(p.Rects.map (gJ (dC p.Rects).1 (dC p.Rects).2)).getD j default=gJ (dC p.Rects).1 (dC p.Rects).2 p.Rects[j]:=by
   rw[List.getD_eq_getElem?_getD,List.getElem?_map,List.getElem?_eq_getElem hj];rfl
  have hm:gJ (dC p.Rects).1 (dC p.Rects).2 p.Rects[i]∈(p.Rects.map (gJ (dC p.Rects).1 (dC p.Rects).2)).take j:=by
   rw[List.mem_take_iff_getElem];exact⟨i,by simp;omega,by simp⟩
  have h9:=List.any_eq_false.1 ho _ hm;rw[e3] at h9;have:=bCF b2 b1 (by simpa using h9);rw[e1,e2] at this;unfold apart at this ⊢;simp only at this;omega
theorem aIS {nm mt:ByteArray} {g gr w h:Int} {cl us:List aA} {ps:List Pce} (hq:(kI nm mt g gr w h cl us ps !=0)=false):ps.length<=8/\∀p∈ps,okP p:=by
 have hz:kI nm mt g gr w h cl us ps=0:=by simpa using hq
 unfold kI aB9 at hz;obtain⟨_,h1⟩:=aLu hz;obtain⟨h2,h3⟩:=mV h1 (by omega);obtain⟨h4,_⟩:=aLu h3;simp only[decide_eq_false_iff_not] at h2;exact⟨by omega,fun p hp=>bBq (aV6 h4 p hp)⟩
theorem aY5 {r:aA} (h:aEJ r):rOK r:=by
 unfold aEJ at h;unfold rOK;omega
theorem aI8 {nm mt:ByteArray} {g gr w h:Int} {cl us:List aA} {ls:List Seg} (hq:((fF nm mt g gr w h cl us ls).2 !=0)=false):
  (fF nm mt g gr w h cl us ls).1.length<=10000/\∀c∈(fF nm mt g gr w h cl us ls).1,okL 10000 c:=by
 obtain⟨h1,h2⟩:=aYi nm mt g gr w h cl us ls;obtain⟨e,hz,hok,_⟩:=aYj (by simpa using hq);refine⟨h1,fun c hc=>⟨h2 c hc,fun r hr=>aY5 ?_⟩⟩;rw[e] at hc;exact bBt ⟨hz.1,hz.2.1⟩ ⟨hz.2.2.1,hz.2.2.2⟩ hok r (List.mem_flatten.2 ⟨c,hc,hr⟩)
theorem aNm {r:aA} (h:rOK r):okL 20 [r]:=⟨by simp,fun s hs=>by rw[List.mem_singleton.1 hs];exact h⟩
theorem aNn:okL 20 []:=⟨by simp,fun s hs=>by cases hs⟩
def jC (ps:List Pce) (i:Nat):List aA:=(ps.take i).flatMap Pce.Forms
theorem aVY {ps:List Pce} {i:Nat} (h:i<ps.length):jC ps (i+1)=jC ps i++(ps.getD i default).Forms:=by
 unfold jC;rw[aDn ps i h,List.flatMap_append];simp
theorem aL6 {ps:List Pce} (h:∀p∈ps,okP p) (hl:ps.length<=8) (i:Nat):(jC ps i).length<=160:=by
 have key:∀l:List Pce,(∀p∈l,okP p)->(l.flatMap Pce.Forms).length<=l.length*20:=fun l=>by
  induction l with
  |nil=>intro _;simp
  |cons p l ih=>
   intro h;have h1:=(h p (List.mem_cons_self ..)).2.2.1;have h2:=ih fun q hq=>h q (List.mem_cons_of_mem _ hq)
   rw[List.flatMap_cons,List.length_append,List.length_cons];omega
 have:=key (ps.take i) fun p hp=>h p (List.mem_of_mem_take hp)
 have h2:(ps.take i).length<=8:=by simp;omega
 unfold jC;omega
def aC6 (v:Int) (run:List Seg×List aA×Int) (parts:List (List aA)×Int) (sep:List aA->List aA->Bool) (ps:List Pce):Bool×Int:=
 cond (v !=0) (false,v) (cond (run.2.2 !=0) (false,0) (cond (parts.2 !=0) (false,0)
  (cond (ps.any fun p=>(!(sep p.Rects p.Cuts))||p.Cuts.any fun r=>!(sep [r] [])) (false,0) (eqB (jC ps ps.length) run.2.1,0))))
theorem aYg (l:List (List aA)) (rs hs:List aA):jT l rs hs=l.any (aAR rs hs):=aF0 (aAR rs hs) l 0 (by omega)
def aJA (nm mt:ByteArray) (g gr w h:Int) (cl us:List aA) (ps:List Pce) (ops:List Opn):Prop:=cl.length<=2000000/\us.length<=2000000/\sQ ps
def sL (nm mt:ByteArray) (g gr w h:Int) (cl us:List aA) (ps:List Pce) (ops:List Opn):Bool×Int:=
 aC6 (kI nm mt g gr w h cl us ps) (gR nm mt g gr w h cl us ops) (fF nm mt g gr w h cl us (gR nm mt g gr w h cl us ops).1) (jT (fF nm mt g gr w h cl us (gR nm mt g gr w h cl us ops).1).1) ps
theorem bCi (y0 y1:ByteArray) (y2 y3 y4 y5:Int) (y6 y7:List aA) (y8:List Pce) (a1:List Opn) (h:aJA y0 y1 y2 y3 y4 y5 y6 y7 y8 a1):∃F,∀Q:Bool->Int->Prop,Q ((sL y0 y1 y2 y3 y4 y5 y6 y7 y8 a1).1) ((sL y0 y1 y2 y3 y4 y5 y6 y7 y8 a1).2)->aMa F y0 y1 y2 y3 y4 y5 y6 y7 y8 a1 Q:=by
 obtain⟨F,hF⟩:∃F:Nat,100<F:=⟨101,by omega⟩;refine⟨F,fun Q hQ=>?_⟩;unfold sL aC6 at hQ;refine⟨h,?_⟩;cases q1:(kI y0 y1 y2 y3 y4 y5 y6 y7 y8 !=0)
 case true=>
  rw[q1] at hQ;exact hQ
 rw[q1] at hQ;simp only[cond_false] at hQ ⊢;obtain⟨hl,hok⟩:=aIS q1;refine⟨trivial,?_⟩;generalize gR y0 y1 y2 y3 y4 y5 y6 y7 a1=run at hQ ⊢;cases q2:(run.2.2 !=0)
 case true=>
  rw[q2] at hQ;exact hQ
 rw[q2] at hQ;simp only[cond_false] at hQ ⊢;refine⟨trivial,?_⟩;cases q3:((fF y0 y1 y2 y3 y4 y5 y6 y7 run.1).2 !=0)
 case true=>
  rw[q3] at hQ;exact hQ
 rw[q3] at hQ;simp only[cond_false] at hQ ⊢;obtain⟨hpl,hpo⟩:=aI8 q3;generalize (fF y0 y1 y2 y3 y4 y5 y6 y7 run.1).1=parts at hQ hpl hpo ⊢;unfold aJh;refine jX y8 (fun p=>(!(jT parts p.Rects p.Cuts))||p.Cuts.any fun r=>!(jT parts [r] [])) (Q false 0) (Q (eqB (jC y8 y8.length) run.2.1) 0) (fun n i=>uT F _ _ n false 0 y8 y8.length i parts run.1 run.2.1 (jC y8 i.toNat)) (fun n i hi hx hw=>?_) (fun n hy=>?_) F (by omega) (fun q=>?_) (fun q=>?_)
 ·show cond (decide ((i:Int)<(y8.length:Int))) _ _;rw[aW (by omega),cond_true];have fl:=aL6 hok hl i;have hp:=hok _ (gC hi);have e:=aVY hi;rw[Int.toNat_natCast,e] at hw;refine⟨⟨by omega,by omega⟩,?_⟩;rw[Int.toNat_natCast];generalize y8.getD i default=p at hx hw hp ⊢;obtain⟨p1,p2,p3,p4⟩:=hp;refine⟨by omega,⟨by omega,p1,p2,hpo⟩,?_⟩;cases b1:!(jT parts p.Rects p.Cuts)
  case true=>exact hx (by rw[b1];rfl)
  simp only[b1,Bool.false_or] at hx hw;rw[cond_false];unfold aJg;refine jX p.Cuts (fun r=>!(jT parts [r] [])) (Q false 0) (uT F _ _ n false 0 y8 y8.length ((i+1:Nat):Int) parts run.1 run.2.1 (jC y8 i++p.Forms)) (fun m k=>aD1 F _ _ m false 0 y8 y8.length i p.Cuts p.Cuts.length k parts (jC y8 i++p.Forms) run.1 run.2.1) (fun m k hk hx' hw'=>?_) (fun m hy=>?_) F (by have:=p2.1;omega) hx hw
  ·show cond (decide ((k:Int)<(p.Cuts.length:Int))) _ _;rw[aW (by omega),cond_true];refine⟨⟨by omega,by omega⟩,⟨by omega,aNm (p2.2 _ (gC (by omega))),aNn,hpo⟩,?_⟩;rw[Int.toNat_natCast,bX hk (by have:=p2.1;omega)];cases hb:!(jT parts [p.Cuts.getD k default] []) with
   |true=>exact hx' hb
   |false=>exact hw' hb
  ·show cond (decide ((p.Cuts.length:Int)<(p.Cuts.length:Int))) _ _;rw[bD (by omega),cond_false];show uT F _ _ n false 0 y8 y8.length (aC ((i:Int)+1)) parts run.1 run.2.1 (jC y8 i++p.Forms);rw[bX hi (by omega)];exact hy
 ·show cond (decide ((y8.length:Int)<(y8.length:Int))) _ _;rw[bD (by omega),cond_false,Int.toNat_natCast];exact⟨show (jC y8 y8.length).length<=2000000 from by have:=aL6 hok hl y8.length;omega,hy⟩
 ·rw[q] at hQ;exact hQ
 ·rw[q] at hQ;exact hQ
def yT:Nat->Nat->Nat->Canon UU:=fun o b r=>cond (Nat.beq b 0) ⟨[1,2,5,6],[2],[],[],[]⟩ (⟨[],[],[],[],[]⟩)
abbrev xO:=List aA->Int->Int->Int->Int->Int->Int->Prop
def aT3 (aE aD aG aF:Int) (a1:List aA) (Q:Int->Prop) (i0:xO):Prop:=i0 a1 0 0 aE aD aG aF
def aT2 (rec x0:xO) (t1:List aA) (t5 t6 aS aR aU aT:Int):Prop:=cond (decide (t6<(t1.length:Int))) ((let e0:=(t1.getD t6.toNat default);((0<=t6/\t6<t1.length)/\(let e1:=(t1.getD t6.toNat default);((0<=t6/\t6<t1.length)/\(let e2:=(t1.getD t6.toNat default);((0<=t6/\t6<t1.length)/\(let v3:=aC ((mi (aC (aS+aU)) (aC (e0.X+e1.W)))-(ma aS e2.X));(let e4:=(t1.getD t6.toNat default);((0<=t6/\t6<t1.length)/\(let e5:=(t1.getD t6.toNat default);((0<=t6/\t6<t1.length)/\(let e6:=(t1.getD t6.toNat default);((0<=t6/\t6<t1.length)/\(let v7:=aC ((mi (aC (aR+aT)) (aC (e4.Y+e5.H)))-(ma aR e6.Y));cond ((decide (0<v3))&&(decide (0<v7))) (rec t1 (aC (t5+(aC (v3*v7)))) (aC (t6+1)) aS aR aU aT) (rec t1 t5 (aC (t6+1)) aS aR aU aT)))))))))))))))) (x0 t1 t5 t6 aS aR aU aT)
def aDQ (F:Nat) (x0:xO):Nat->xO
 |0=>fun _ _ _ _ _ _ _=>False
 |n+1=>aT2 (aDQ F x0 n) x0
def aEg (F:Nat) (Q:Int->Prop):xO:=aDQ F (fun _ t5 _ _ _ _ _=>Q t5) F
def aMY (F:Nat) (aE aD aG aF:Int) (a1:List aA) (Q:Int->Prop):Prop:=aT3 aE aD aG aF a1 Q (aEg F Q)
def zH:Nat->Nat->Nat->Canon UU:=fun o b r=>cond (Nat.beq b 0) ⟨[0,3,4],[],[],[],[]⟩ (⟨[],[],[],[],[]⟩)
def aUi (a0:List aA) (Q:Int->Prop) (i0:List aA->Int->Int->Prop):Prop:=i0 a0 0 0
def aUh (rec x0:List aA->Int->Int->Prop) (t0:List aA) (t3 t4:Int):Prop:=cond (decide (t4<(t0.length:Int))) ((let e0:=(t0.getD t4.toNat default);((0<=t4/\t4<t0.length)/\(let e1:=(t0.getD t4.toNat default);((0<=t4/\t4<t0.length)/\rec t0 (aC (t3+(aC (e0.W*e1.H)))) (aC (t4+1))))))) (x0 t0 t3 t4)
def aAs (F:Nat) (x0:List aA->Int->Int->Prop):Nat->List aA->Int->Int->Prop
 |0=>fun _ _ _=>False
 |n+1=>aUh (aAs F x0 n) x0
def aEr (F:Nat) (Q:Int->Prop):List aA->Int->Int->Prop:=aAs F (fun _ t3 _=>Q t3) F
def aMf (F:Nat) (a0:List aA) (Q:Int->Prop):Prop:=aUi a0 Q (aEr F Q)
def aEV (x y w h:Int) (l:List aA):Prop:=rOK ⟨x,y,w,h⟩/\okL 20 l
def aBA (x y w h:Int) (l:List aA):Int:=cJ (shP ⟨x,y,w,h⟩) l
theorem bC1 (aE aD aG aF:Int) (a1:List aA) (h:aEV aE aD aG aF a1):∃F,∀Q:Int->Prop,Q (aBA aE aD aG aF a1)->aMY F aE aD aG aF a1 Q:=by
 obtain⟨hc,h1,h2⟩:=h;refine⟨a1.length+1,fun Q hQ=>?_⟩;unfold aBA at hQ;show aEg (a1.length+1) Q a1 0 0 aE aD aG aF;unfold aEg;refine j5 a1 (shP ⟨aE,aD,aG,aF⟩) 4398046511104 0 (fun r hr=>by have:=sS (r:=r) hc;omega) (by omega) (by omega) (by omega) (fun n i s=>aDQ (a1.length+1) _ n a1 s i aE aD aG aF) (fun n i s hi b1 b2 b3 b4 hw=>?_) (fun n=>?_) (a1.length+1) (by omega)
 ·show cond (decide ((i:Int)<(a1.length:Int))) _ _;rw[aW (by omega),cond_true];have gV:(0:Int)<=i/\(i:Int)<a1.length:=⟨by omega,by omega⟩;refine⟨gV,gV,gV,gV,gV,gV,?_⟩;have hr:=h2 _ (gC hi);have hb:=sS (r:=a1.getD i default) hc;rw[Int.toNat_natCast,bX hi (by omega)];generalize a1.getD i default=r at hr hb hw b3 b4 ⊢;have hc':=hc;unfold rOK at hc' hr;simp only at hc';have er:=aYc ⟨aE,aD,aG,aF⟩ r;simp only at er;rw[bQ (n:=aE+aG) (by omega) (by omega),bQ (n:=r.X+r.W) (by omega) (by omega),bQ (n:=aD+aF) (by omega) (by omega),bQ (n:=r.Y+r.H) (by omega) (by omega)];simp only[miE,maE];rw[bQ (n:=min (aE+aG) (r.X+r.W)-max aE r.X) (by omega) (by omega),bQ (n:=min (aD+aF) (r.Y+r.H)-max aD r.Y) (by omega) (by omega)]
  by_cases hd:0<min (aE+aG) (r.X+r.W)-max aE r.X/\0<min (aD+aF) (r.Y+r.H)-max aD r.Y
  ·rw[if_pos hd] at er;rw[aW hd.1,aW hd.2,Bool.and_true,cond_true,er,bQ (n:=shP _ _) (by omega) (by omega),bQ (by omega) (by omega)];exact hw
  ·rw[if_neg hd] at er;have e:((decide (0<min (aE+aG) (r.X+r.W)-max aE r.X))&&(decide (0<min (aD+aF) (r.Y+r.H)-max aD r.Y)))=false:=by
    rw[<- Bool.decide_and];exact bD hd
   rw[e,cond_false];rw[<- er,Int.add_zero] at hw;exact hw
 ·show cond (decide ((a1.length:Int)<(a1.length:Int))) _ _;rw[bD (by omega),cond_false,Int.zero_add];exact hQ
def aBU (l:List aA):Prop:=okL 10000 l
def aBC (l:List aA):Int:=eO l
theorem bCr (a0:List aA) (h:aBU a0):∃F,∀Q:Int->Prop,Q (aBC a0)->aMf F a0 Q:=by
 obtain⟨h1,h2⟩:=h;refine⟨a0.length+1,fun Q hQ=>?_⟩;show aEr (a0.length+1) Q a0 0 0;unfold aEr;refine j5 a0 arR 4398046511104 0 (fun r hr=>mW (h2 r hr)) (by omega) (by omega) (by omega) (fun n i s=>aAs (a0.length+1) _ n a0 s i) (fun n i s hi b1 b2 b3 b4 hw=>?_) (fun n=>?_) (a0.length+1) (by omega)
 ·show cond (decide ((i:Int)<(a0.length:Int))) _ _;rw[aW (by omega),cond_true];refine⟨⟨by omega,by omega⟩,⟨by omega,by omega⟩,?_⟩;have hb:=mW (h2 _ (gC hi));rw[Int.toNat_natCast,bX hi (by omega)];show aAs (a0.length+1) _ n a0 (aC (s+aC (arR (a0.getD i default)))) ((i+1:Nat):Int);rw[bQ (n:=arR (a0.getD i default)) (by omega) (by omega),bQ (by omega) (by omega)];exact hw
 ·show cond (decide ((a0.length:Int)<(a0.length:Int))) _ _;rw[bD (by omega),cond_false,Int.zero_add];exact hQ
def yX:Nat->Nat->Nat->Canon UU:=fun o b r=>cond (Nat.beq b 0) ⟨[0,1,2,6,7],[],[],[],[]⟩ (⟨[],[],[],[],[]⟩)
abbrev xR:=List aA->List aA->List aA->Bool->Int->Prop
def aTb (a0 a1 a2:List aA) (Q:Bool->Prop) (i0:xR):Prop:=i0 a0 a1 a2 false 0
def aTa (rec x0 x1:xR) (t0 t1 t2:List aA) (t6:Bool) (t7:Int):Prop:=cond (decide (t7<(t0.length:Int))) ((let e0:=(t0.getD t7.toNat default);((0<=t7/\t7<t0.length)/\((aEV e0.X e0.Y e0.W e0.H t1)/\(let e1:=(t0.getD t7.toNat default);((0<=t7/\t7<t0.length)/\(let e2:=(t0.getD t7.toNat default);((0<=t7/\t7<t0.length)/\cond ((aBA e0.X e0.Y e0.W e0.H t1) !=(aC (e1.W*e2.H))) (x0 t0 t1 t2 false t7) ((let e3:=(t0.getD t7.toNat default);((0<=t7/\t7<t0.length)/\((aEV e3.X e3.Y e3.W e3.H t2)/\cond ((aBA e3.X e3.Y e3.W e3.H t2) !=0) (x0 t0 t1 t2 false t7) (rec t0 t1 t2 t6 (aC (t7+1))))))))))))))) (x1 t0 t1 t2 t6 t7)
def aDS (F:Nat) (x0 x1:xR):Nat->xR
 |0=>fun _ _ _ _ _=>False
 |n+1=>aTa (aDS F x0 x1 n) x0 x1
def aEi (F:Nat) (Q:Bool->Prop):xR:=aDS F (fun _ _ _ t6 _=>Q t6) (fun t0 t1 t2 _ _=>(let v0:=aC ((aBC t1)-(aBC t2));(((aBU t0)/\((aBU t1)/\(aBU t2)))/\Q ((aBC t0)==v0)))) F
def aM2 (F:Nat) (a0 a1 a2:List aA) (Q:Bool->Prop):Prop:=aTb a0 a1 a2 Q (aEi F Q)
def aIq (cells rs hs:List aA):Prop:=okL 10000 cells/\okL 20 rs/\okL 20 hs
def sH (cells rs hs:List aA):Bool:=(cells.all fun c=>decide (cJ (shP c) rs=arR c)&&decide (cJ (shP c) hs=0))&&decide (eO cells=eO rs-eO hs)
theorem okL.wide {l:List aA} (h:okL 20 l):okL 10000 l:=⟨Nat.le_trans h.1 (by omega),h.2⟩
theorem bC5 (a0 a1 a2:List aA) (h:aIq a0 a1 a2):∃F,∀Q:Bool->Prop,Q (sH a0 a1 a2)->aM2 F a0 a1 a2 Q:=by
 obtain⟨h0,h1,h2⟩:=h;refine⟨a0.length+1,fun Q hQ=>?_⟩;have l0:=h0.1;unfold sH at hQ;show aEi (a0.length+1) Q a0 a1 a2 false 0;unfold aEi;refine jX a0 (fun c=>!(decide (cJ (shP c) a1=arR c)&&decide (cJ (shP c) a2=0))) (Q false) (Q (decide (eO a0=eO a1-eO a2))) (fun n i=>aDS (a0.length+1) _ _ n a0 a1 a2 false i) (fun n i hi hx hw=>?_) (fun n hy=>?_) (a0.length+1) (by omega) (fun q=>?_) (fun q=>?_)
 ·show cond (decide ((i:Int)<(a0.length:Int))) _ _;rw[aW (by omega),cond_true];have gV:(0:Int)<=i/\(i:Int)<a0.length:=⟨by omega,by omega⟩;have hc:=h0.2 _ (gC hi);refine⟨gV,⟨?_,h1⟩,gV,gV,?_⟩
  ·rw[Int.toNat_natCast];exact hc
  rw[Int.toNat_natCast,bX hi (by omega)];have hb:=mW hc;generalize a0.getD i default=c at hx hw hc hb ⊢;show cond (cJ (shP c) a1 !=aC (arR c)) _ _;rw[bQ (n:=arR c) (by omega) (by omega)]
  by_cases q1:cJ (shP c) a1=arR c
  ·rw[q1,bne_self_eq_false,cond_false];refine⟨gV,⟨hc,h2⟩,?_⟩;show cond (cJ (shP c) a2 !=0) _ _
   by_cases q2:cJ (shP c) a2=0
   ·rw[q2,bne_self_eq_false,cond_false];exact hw (by rw[aW q1,aW q2];rfl)
   ·rw[bne_iff_ne.2 q2,cond_true];exact hx (by rw[bD q2,Bool.and_false];rfl)
  ·rw[bne_iff_ne.2 q1,cond_true];exact hx (by rw[bD q1];rfl)
 ·show cond (decide ((a0.length:Int)<(a0.length:Int))) _ _;rw[bD (by omega),cond_false];refine⟨⟨h0,h1.wide,h2.wide⟩,?_⟩;have b1:=oC (f:=arR) (B:=4398046511104) (l:=a1) fun r hr=>mW (h1.2 r hr)
  have b2:=oC (f:=arR) (B:=4398046511104) (l:=a2) fun r hr=>mW (h2.2 r hr)
  have c1:=h1.1;have c2:=h2.1;have e1:eO a1=cJ arR a1:=rfl;have e2:eO a2=cJ arR a2:=rfl;show Q (eO a0==aC (eO a1-eO a2));rw[bQ (n:=eO a1-eO a2) (by omega) (by omega)];exact hy
 ·have e:(a0.all fun c=>decide (cJ (shP c) a1=arR c)&&decide (cJ (shP c) a2=0))=false:=by
   rw[List.all_eq_not_any_not,q];rfl
  rw[e] at hQ;exact hQ
 ·have e:(a0.all fun c=>decide (cJ (shP c) a1=arR c)&&decide (cJ (shP c) a2=0))=true:=by
   rw[List.all_eq_not_any_not,q];rfl
  rw[e,Bool.true_and] at hQ;exact hQ
def yU:Nat->Nat->Nat->Canon UU:=fun o b r=>cond (Nat.beq b 0) ⟨[0,1,2,6,7],[],[],[],[]⟩ (⟨[],[],[],[],[]⟩)
abbrev xP:=List (List aA)->List aA->List aA->Bool->Int->Prop
def aT5 (a0:List (List aA)) (a1 a2:List aA) (Q:Bool->Prop) (i0:xP):Prop:=i0 a0 a1 a2 false 0
def aT4 (rec x0 x1:xP) (t0:List (List aA)) (t1 t2:List aA) (t6:Bool) (t7:Int):Prop:=cond (decide (t7<(t0.length:Int))) ((let e0:=(t0.getD t7.toNat default);(((0<=t7/\t7<t0.length)/\(aIq e0 t1 t2))/\cond (sH e0 t1 t2) (x0 t0 t1 t2 true t7) (rec t0 t1 t2 t6 (aC (t7+1)))))) (x1 t0 t1 t2 t6 t7)
def aDR (F:Nat) (x0 x1:xP):Nat->xP
 |0=>fun _ _ _ _ _=>False
 |n+1=>aT4 (aDR F x0 x1 n) x0 x1
def aEh (F:Nat) (Q:Bool->Prop):xP:=aDR F (fun _ _ _ t6 _=>Q t6) (fun _ _ _ _ _=>Q false) F
def aMZ (F:Nat) (a0:List (List aA)) (a1 a2:List aA) (Q:Bool->Prop):Prop:=aT5 a0 a1 a2 Q (aEh F Q)
def aGQ (rs hs c:List aA):Bool:=sH c rs hs
def aEW (l:List (List aA)) (rs hs:List aA):Prop:=l.length<=2000000/\okL 20 rs/\okL 20 hs/\∀c∈l,okL 10000 c
def kH (l:List (List aA)) (rs hs:List aA):Bool:=l.any (aGQ rs hs)
theorem bC2 (a0:List (List aA)) (a1 a2:List aA) (h:aEW a0 a1 a2):∃F,∀Q:Bool->Prop,Q (kH a0 a1 a2)->aMZ F a0 a1 a2 Q:=by
 obtain⟨h1,h2,h3,h4⟩:=h;refine⟨a0.length+1,fun Q hQ=>?_⟩;unfold kH at hQ;show aEh (a0.length+1) Q a0 a1 a2 false 0;unfold aEh;refine jX a0 (aGQ a1 a2) (Q true) (Q false) (fun n i=>aDR (a0.length+1) _ _ n a0 a1 a2 false i) (fun n i hi hx hw=>?_) (fun n hy=>?_) (a0.length+1) (by omega) (fun q=>?_) (fun q=>?_)
 ·show cond (decide ((i:Int)<(a0.length:Int))) _ _;rw[aW (by omega),cond_true];refine⟨⟨⟨by omega,by omega⟩,h4 _ (gC (by omega)),h2,h3⟩,?_⟩;rw[Int.toNat_natCast,bX hi (by omega)];show cond (aGQ a1 a2 (a0.getD i default)) _ _;cases hb:aGQ a1 a2 (a0.getD i default) with
  |true=>exact hx hb
  |false=>exact hw hb
 ·show cond (decide ((a0.length:Int)<(a0.length:Int))) _ _;rw[bD (by omega),cond_false];exact hy
 ·rw[q] at hQ;exact hQ
 ·rw[q] at hQ;exact hQ
def qN:Nat->Nat->Nat->Canon UU:=fun o b r=>cond (Nat.beq b 0) ⟨[2,4,5,7,9,11,12],[2,7],[(.tmp 9,82,.rects),(.tmp 11,83,.rect)],[],[82]⟩ (cond (Nat.beq b 2) ⟨[2,4,5,7,9,11,12,13,14],[2,7,13],[(.tmp 9,82,.rects),(.tmp 11,83,.rect)],[],[82]⟩ (⟨[],[],[],[],[]⟩))
abbrev tX:=Bool->Int->Int->ByteArray->ByteArray->Int->Int->Int->Int->List aA->List aA->List Pce->List Seg->List aA->List (List aA)->List aA->Prop
def aTi (y0 y1:ByteArray) (y2 y3 y4 y5:Int) (y6 y7:List aA) (y8:List Pce) (a1:List Opn) (Q:Bool->Int->Prop) (i0:tX):Prop:=(let r0:=(j9 y0 y1 y2 y3 y4 y5 y6 y7 y8);((aIx y0 y1 y2 y3 y4 y5 y6 y7 y8)/\cond (r0 !=0) (Q false r0) ((let r1:=(jS y0 y1 y2 y3 y4 y5 y6 y7 a1);((aIr y0 y1 y2 y3 y4 y5 y6 y7 a1)/\cond (r1.2.2 !=0) (Q false 0) ((let r2:=(sK y0 y1 y2 y3 y4 y5 y6 y7 r1.1);((aIv y0 y1 y2 y3 y4 y5 y6 y7 r1.1)/\cond (r2.2 !=0) (Q false 0) (i0 false 0 0 y0 y1 y2 y3 y4 y5 y6 y7 y8 r1.1 r1.2.1 r2.1 ([]))))))))))
abbrev xU:=Bool->Int->Int->Int->ByteArray->ByteArray->Int->Int->Int->Int->List aA->List aA->List Pce->List Seg->List aA->ByteArray->ByteArray->Int->Int->List aA->List aA->List aA->List (List aA)->List aA->Prop
def aTh (rec x0 x1:tX) (i1:xU) (t4:Bool) (t5 t12:Int) (aS aR:ByteArray) (aU aT bB bA:Int) (aZ bE:List aA) (jG:List Pce) (cN:List Seg) (cI:List aA) (iO:List (List aA)) (iN:List aA):Prop:=cond (decide (t12<(jG.length:Int))) ((let e0:=(jG.getD t12.toNat default);((0<=t12/\t12<jG.length)/\(((iN.length+e0.Forms.length)*32<=140737488355328)/\((aEW iO e0.Rects e0.Cuts)/\cond (!(kH iO e0.Rects e0.Cuts)) (x0 false 0 t12 aS aR aU aT bB bA aZ bE jG cN cI iO (iN++e0.Forms)) (i1 t4 t5 t12 0 aS aR aU aT bB bA aZ bE jG cN cI e0.Name e0.Material e0.Gauge e0.Grain e0.Rects e0.Cuts e0.Forms iO (iN++e0.Forms))))))) (x1 t4 t5 t12 aS aR aU aT bB bA aZ bE jG cN cI iO iN)
def aTg (rec x0 x1:xU) (t4:Bool) (t5 t12 t14:Int) (aS aR:ByteArray) (aU aT bB bA:Int) (aZ bE:List aA) (jG:List Pce) (cN:List Seg) (cI:List aA) (cY cX:ByteArray) (cV cU:Int) (gW gO iK:List aA) (iO:List (List aA)) (iN:List aA):Prop:=cond (decide (t14<(gO.length:Int))) ((let v0:=(gO.drop t14.toNat).take (((aC (t14+1)).toNat)-t14.toNat);(((0<=t14/\t14<=(aC (t14+1))/\(aC (t14+1))<=gO.length)/\(aEW iO v0 ([])))/\cond (!(kH iO v0 ([]))) (x0 false 0 t12 t14 aS aR aU aT bB bA aZ bE jG cN cI cY cX cV cU gW gO iK iO iN) (rec t4 t5 t12 (aC (t14+1)) aS aR aU aT bB bA aZ bE jG cN cI cY cX cV cU gW gO iK iO iN)))) (x1 t4 t5 t12 t14 aS aR aU aT bB bA aZ bE jG cN cI cY cX cV cU gW gO iK iO iN)
def aDU (F:Nat) (x0 x1:xU):Nat->xU
 |0=>fun _ _ _ _ _ _ _ _ _ _ _ _ _ _ _ _ _ _ _ _ _ _ _ _=>False
 |n+1=>aTg (aDU F x0 x1 n) x0 x1
def aJ4 (F:Nat) (rec x0 x1:tX):xU:=aDU F (fun t4 t5 t12 _ aS aR aU aT bB bA aZ bE jG cN cI _ _ _ _ _ _ _ iO iN=>x0 t4 t5 t12 aS aR aU aT bB bA aZ bE jG cN cI iO iN) (fun t4 t5 t12 _ aS aR aU aT bB bA aZ bE jG cN cI _ _ _ _ _ _ _ iO iN=>rec t4 t5 (aC (t12+1)) aS aR aU aT bB bA aZ bE jG cN cI iO iN) F
def uO (F:Nat) (x0 x1:tX):Nat->tX
 |0=>fun _ _ _ _ _ _ _ _ _ _ _ _ _ _ _ _=>False
 |n+1=>aTh (uO F x0 x1 n) x0 x1 (aJ4 F (uO F x0 x1 n) x0 x1)
def aJ5 (F:Nat) (Q:Bool->Int->Prop):tX:=uO F (fun t4 t5 _ _ _ _ _ _ _ _ _ _ _ _ _ _=>Q t4 t5) (fun _ _ _ _ _ _ _ _ _ _ _ _ _ cI _ iN=>((aIy cI iN)/\Q (aDs cI iN) 0)) F
def aM4 (F:Nat) (y0 y1:ByteArray) (y2 y3 y4 y5:Int) (y6 y7:List aA) (y8:List Pce) (a1:List Opn) (Q:Bool->Int->Prop):Prop:=aTi y0 y1 y2 y3 y4 y5 y6 y7 y8 a1 Q (aJ5 F Q)
def aIt (nm mt:ByteArray) (g gr w h:Int) (cl us:List aA) (ps:List Pce) (ops:List Opn):Prop:=cl.length<=2000000/\us.length<=2000000/\sQ ps
def sJ (nm mt:ByteArray) (g gr w h:Int) (cl us:List aA) (ps:List Pce) (ops:List Opn):Bool×Int:=
 aC6 (kI nm mt g gr w h cl us ps) (jS nm mt g gr w h cl us ops) (fF nm mt g gr w h cl us (jS nm mt g gr w h cl us ops).1) (kH (fF nm mt g gr w h cl us (jS nm mt g gr w h cl us ops).1).1) ps
theorem bHt {α:Type} (a b:α):eqB a b=eqB b a:=by
 rw[Bool.eq_iff_iff,tM,tM];exact eq_comm
theorem take_one {l:List aA} {k:Nat} (h:k<l.length):(l.drop (k:Int).toNat).take (k+1-(k:Int).toNat)=[l.getD k default]:=by
 rw[Int.toNat_natCast,show k+1-k=1 by omega,iJ l k h];rfl
theorem bAZ (nm mt:ByteArray) (g gr w h:Int) (cl us:List aA) (ops:List Opn):(jS nm mt g gr w h cl us ops).2.1.length<=4000:=by
 unfold jS;cases (iB nm mt g gr w h cl us !=0)
 case true=>simp
 simp only[cond_false]
 by_cases h2:4000<(ops.length:Int)
 ·rw[aW h2];simp
 rw[bD h2];simp only[cond_false];unfold aBJ;cases q:nF w h cl ops (0,0,[],[]) with
 |none=>simp
 |some t=>
  have:=(aE8 w h cl ops _ _ q (by intro z hz;cases hz)).2.2;simp only[List.length_nil] at this ⊢;omega
theorem bC8 (y0 y1:ByteArray) (y2 y3 y4 y5:Int) (y6 y7:List aA) (y8:List Pce) (a1:List Opn) (h:aIt y0 y1 y2 y3 y4 y5 y6 y7 y8 a1):∃F,∀Q:Bool->Int->Prop,Q ((sJ y0 y1 y2 y3 y4 y5 y6 y7 y8 a1).1) ((sJ y0 y1 y2 y3 y4 y5 y6 y7 y8 a1).2)->aM4 F y0 y1 y2 y3 y4 y5 y6 y7 y8 a1 Q:=by
 obtain⟨F,hF⟩:∃F:Nat,100<F:=⟨101,by omega⟩;refine⟨F,fun Q hQ=>?_⟩;unfold sJ aC6 at hQ;refine⟨h,?_⟩;rw[bFY];cases q1:(kI y0 y1 y2 y3 y4 y5 y6 y7 y8 !=0)
 case true=>
  rw[q1] at hQ;exact hQ
 rw[q1] at hQ;simp only[cond_false] at hQ ⊢;obtain⟨hl,hok⟩:=aIS q1;refine⟨trivial,?_⟩;have hst:=bAZ y0 y1 y2 y3 y4 y5 y6 y7 a1;generalize jS y0 y1 y2 y3 y4 y5 y6 y7 a1=run at hQ hst ⊢;cases q2:(run.2.2 !=0)
 case true=>
  rw[q2] at hQ;exact hQ
 rw[q2] at hQ;simp only[cond_false] at hQ ⊢;refine⟨aJL _ _ _ _ _ _ _ _,?_⟩;rw[aYh];cases q3:((fF y0 y1 y2 y3 y4 y5 y6 y7 run.1).2 !=0)
 case true=>
  rw[q3] at hQ;exact hQ
 rw[q3] at hQ;simp only[cond_false] at hQ ⊢;obtain⟨hpl,hpo⟩:=aI8 q3;generalize (fF y0 y1 y2 y3 y4 y5 y6 y7 run.1).1=parts at hQ hpl hpo ⊢;unfold aJ5;refine jX y8 (fun p=>(!(kH parts p.Rects p.Cuts))||p.Cuts.any fun r=>!(kH parts [r] [])) (Q false 0) (Q (eqB (jC y8 y8.length) run.2.1) 0) (fun n i=>uO F _ _ n false 0 i y0 y1 y2 y3 y4 y5 y6 y7 y8 run.1 run.2.1 parts (jC y8 i.toNat)) (fun n i hi hx hw=>?_) (fun n hy=>?_) F (by omega) (fun q=>?_) (fun q=>?_)
 ·show cond (decide ((i:Int)<(y8.length:Int))) _ _;rw[aW (by omega),cond_true];have fl:=aL6 hok hl i;have hp:=hok _ (gC hi);have e:=aVY hi;rw[Int.toNat_natCast,e] at hw;refine⟨⟨by omega,by omega⟩,?_⟩;rw[Int.toNat_natCast];generalize y8.getD i default=p at hx hw hp ⊢;obtain⟨p1,p2,p3,p4⟩:=hp;refine⟨by omega,⟨by omega,p1,p2,hpo⟩,?_⟩;cases b1:!(kH parts p.Rects p.Cuts)
  case true=>exact hx (by rw[b1];rfl)
  simp only[b1,Bool.false_or] at hx hw;rw[cond_false];unfold aJ4;refine jX p.Cuts (fun r=>!(kH parts [r] [])) (Q false 0) (uO F _ _ n false 0 ((i+1:Nat):Int) y0 y1 y2 y3 y4 y5 y6 y7 y8 run.1 run.2.1 parts (jC y8 i++p.Forms)) (fun m k=>aDU F _ _ m false 0 i k y0 y1 y2 y3 y4 y5 y6 y7 y8 run.1 run.2.1 p.Name p.Material p.Gauge p.Grain p.Rects p.Cuts p.Forms parts (jC y8 i++p.Forms)) (fun m k hk hx' hw'=>?_) (fun m hy=>?_) F (by have:=p2.1;omega) hx hw
  ·show cond (decide ((k:Int)<(p.Cuts.length:Int))) _ _;rw[aW (by omega),cond_true];have hlen:=p2.1;rw[bX hk (by omega),Int.toNat_natCast];have e1:=take_one hk;dsimp only;rw[e1];refine⟨⟨⟨by omega,by omega,by omega⟩,by omega,aNm (p2.2 _ (gC (by omega))),aNn,hpo⟩,?_⟩;cases hb:!(kH parts [p.Cuts.getD k default] []) with
   |true=>exact hx' hb
   |false=>exact hw' hb
  ·show cond (decide ((p.Cuts.length:Int)<(p.Cuts.length:Int))) _ _;rw[bD (by omega),cond_false];show uO F _ _ n false 0 (aC ((i:Int)+1)) y0 y1 y2 y3 y4 y5 y6 y7 y8 run.1 run.2.1 parts (jC y8 i++p.Forms);rw[bX hi (by omega)];exact hy
 ·show cond (decide ((y8.length:Int)<(y8.length:Int))) _ _;rw[bD (by omega),cond_false,Int.toNat_natCast];refine⟨show run.2.1.length<=2000000 by omega,?_⟩;show Q (eqB run.2.1 (jC y8 y8.length)) 0;rw[bHt];exact hy
 ·rw[q] at hQ;exact hQ
 ·rw[q] at hQ;exact hQ
def aWy:Nat->Nat->Nat->Canon UU:=fun o b r=>⟨[],[],[],[],[]⟩
def bGd (y0 y1:ByteArray) (y2 y3 y4 y5:Int) (y6 y7:List aA) (y8:List Pce) (a1:List Opn) (Q:Bool->Prop):Prop:=(let r0:=(sL y0 y1 y2 y3 y4 y5 y6 y7 y8 a1);((aJA y0 y1 y2 y3 y4 y5 y6 y7 y8 a1)/\(let r1:=(sJ y0 y1 y2 y3 y4 y5 y6 y7 y8 a1);((aIt y0 y1 y2 y3 y4 y5 y6 y7 y8 a1)/\Q (((r0.1==r1.1)&&(r0.2==r1.2))&&aDx)))))
def aMp (F:Nat) (y0 y1:ByteArray) (y2 y3 y4 y5:Int) (y6 y7:List aA) (y8:List Pce) (a1:List Opn) (Q:Bool->Prop):Prop:=bGd y0 y1 y2 y3 y4 y5 y6 y7 y8 a1 Q
theorem bJA {rs hs cells:List aA} (hr:rs.Pairwise apart) (hc:okL 10000 cells):sH cells rs hs=pG cells rs hs:=by
 have h:=bIz (rects:=rs) (holes:=hs) (cells:=cells) hr fun c hm=>⟨(hc.2 c hm).2.2.1.1,(hc.2 c hm).2.2.2.1⟩
 unfold sH pG;rw[Bool.eq_iff_iff];simp only[Bool.and_eq_true,List.all_eq_true,decide_eq_true_eq];exact h.symm
theorem aWO {rs hs:List aA} {parts:List (List aA)} (hr:rs.Pairwise apart) (hc:∀c∈parts,okL 10000 c):kH parts rs hs=jT parts rs hs:=by
 rw[aYg];unfold kH
 induction parts with
 |nil=>rfl
 |cons c parts ih=>
  rw[List.any_cons,List.any_cons,ih fun d hd=>hc d (List.mem_cons_of_mem _ hd)];show (sH c rs hs||_)=(pG c rs hs||_);rw[bJA hr (hc c (List.mem_cons_self ..))]
theorem any_congr {α:Type} {l:List α} {f g:α->Bool} (h:∀x∈l,f x=g x):l.any f=l.any g:=by
 induction l with
 |nil=>rfl
 |cons x l ih=>rw[List.any_cons,List.any_cons,h x (List.mem_cons_self ..),ih fun y hy=>h y (List.mem_cons_of_mem _ hy)]
theorem bA0 (nm mt:ByteArray) (g gr w h:Int) (cl us:List aA) (ops:List Opn):jS nm mt g gr w h cl us ops=gR nm mt g gr w h cl us ops:=by
 unfold jS gR;rw[aEL]
theorem bJT (nm mt:ByteArray) (g gr w h:Int) (cl us:List aA) (ps:List Pce) (ops:List Opn):sJ nm mt g gr w h cl us ps ops=sL nm mt g gr w h cl us ps ops:=by
 unfold sJ sL aC6;rw[bA0];cases q1:(kI nm mt g gr w h cl us ps !=0)
 case true=>rfl
 simp only[cond_false];cases ((gR nm mt g gr w h cl us ops).2.2 !=0)
 case true=>rfl
 simp only[cond_false];cases q3:((fF nm mt g gr w h cl us (gR nm mt g gr w h cl us ops).1).2 !=0)
 case true=>rfl
 simp only[cond_false];obtain⟨hl,hok⟩:=aIS q1;obtain⟨_,hpo⟩:=aI8 q3;have e:(ps.any fun p=>(!(kH (fF nm mt g gr w h cl us (gR nm mt g gr w h cl us ops).1).1 p.Rects p.Cuts))||p.Cuts.any fun r=>!(kH (fF nm mt g gr w h cl us (gR nm mt g gr w h cl us ops).1).1 [r] []))=(ps.any fun p=>(!(jT (fF nm mt g gr w h cl us (gR nm mt g gr w h cl us ops).1).1 p.Rects p.Cuts))||p.Cuts.any fun r=>!(jT (fF nm mt g gr w h cl us (gR nm mt g gr w h cl us ops).1).1 [r] [])):=by
  refine any_congr fun p hp=>?_
  rw[aWO (hok p hp).2.2.2 hpo];congr 1;exact any_congr fun r hr=>by rw[aWO (List.pairwise_singleton _ _) hpo]
 rw[e]
theorem bF1 (F:Nat) (nm mt:ByteArray) (g gr w h:Int) (cl us:List aA) (ps:List Pce) (ops:List Opn) (h6:cl.length<=2000000) (h7:us.length<=2000000) (hp:sQ ps):aMp F nm mt g gr w h cl us ps ops fun r=>r=true:=by
 refine⟨⟨h6,h7,hp⟩,⟨h6,h7,hp⟩,?_⟩;rw[bJT];simp[aDx]
set_option maxRecDepth 100000
def aPj:Model UU
 |[.int .i64 a0,.int .i64 a1]=>some ([],.bool (aIZ a0 a1))
 |_=>none
def aXb:Cfg UU:=aX7.add 165 aPj
theorem bAA:aX aXb:=tin aZv mixed Tryz.func165 (by kernel_rfl) (by kernel_rfl) false fun xs cs r h=>by
 unfold aPj at h;split at h
 ·cases h;exact⟨by kernel_rfl,by kernel_rfl⟩
 ·cases h
def aPT:Model UU
 |[.int .i64 a0]=>some ([],.bool (lM a0))
 |_=>none
def aXO:Cfg UU:=aXb.add 184 aPT
theorem aZ6:aX aXO:=tin bAA mixed Tryz.func184 (by kernel_rfl) (by kernel_rfl) false fun xs cs r h=>by
 unfold aPT at h;split at h
 ·cases h;exact⟨by kernel_rfl,by kernel_rfl⟩
 ·cases h
def aPc:Model UU
 |[.int .i64 a0,.int .i64 a1,.int .i64 a2]=>some ([],.bool (jU a0 a1 a2))
 |_=>none
def aX3:Cfg UU:=aXO.add 109 aPc
theorem aZq:aX aX3:=tin aZ6 mixed Tryz.func109 (by kernel_rfl) (by kernel_rfl) false fun xs cs r h=>by
 unfold aPc at h;split at h
 ·cases h;exact⟨by kernel_rfl,by kernel_rfl⟩
 ·cases h
def aP6:Model UU
 |[.agg [.str qa,.str qb,.int .i64 qc,.int .i64 qd,.int .i64 qf,.int .i64 qg,.sl .rect qh,.sl .rect qi],.int .i64 a1,.int .i64 a2]=>some ([],.bool (iC qa qb qc qd qf qg qh qi a1 a2))
 |_=>none
def aXX:Cfg UU:=aX3.add 113 aP6
theorem aZk:aX aXX:=tin aZq mixed Tryz.func113 (by kernel_rfl) (by kernel_rfl) false fun xs cs r h=>by
 unfold aP6 at h;split at h
 ·cases h;exact⟨by kernel_rfl,by kernel_rfl⟩
 ·cases h
def aP5:Model UU
 |[.int .i64 a0,.int .i64 a1,.int .i64 a2,.int .i64 a3]=>some ([],.agg [.int .i64 ((fT a0 a1 a2 a3).1),.int .i64 ((fT a0 a1 a2 a3).2.1),.int .i64 ((fT a0 a1 a2 a3).2.2.1),.int .i64 ((fT a0 a1 a2 a3).2.2.2)])
 |_=>none
def aXW:Cfg UU:=aXX.add 114 aP5
theorem aZj:aX aXW:=tin aZk mixed Tryz.func114 (by kernel_rfl) (by kernel_rfl) false fun xs cs r h=>by
 unfold aP5 at h;split at h
 ·cases h;exact⟨by kernel_rfl,by kernel_rfl⟩
 ·cases h
def aP1:Model UU
 |[.agg [.int .i64 qo,.int .i64 qm,.int .i64 qt,.int .i64 qn],.agg [.int .i64 bL,.int .i64 bK,.int .i64 cC,.int .i64 cD]]=>some ([],.bool (aEA qo qm qt qn bL bK cC cD))
 |_=>none
def aXU:Cfg UU:=aXW.add 117 aP1
theorem aZf:aX aXU:=cM aZj mixed Tryz.func117 (by kernel_rfl) (by kernel_rfl) fun xs cs r h hc=>by
 unfold aP1 at h;split at h
 ·rename_i qo qm qt qn bL bK cC cD;cases h;refine⟨by kernel_rfl,M0,0,false,⟨of_eq (q:=(fun Q:Bool->Prop=>cond (qm==qn) (Q ((((decide (bK<qm))&&(decide (qm<(aC (bK+cD)))))&&(decide (qo<(aC (bL+cC)))))&&(decide (bL<qt)))) (Q ((((decide (bL<qo))&&(decide (qo<(aC (bL+cC)))))&&(decide (qm<(aC (bK+cD)))))&&(decide (bK<qn))))) fun r0=>(.bool r0:aB UU)=.bool (aEA qo qm qt qn bL bK cC cD)) (by kernel_rfl) ?_⟩⟩;unfold aEA;cases (qm==qn)<;>rfl
 ·cases h
def aPO:Model UU
 |[.agg [.int .i64 qo,.int .i64 qm,.int .i64 qt,.int .i64 qn],.agg [.int .i64 qr,.int .i64 qq,.int .i64 qu,.int .i64 qs]]=>some ([],.bool (n9 qo qm qt qn qr qq qu qs))
 |_=>none
def aXL:Cfg UU:=aXU.add 142 aPO
theorem aZ1:aX aXL:=cM aZf mixed Tryz.func142 (by kernel_rfl) (by kernel_rfl) fun xs cs r h hc=>by
 unfold aPO at h;split at h
 ·rename_i qo qm qt qn qr qq qu qs;cases h;refine⟨by kernel_rfl,M0,0,false,⟨of_eq (q:=(fun Q:Bool->Prop=>cond (!((qm==qn)==(qq==qs))) (Q (qm==qn)) (cond (qm==qn) (Q ((decide (qm<qq))||((qm==qq)&&(decide (qo<qr))))) (Q ((decide (qo<qr))||((qo==qr)&&(decide (qm<qq))))))) fun r0=>(.bool r0:aB UU)=.bool (n9 qo qm qt qn qr qq qu qs)) (by kernel_rfl) ?_⟩⟩;unfold n9;cases (!((qm==qn)==(qq==qs)))<;>cases (qm==qn)<;>rfl
 ·cases h
def aPP:Model UU
 |[.agg [.int .i64 qo,.int .i64 qm,.int .i64 qt,.int .i64 qn],.agg [.int .i64 qr,.int .i64 qq,.int .i64 qu,.int .i64 qs]]=>some ([],.bool (o0 qo qm qt qn qr qq qu qs))
 |_=>none
def aXM:Cfg UU:=aXL.add 143 aPP
theorem aZ2:aX aXM:=cM aZ1 mixed Tryz.func143 (by kernel_rfl) (by kernel_rfl) fun xs cs r h hc=>by
 unfold aPP at h;split at h
 ·rename_i qo qm qt qn qr qq qu qs;cases h;refine⟨by kernel_rfl,M0,0,false,⟨of_eq (q:=(fun Q:Bool->Prop=>cond (qm==qn) (Q (((qq==qs)&&(qm==qq))&&(decide (qr<=qt)))) (Q (((qr==qu)&&(qo==qr))&&(decide (qq<=qn))))) fun r0=>(.bool r0:aB UU)=.bool (o0 qo qm qt qn qr qq qu qs)) (by kernel_rfl) ?_⟩⟩;unfold o0;cases (qm==qn)<;>rfl
 ·cases h
def aP8:Model UU
 |[.agg [.int .i64 ql,.int .i64 aE,.int .i64 aD,.int .i64 aG,.int .i64 aF,.int .i64 dG],.agg [.int .i64 bL,.int .i64 bK]]=>some ([],.agg [.int .i64 ((vF ql aE aD aG aF dG bL bK).1),.int .i64 ((vF ql aE aD aG aF dG bL bK).2)])
 |_=>none
def aXZ:Cfg UU:=aXM.add 49 aP8
theorem aZm:aX aXZ:=cM aZ2 mixed Tryz.func49 (by kernel_rfl) (by kernel_rfl) fun xs cs r h hc=>by
 unfold aP8 at h;split at h
 ·rename_i ql aE aD aG aF dG bL bK;cases h;refine⟨by kernel_rfl,M0,0,false,⟨of_eq (q:=(fun Q:Int->Int->Prop=>cond (ql==3) (Q bL bK) (Q aE aD)) fun bAo bAl=>(.agg [.int .i64 bAo,.int .i64 bAl]:aB UU)=.agg [.int .i64 ((vF ql aE aD aG aF dG bL bK).1),.int .i64 ((vF ql aE aD aG aF dG bL bK).2)]) (by kernel_rfl) ?_⟩⟩;unfold vF;cases (ql==3)<;>rfl
 ·cases h
def aP7:Model UU
 |[.agg [.int .i64 ql,.int .i64 aE,.int .i64 aD,.int .i64 aG,.int .i64 aF,.int .i64 dG]]=>some ([],.bool (aBG ql aE aD aG aF dG))
 |_=>none
def aXY:Cfg UU:=aXZ.add 45 aP7
theorem aZl:aX aXY:=cM aZm mixed Tryz.func45 (by kernel_rfl) (by kernel_rfl) fun xs cs r h hc=>by
 unfold aP7 at h;split at h
 ·rename_i ql aE aD aG aF dG;cases h;refine⟨by kernel_rfl,M0,0,false,⟨of_eq (q:=(fun Q:Bool->Prop=>cond (ql==1) (Q (((aG==0)&&(aF==0))&&(dG==0))) (cond (ql==2) (Q (((aG==0)&&(aF==0))&&(dG==0))) (cond (ql==4) (Q (((aG==0)&&(aF==0))&&(dG==0))) (cond (ql==3) (Q (dG==0)) (cond (ql==5) (Q (((aD==0)&&(aG==0))&&(aF==0))) (cond (ql==6) (Q (aF==0)) (Q false))))))) fun r0=>(.bool r0:aB UU)=.bool (aBG ql aE aD aG aF dG)) (by kernel_rfl) ?_⟩⟩;unfold aBG;cases (ql==1)<;>cases (ql==2)<;>cases (ql==4)<;>cases (ql==3)<;>cases (ql==5)<;>cases (ql==6)<;>rfl
 ·cases h
def aPk:Model UU
 |[.int .i64 a0,.int .i64 a1]=>some ([],.bool (aEE a0 a1))
 |_=>none
def aXc:Cfg UU:=aXY.add 164 aPk
theorem bAB:aX aXc:=tin aZl mixed Tryz.func164 (by kernel_rfl) (by kernel_rfl) false fun xs cs r h=>by
 unfold aPk at h;split at h
 ·cases h;exact⟨by kernel_rfl,by kernel_rfl⟩
 ·cases h
def aPl:Model UU
 |[.agg [.int .i64 aE,.int .i64 aD,.int .i64 aG,.int .i64 aF]]=>some ([],.bool (iW aE aD aG aF))
 |_=>none
def aXd:Cfg UU:=aXc.add 112 aPl
theorem bAC:aX aXd:=tin bAB mixed Tryz.func112 (by kernel_rfl) (by kernel_rfl) false fun xs cs r h=>by
 unfold aPl at h;split at h
 ·cases h;exact⟨by kernel_rfl,by kernel_rfl⟩
 ·cases h
def aPn:Model UU
 |[.agg [.int .i64 aE,.int .i64 aD,.int .i64 aG,.int .i64 aF],.agg [.int .i64 bL,.int .i64 bK,.int .i64 cC,.int .i64 cD]]=>some ([],.bool (pI aE aD aG aF bL bK cC cD))
 |_=>none
def aXf:Cfg UU:=aXd.add 57 aPn
theorem bAE:aX aXf:=tin bAC mixed Tryz.func57 (by kernel_rfl) (by kernel_rfl) false fun xs cs r h=>by
 unfold aPn at h;split at h
 ·cases h;exact⟨by kernel_rfl,by kernel_rfl⟩
 ·cases h
def aPa:Model UU
 |[.int .i64 a0,.int .i64 a1]=>some ([],.bool (lA a0 a1))
 |_=>none
def aX1:Cfg UU:=aXf.add 108 aPa
theorem aZo:aX aX1:=tin bAE mixed Tryz.func108 (by kernel_rfl) (by kernel_rfl) false fun xs cs r h=>by
 unfold aPa at h;split at h
 ·cases h;exact⟨by kernel_rfl,by kernel_rfl⟩
 ·cases h
def aPb:Model UU
 |[.agg [.str qa,.str qb,.int .i64 qc,.int .i64 qd,.int .i64 qf,.int .i64 qg,.sl .rect qh,.sl .rect qi],.int .i64 a1]=>some ([],.tup [.agg [.int .i64 ((o5 qa qb qc qd qf qg qh qi a1).1),.int .i64 ((o5 qa qb qc qd qf qg qh qi a1).2.1),.int .i64 ((o5 qa qb qc qd qf qg qh qi a1).2.2.1),.int .i64 ((o5 qa qb qc qd qf qg qh qi a1).2.2.2.1)],.bool ((o5 qa qb qc qd qf qg qh qi a1).2.2.2.2)])
 |_=>none
def aX2:Cfg UU:=aX1.add 111 aPb
theorem aZp:aX aX2:=tin aZo mixed Tryz.func111 (by kernel_rfl) (by kernel_rfl) false fun xs cs r h=>by
 unfold aPb at h;split at h
 ·cases h;exact⟨by kernel_rfl,by kernel_rfl⟩
 ·cases h
def aPW:Model UU
 |[.agg [.int .i64 aE,.int .i64 aD,.int .i64 aG,.int .i64 aF]]=>some ([],.bool (gK aE aD aG aF))
 |_=>none
def aXQ:Cfg UU:=aX2.add 140 aPW
theorem aZ9:aX aXQ:=cM aZp mixed Tryz.func140 (by kernel_rfl) (by kernel_rfl) fun xs cs r h hc=>by
 unfold aPW at h;split at h
 ·rename_i aE aD aG aF;cases h;refine⟨by kernel_rfl,M0,0,false,⟨of_eq (q:=(fun Q:Bool->Prop=>cond ((((((!(lM aE))||(!(lM aD)))||(decide (aG<1)))||(decide (aF<1)))||(decide (2097152<aG)))||(decide (2097152<aF))) (Q false) (Q ((lM (aC (aE+aG)))&&(lM (aC (aD+aF)))))) fun r0=>(.bool r0:aB UU)=.bool (gK aE aD aG aF)) (by kernel_rfl) ?_⟩⟩;unfold gK;cases (((((((!(lM aE))||(!(lM aD)))||(decide (aG<1)))||(decide (aF<1)))||(decide (2097152<aG)))||(decide (2097152<aF))))<;>rfl
 ·cases h
def aPU:Model UU
 |[.agg [.int .i64 aE,.int .i64 aD,.int .i64 aG,.int .i64 aF],.agg [.int .i64 bL,.int .i64 bK,.int .i64 cC,.int .i64 cD]]=>some ([],.bool (lN aE aD aG aF bL bK cC cD))
 |_=>none
def rR:Cfg UU:=aXQ.add 68 aPU
theorem aZ7:aX rR:=tin aZ9 mixed Tryz.func68 (by kernel_rfl) (by kernel_rfl) false fun xs cs r h=>by
 unfold aPU at h;split at h
 ·cases h;exact⟨by kernel_rfl,by kernel_rfl⟩
 ·cases h
set_option maxRecDepth 100000
def bI4 (F:Nat):=bW (bC zJ F 0 rR) rR Tryz.f110.ntmps zJ F
def bBF (F:Nat):=cO (bC zJ F 0 rR) rR Tryz.f110.ntmps zJ F
abbrev aWm:=Bool->List aA->Int->Int->Prop
def aBy (k:ASt UU->Prop):aWm:=(fun t2 t5 t6 t7=>k ⟨tmL [(2,.bool t2),(5,.sl .rect t5),(6,.int .i64 t6),(7,.int .i64 t7)],obL []⟩)
def bKL:=(cL (cB (cS (cF (cS (bo Tryz.f110))))))
def aH0 (F:Nat) (K:zK) (n r:Nat):aWm:=aBy fun s=>iter (bI4 F 0 bKL) (zJ 0 0) n r s K
def aSm (F:Nat) (Post:aB UU->Prop):zK:=bJ 0 (bBF F 0 (cS (cS (bo Tryz.f110))) (bH rR false Tryz.f110 Post))
theorem aRD (F:Nat) (K:zK):∀n r,aH0 F K n r=aAt F (aBy (K .ret)) (aBy (K (.exit 0))) n
 |0,_=>by kernel_rfl
 |n+1,r=>Eq.trans (b:=(fun t2 t5 t6 t7=>aUl (aH0 F K n (r+1)) (aBy (K .ret)) (aBy (K (.exit 0))) t2 t5 t6 t7)) (by kernel_rfl) (by rewrite[aRD F K n (r+1)];kernel_rfl)
theorem bEQ (F:Nat) (Post:aB UU->Prop):aH0 F (aSm F Post) F 0=aOQ F (fun r0=>Post (.bool r0)):=
 (aRD F _ F 0).trans (by kernel_rfl)
theorem bH4 (F:Nat) (Post:aB UU->Prop) (a0:List aA):exec rR Tryz.f110.ntmps zJ F 0 (bo Tryz.f110) (cQ [.sl .rect a0]) (bH rR false Tryz.f110 Post)=aMh F a0 (fun r0=>Post (.bool r0)):=
 Eq.trans (b:=aUm a0 (fun r0=>Post (.bool r0)) (aH0 F (aSm F Post) F 0)) (by kernel_rfl) (by rewrite[bEQ F Post];kernel_rfl)
def aOz:Model UU
 |[.sl .rect a0]=>some ([vW a0],.bool (dQ a0))
 |_=>none
def rH:Cfg UU:=rR.add 110 aOz
theorem aZN:aX rH:=cM aZ7 mixed Tryz.func110 (by kernel_rfl) (by kernel_rfl) fun xs cs r h hc=>by
 unfold aOz at h;split at h
 ·rename_i a0;cases h;obtain⟨F,hF⟩:=bCt a0 hc;exact⟨by kernel_rfl,zJ,F,false,⟨by rw[bH4];exact hF _ rfl⟩⟩
 ·cases h
set_option maxRecDepth 100000
def aLf (F:Nat):=bW (bC qQ F 0 rH) rH Tryz.f51.ntmps qQ F
def aN2 (F:Nat):=cO (bC qQ F 0 rH) rH Tryz.f51.ntmps qQ F
abbrev aWj:=Int->List (List aA)->Int->Int->Int->Int->Int->Int->Prop
def wH (k:ASt UU->Prop):aWj:=(fun t2 t70 t71 t72 eC eB eA dZ=>k ⟨tmL [(2,.int .i64 t2),(3,.ptr 3 0),(70,.sl .rects t70),(71,.int .i64 t71),(72,.int .i64 t72)],obL [(3,.cells [.int .i64 eC,.int .i64 eB,.int .i64 eA,.int .i64 dZ])]⟩)
abbrev aWi:=Int->List (List aA)->Int->Int->List aA->Int->Int->Int->Int->Int->Int->Prop
def aBt (k:ASt UU->Prop):aWi:=(fun t2 t70 t71 t72 t76 t77 t78 eC eB eA dZ=>k ⟨tmL [(2,.int .i64 t2),(3,.ptr 3 0),(70,.sl .rects t70),(71,.int .i64 t71),(72,.int .i64 t72),(76,.sl .rect t76),(77,.int .i64 t77),(78,.int .i64 t78)],obL [(3,.cells [.int .i64 eC,.int .i64 eB,.int .i64 eA,.int .i64 dZ])]⟩)
def aG4:=(cL (cB (cS (cF (cS (cS (cS (bo Tryz.f51))))))))
def bKB:=(cL (cB (cS (cS (cB (cF (cS (cS aG4))))))))
def aCw (F:Nat) (K:zK) (n r:Nat):aWj:=wH fun s=>iter (aLf F 1 aG4) (qQ 0 1) n r s K
def aHQ (F:Nat) (K:zK) (n r:Nat):aWi:=aBt fun s=>iter (aLf F 3 bKB) (qQ 0 3) n r s K
def aSb (F:Nat) (Post:aB UU->Prop):zK:=bJ 1 (aN2 F 0 (cS4 (bo Tryz.f51)) (bH rH false Tryz.f51 Post))
def aSa (F n r:Nat) (K:zK):zK:=bJ 3 (bJ 2 (aN2 F 1 (cS (cS (cS aG4))) (fW (aLf F 1 aG4) (qQ 0 1) n r K)))
theorem aQr (F:Nat) (K:zK):∀n r,aHQ F K n r=aAo F (aBt (K .ret)) (aBt (K (.exit 3))) n
 |0,_=>by kernel_rfl
 |n+1,r=>Eq.trans (b:=(fun t2 t70 t71 t72 t76 t77 t78 eC eB eA dZ=>aU2 (aHQ F K n (r+1)) (aBt (K .ret)) (aBt (K (.exit 3))) t2 t70 t71 t72 t76 t77 t78 eC eB eA dZ)) (by kernel_rfl) (by rewrite[aQr F K n (r+1)];kernel_rfl)
theorem bEE (F n r:Nat) (K:zK):aHQ F (aSa F n r K) F 0=aOL F (aCw F K n (r+1)) (wH (K (.exit 1))) (wH (K .ret)):=
 (aQr F _ F 0).trans (by kernel_rfl)
theorem aQs (F:Nat) (K:zK):∀n r,aCw F K n r=j1 F (wH (K (.exit 1))) (wH (K .ret)) n
 |0,_=>by kernel_rfl
 |n+1,r=>Eq.trans (b:=(fun t2 t70 t71 t72 eC eB eA dZ=>aU3 (aCw F K n (r+1)) (wH (K (.exit 1))) (wH (K .ret)) t2 t70 t71 t72 eC eB eA dZ (aHQ F (aSa F n r K) F 0))) (by kernel_rfl) (by rewrite[bEE F n r K,aQs F K n (r+1)];kernel_rfl)
theorem bEF (F:Nat) (Post:aB UU->Prop):aCw F (aSb F Post) F 0=aOM F (fun r0=>Post (.int .i64 r0)):=
 (aQs F _ F 0).trans (by kernel_rfl)
theorem bHW (F:Nat) (Post:aB UU->Prop) (qa qb:ByteArray) (qc qd qf qg:Int) (qh qi:List aA):exec rH Tryz.f51.ntmps qQ F 0 (bo Tryz.f51) (cQ [.agg [.str qa,.str qb,.int .i64 qc,.int .i64 qd,.int .i64 qf,.int .i64 qg,.sl .rect qh,.sl .rect qi]]) (bH rH false Tryz.f51 Post)=aIK F qa qb qc qd qf qg qh qi (fun r0=>Post (.int .i64 r0)):=
 Eq.trans (b:=aLO qa qb qc qd qf qg qh qi (fun r0=>Post (.int .i64 r0)) (aCw F (aSb F Post) F 0)) (by kernel_rfl) (by rewrite[bEF F Post];kernel_rfl)
def aOr:Model UU
 |[.agg [.str qa,.str qb,.int .i64 qc,.int .i64 qd,.int .i64 qf,.int .i64 qg,.sl .rect qh,.sl .rect qi]]=>some ([],.int .i64 (gX qa qb qc qd qf qg qh qi))
 |_=>none
def rB:Cfg UU:=rH.add 51 aOr
theorem aZF:aX rB:=cM aZN mixed Tryz.func51 (by kernel_rfl) (by kernel_rfl) fun xs cs r h hc=>by
 unfold aOr at h;split at h
 ·rename_i qa qb qc qd qf qg qh qi;cases h;obtain⟨F,hF⟩:=bCl qa qb qc qd qf qg qh qi;exact⟨by kernel_rfl,qQ,F,false,⟨by rw[bHW];exact hF _ rfl⟩⟩
 ·cases h
set_option maxRecDepth 100000
def bIV (F:Nat):=bW (bC zB F 0 rB) rB Tryz.f46.ntmps zB F
def bAx (F:Nat):=cO (bC zB F 0 rB) rB Tryz.f46.ntmps zB F
abbrev aWb:=Bool->Int->Int->zzI->Prop
def aBp (k:ASt UU->Prop):aWb:=(fun t2 t16 t17 iH=>k ⟨tmL [(2,.bool t2),(15,.osl 28 0),(16,.int .i64 t16),(17,.int .i64 t17)],obL [(28,.row .int 0 iH)]⟩)
def bJp:=(cL (cB (cS (cF (cS (bo Tryz.f46))))))
def aHE (F:Nat) (K:zK) (n r:Nat):aWb:=aBp fun s=>iter (bIV F 0 bJp) (zB 0 0) n r s K
def aSS (F:Nat) (Post:aB UU->Prop):zK:=bJ 0 (bAx F 0 (cS (cS (bo Tryz.f46))) (bH rB false Tryz.f46 Post))
theorem aQ9 (F:Nat) (K:zK):∀n r,aHE F K n r=aAj F (aBp (K .ret)) (aBp (K (.exit 0))) n
 |0,_=>by kernel_rfl
 |n+1,r=>Eq.trans (b:=(fun t2 t16 t17 iH=>aUH (aHE F K n (r+1)) (aBp (K .ret)) (aBp (K (.exit 0))) t2 t16 t17 iH)) (by kernel_rfl) (by rewrite[aQ9 F K n (r+1)];kernel_rfl)
theorem bDm (F:Nat) (Post:aB UU->Prop):aHE F (aSS F Post) F 0=aOD F (fun r0=>Post (.bool r0)):=
 (aQ9 F _ F 0).trans (by kernel_rfl)
theorem bHQ (F:Nat) (Post:aB UU->Prop) (ql aE aD aG aF dG:Int):exec rB Tryz.f46.ntmps zB F 0 (bo Tryz.f46) (cQ [.agg [.int .i64 ql,.int .i64 aE,.int .i64 aD,.int .i64 aG,.int .i64 aF,.int .i64 dG]]) (bH rB false Tryz.f46 Post)=aM8 F ql aE aD aG aF dG (fun r0=>Post (.bool r0)):=
 Eq.trans (b:=aUI ql aE aD aG aF dG (fun r0=>Post (.bool r0)) (aHE F (aSS F Post) F 0)) (by kernel_rfl) (by rewrite[bDm F Post];kernel_rfl)
def aOl:Model UU
 |[.agg [.int .i64 ql,.int .i64 aE,.int .i64 aD,.int .i64 aG,.int .i64 aF,.int .i64 dG]]=>some ([],.bool (k6 ql aE aD aG aF dG))
 |_=>none
def aXD:Cfg UU:=rB.add 46 aOl
theorem aYz:aX aXD:=cM aZF mixed Tryz.func46 (by kernel_rfl) (by kernel_rfl) fun xs cs r h hc=>by
 unfold aOl at h;split at h
 ·rename_i ql aE aD aG aF dG;cases h;obtain⟨F,hF⟩:=bCf ql aE aD aG aF dG;exact⟨by kernel_rfl,zB,F,false,⟨by rw[bHQ];exact hF _ rfl⟩⟩
 ·cases h
set_option maxRecDepth 100000
def aPq:Model UU
 |[.agg [.int .i64 a_0,.int .i64 a_1,.int .i64 a_2,.int .i64 a_3],.ref [.int .i64 c_0,.int .i64 c_1,.int .i64 c_2,.int .i64 c_3] 0]=>some ([],.bool (aI0 a_0 a_1 a_2 a_3 c_0 c_1 c_2 c_3))
 |_=>none
def rW:Cfg UU:=aXD.add 116 aPq
theorem bAH:aX rW:=tin aYz mixed Tryz.func116 (by kernel_rfl) (by kernel_rfl) false fun xs cs r h=>by
 unfold aPq at h;split at h
 ·cases h;exact⟨by kernel_rfl,by kernel_rfl⟩
 ·cases h
def bId (F:Nat):=bW (bC zT F 0 rW) rW Tryz.f166.ntmps zT F
def bBO (F:Nat):=cO (bC zT F 0 rW) rW Tryz.f166.ntmps zT F
abbrev aWp:=List aA->Int->Int->Int->Int->Int->Int->Int->Prop
def aCJ (k:ASt UU->Prop):aWp:=(fun t0 dS eS eQ eP t4 t7 t8=>k ⟨tmL [(0,.sl .rect t0),(1,.fn 116 [.ref [.int .i64 dS,.int .i64 eS,.int .i64 eQ,.int .i64 eP] 0]),(4,.int .i64 t4),(7,.int .i64 t7),(8,.int .i64 t8)],obL []⟩)
def bK1:=(cL (cB (cS (cF (cS (bo Tryz.f166))))))
def aHg (F:Nat) (K:zK) (n r:Nat):aWp:=aCJ fun s=>iter (bId F 0 bK1) (zT 0 0) n r s K
def aTH (F:Nat) (Post:aB UU->Prop):zK:=bJ 0 (bBO F 0 (cS (cS (bo Tryz.f166))) (bH rW false Tryz.f166 Post))
theorem aRY (F:Nat) (K:zK):∀n r,aHg F K n r=aAx F (aCJ (K .ret)) (aCJ (K (.exit 0))) n
 |0,_=>by kernel_rfl
 |n+1,r=>Eq.trans (b:=(fun t0 dS eS eQ eP t4 t7 t8=>aVO (aHg F K n (r+1)) (aCJ (K .ret)) (aCJ (K (.exit 0))) t0 dS eS eQ eP t4 t7 t8)) (by kernel_rfl) (by rewrite[aRY F K n (r+1)];kernel_rfl)
theorem bEb (F:Nat) (Post:aB UU->Prop):aHg F (aTH F Post) F 0=aOU F (fun r0=>Post (.int .i64 r0)):=
 (aRY F _ F 0).trans (by kernel_rfl)
theorem bHi (F:Nat) (Post:aB UU->Prop) (l:List aA) (c_0 c_1 c_2 c_3:Int):exec rW Tryz.f166.ntmps zT F 0 (bo Tryz.f166) (cQ [.sl .rect l,.fn 116 [.ref [.int .i64 c_0,.int .i64 c_1,.int .i64 c_2,.int .i64 c_3] 0]]) (bH rW false Tryz.f166 Post)=aMs F l c_0 c_1 c_2 c_3 (fun r0=>Post (.int .i64 r0)):=
 Eq.trans (b:=aVP l c_0 c_1 c_2 c_3 (fun r0=>Post (.int .i64 r0)) (aHg F (aTH F Post) F 0)) (by kernel_rfl) (by rewrite[bEb F Post];kernel_rfl)
def aPi:Model UU
 |[.sl .rect l,.fn 116 [.ref [.int .i64 c_0,.int .i64 c_1,.int .i64 c_2,.int .i64 c_3] 0]]=>some ([aE6 l c_0 c_1 c_2 c_3],.int .i64 (aED l c_0 c_1 c_2 c_3))
 |_=>none
def aXa:Cfg UU:=rW.add 166 aPi
theorem aZy:aX aXa:=cM bAH mixed Tryz.func166 (by kernel_rfl) (by kernel_rfl) fun xs cs r h hc=>by
 unfold aPi at h;split at h
 ·rename_i l c_0 c_1 c_2 c_3;cases h;obtain⟨F,hF⟩:=bDG l c_0 c_1 c_2 c_3 hc;exact⟨by kernel_rfl,zT,F,false,⟨by rw[bHi];exact hF _ rfl⟩⟩
 ·cases h
set_option maxRecDepth 100000
def aPu:Model UU
 |[.sl .rect l,.fn 116 [.ref [.int .i64 c_0,.int .i64 c_1,.int .i64 c_2,.int .i64 c_3] 0]]=>some ([vY l c_0 c_1 c_2 c_3],.bool (pJ l c_0 c_1 c_2 c_3))
 |_=>none
def aXj:Cfg UU:=aXa.add 115 aPu
theorem bAM:aX aXj:=cM aZy mixed Tryz.func115 (by kernel_rfl) (by kernel_rfl) fun xs cs r h hc=>by
 unfold aPu at h;split at h
 ·rename_i l c_0 c_1 c_2 c_3;cases h;refine⟨by kernel_rfl,M0,0,false,⟨nH (fun Q:Bool->Prop=>((aE6 l c_0 c_1 c_2 c_3)/\Q (decide (0<=(aED l c_0 c_1 c_2 c_3))))) (fun Q=>Q (pJ l c_0 c_1 c_2 c_3)) (fun r0=>(.bool r0:aB UU)=.bool (pJ l c_0 c_1 c_2 c_3)) (by kernel_rfl) (fun Q h=>?_) rfl⟩⟩
  try dsimp only at h ⊢
  unfold pJ at h;have hp:vY l c_0 c_1 c_2 c_3:=hc;unfold vY at hp;have jO:=hp;refine⟨jO,?_⟩;exact h
 ·cases h
end
end Go.Proofs.YtjjbojomlfgjlaaGreatDoor
namespace Go.Proofs.YtjjbojomlfgjlaaGreatDoor
open Go.Vm Go.RowKit Go.Lib
set_option linter.unusedVariables false
noncomputable section
theorem aAL {w0 w:World} {N:Nat->Prop} {τ:Knd} {xs:List (UU.T τ)} {v:Value} {cs:List Value} (hb:Below w0.heap.size w0 w)
  (ho:w.ownsRow w0.heap.size (UU.ety τ) (UU.size τ) v xs.length cs) (hp:∀a,v≠ .pointer a)
  (hr:∀i (h:i<xs.length) k (hk:k<(EE.enc τ xs[i]).length),Rel EE w0 bU (dJ N w0) (EE.enc τ xs[i])[k] (cs.getD (i*UU.size τ+k) undef)):jQ EE w0.heap.size N w (.new τ xs) v:=by
 have hblk:∀b,blk v=some b->w0.heap.size<=b/\b<w.heap.size:=(nD ho hp).2;refine⟨fun k=>if k=.ob 0 then some (0,v) else none,.osl 0 0 _ (by simp) hp,fun k x hk=>?_,fun k g u hk=>?_,fun i j g g' u u' b hi hj hne=>?_⟩
 ·cases k with
  |zero=>
   have:(⟨false,τ,xs⟩:cZ UU)=x:=by simpa[aB.news,eU,fE] using hk
   subst this;refine⟨_,_,by simp,hp,ho,fun i hi k hk'=>?_⟩;refine((hr i hi k hk').flat (ρ':=fun k=>if k=.ob 0 then some (0,v) else none) (EE.enc_flat _ _ _ (List.getElem_mem hk')).1).mono (fun b hb'=>⟨⟨?_,hb'.2,fun nm g u hnm=>?_⟩,hb.block b hb'.1⟩) (fun nm g u h=>.inl h)
   ·have:=hb.size;have:=hb'.1;omega
   ·by_cases hnm0:nm=.ob 0
    ·subst hnm0;simp only[if_true,Option.some.injEq,Prod.mk.injEq] at hnm;obtain⟨_,rfl⟩:=hnm;intro e;have:=(hblk b e).1;have:=hb'.1;omega
    ·simp[hnm0] at hnm
  |succ k=>simp[aB.news,eU,fE] at hk
 ·by_cases iI:k=.ob 0
  ·subst iI;exact⟨⟨false,τ,xs⟩,by simp[aB.news,eU,fE,Name.id],fun _=>⟨0,rfl⟩⟩
  ·simp[iI] at hk
 ·by_cases hi0:i=.ob 0
  ·by_cases lF:j=.ob 0
   ·exact absurd (hi0.trans lF.symm) hne
   ·simp[lF] at hj
  ·simp[hi0] at hi
theorem aO4 (f:Nat->Value) (n i:Nat) (h:i<n):((List.range n).map f).getD i undef=f i:=by simp[List.getD_eq_getElem?_getD,h]
set_option maxHeartbeats 2000000 in
set_option maxRecDepth 100000 in
theorem aVq (ad:Addr) (n c:Nat) (f:Nat->Value) (w:World) (hbig:n*32<=140737488355328) (hc:∀j,j<n*4->w.cell? (ad.add j)=some (f j)) (h1:∀j,j<n*4->(f j).oneCell'=true):
  Calls Tryz.prog 119 #[.slice (some ad) n c] w fun e w'=>∃v',e=.returned v'/\w'.ownsRow w.heap.size 63 4 v' n ((List.range (n*4)).map f)/\(∀a,v'≠ .pointer a)/\Below w.heap.size w w':=by
 have q26:∀(w:World) (a:Option Addr) (n c n' c':Nat),(binOp .eql 75 (.slice a n c) (.slice none n' c')).run Tryz.prog w=.ok (.bool a.isNone) w:=fun w a n c n' c'=>Lib.run_eql_slice_nil w _ _ a n c n' c' Tryz.underlying75
 obtain⟨i0,hi,qB,lR,tI⟩:=info_parts (P:=Tryz.prog) (e:=63) (z:=.agg #[.int .i64 0,.int .i64 0,.int .i64 0,.int .i64 0]) (size:=4) (bytes:=32) (by kernel_rfl);have A:Aside ((∀j,j<n*4->w.cell? (ad.add j)=some (f j))/\∀j,j<n*4->(f j).oneCell'=true):=⟨hc,h1⟩;clear hc h1
 go_enter Tryz.func119,Tryz.ntmps119
 go_wp2_with (at_builtin;refine wpList_append_own _ rfl _ _ 75 rfl w.heap.size 63 i0 (.agg #[.int .i64 0,.int .i64 0,.int .i64 0,.int .i64 0]) 4 32 Tryz.underlying75 hi qB lR tI rfl (by decide) _ _ _ rfl (World.ownsRow_made w #[] 0 (Nat.le_refl _) (Nat.zero_le _) rfl) ad n c ((List.range (n*4)).map f) rfl ?qc1 ?qc2 ?qc3 ?qc4 ?qc5 ?qc6 ?_)
 case qc1=>simp
 case qc2=>
  intro j u hj;have hjn:j<n*4:=by
   have:=(List.getElem?_eq_some_iff.1 hj).1;simpa using this
  refine Lib.cell?_alloc_some _ ?_;rw[A.out.1 j hjn];simpa[hjn] using hj
 case qc3=>
  intro u hu;obtain⟨x,hx,rfl⟩:=List.mem_map.1 hu;exact A.out.2 x (List.mem_range.1 hx)
 case qc4=>unfold maxLen;omega
 case qc5=>omega
 case qc6=>simp
 intro v' w1 hown hgrow hnil
 go_wp2
 go_ret
 refine⟨v',rfl,by simpa using hown,?_,?_⟩
 ·intro a e;subst e;rcases hown.2 with ⟨h,_⟩|⟨_,_,_,h,_⟩<;>cases h
 ·exact((Below.refl _ w).alloc (Nat.le_refl _) _).grown hgrow (by simp) (by intro k hk;simp[Value.ownBlock] at hk;omega)
set_option maxHeartbeats 2000000 in
theorem bJM (w:World):
  Calls Tryz.prog 119 #[.slice none 0 0] w fun e w'=>e=.returned (.slice none 0 0)/\w'=w:=by
 have q26:∀(w:World) (a:Option Addr) (n c n' c':Nat),(binOp .eql 75 (.slice a n c) (.slice none n' c')).run Tryz.prog w=.ok (.bool a.isNone) w:=fun w a n c n' c'=>Lib.run_eql_slice_nil w _ _ a n c n' c' Tryz.underlying75
 go_enter Tryz.func119,Tryz.ntmps119
 go_wp2
 go_ret
 exact⟨rfl,rfl⟩
def aKH:Model UU
 |[.sl .seg xs]=>some ([xs.length<=2000000],.new .seg xs)
 |_=>none
theorem bAV {C:Cfg UU} (hE:C.E=EE) (hs:aX C) (hP:C.P=Tryz.prog):aX (C.add 119 aKH):=by
 refine hs.put ⟨fun args w=>by rw[hP];exact hG (fn:=Tryz.f119) Tryz.func119 (by kernel_rfl) rfl args w,?_⟩;intro N w args xs cs r hinv hN hargs hm hc;unfold aKH at hm;split at hm
 ·rename_i l;cases hm;have hc':l.length<=2000000:=hc;obtain⟨a,rfl,ha⟩:=aHk hargs;rw[hP];rw[hE] at ha ⊢;cases ha with
  |jI=>
   refine(bJM w).mono ?_
   rintro e w' ⟨rfl,rfl⟩
   refine⟨_,rfl,aAL (cs:=[]) (Below.refl _ _) (World.ownsRow_nil _ _ _ _) (by intro a e;cases e) (fun i h=>absurd h (by simp)),Below.refl _ _⟩
  |sle _ ad=>
   refine(aVq ad 0 0 (fun _=>undef) w (by omega) (fun j hj=>absurd hj (by omega)) (fun j hj=>absurd hj (by omega))).mono ?_
   rintro e w' ⟨v',rfl,h1,h2,h3⟩
   exact⟨_,rfl,aAL h3 h1 h2 (fun i h=>absurd h (by simp)),h3⟩
  |sl _ _ b o cap f hb hcap hc hl=>
   have hidx:∀j,j<l.length*4->∃i k,∃(hi:i<l.length) (hk:k<(EE.enc .seg l[i]).length),j=i*UU.size .seg+k:=fun j hj=>by
    have hi:j / 4<l.length:=by omega
    refine⟨j / 4,j % 4,hi,by rw[EE.enc_len];exact Nat.mod_lt _ (by decide),?_⟩;show j=j / 4*4+j % 4;omega
   refine(aVq ⟨b,o,none⟩ l.length cap f w (by omega) (fun j hj=>by rw[Addr.qL];exact hc j hj) (fun j hj=>?_)).mono ?_
   ·obtain⟨i,k,hi,hk,rfl⟩:=hidx j hj;have hfl:=EE.enc_flat _ _ _ (List.getElem_mem hk);exact(hl i hi k hk).pU hfl.2 (fun nm g u h=>by cases h) (fun id g h=>by rw[h] at hfl;cases hfl.1) (fun id g i off sz h=>by rw[h] at hfl;cases hfl.1) (fun id i g h=>by rw[h] at hfl;cases hfl.1) (fun id i g j off sz h=>by rw[h] at hfl;cases hfl.1)
   ·rintro e w' ⟨v',rfl,h1,h2,h3⟩
    refine⟨_,rfl,aAL h3 h1 h2 (fun i hi k hk=>?_),h3⟩;have hk':k<4:=by
     have:=hk;rw[EE.enc_len] at this;exact this
    rw[show i*UU.size .seg+k=i*4+k from rfl,aO4 _ _ _ (by
     have:i*4+4<=l.length*4:=by
      have:=Nat.mul_le_mul_right 4 (show i+1<=l.length from hi);omega
     omega)]
    exact hl i hi k hk
 ·cases hm
set_option maxHeartbeats 2000000 in
set_option maxRecDepth 100000 in
theorem aVr (ad:Addr) (n c:Nat) (f:Nat->Value) (w:World) (hbig:n*32<=140737488355328) (hc:∀j,j<n*4->w.cell? (ad.add j)=some (f j)) (h1:∀j,j<n*4->(f j).oneCell'=true):
  Calls Tryz.prog 55 #[.slice (some ad) n c] w fun e w'=>∃v',e=.returned v'/\w'.ownsRow w.heap.size 53 4 v' n ((List.range (n*4)).map f)/\(∀a,v'≠ .pointer a)/\Below w.heap.size w w':=by
 have q26:∀(w:World) (a:Option Addr) (n c n' c':Nat),(binOp .eql 22 (.slice a n c) (.slice none n' c')).run Tryz.prog w=.ok (.bool a.isNone) w:=fun w a n c n' c'=>Lib.run_eql_slice_nil w _ _ a n c n' c' Tryz.underlying22
 obtain⟨i0,hi,qB,lR,tI⟩:=info_parts (P:=Tryz.prog) (e:=53) (z:=.agg #[.int .i64 0,.int .i64 0,.int .i64 0,.int .i64 0]) (size:=4) (bytes:=32) (by kernel_rfl);have A:Aside ((∀j,j<n*4->w.cell? (ad.add j)=some (f j))/\∀j,j<n*4->(f j).oneCell'=true):=⟨hc,h1⟩;clear hc h1
 go_enter Tryz.func55,Tryz.ntmps55
 go_wp2_with (at_builtin;refine wpList_append_own _ rfl _ _ 22 rfl w.heap.size 53 i0 (.agg #[.int .i64 0,.int .i64 0,.int .i64 0,.int .i64 0]) 4 32 Tryz.underlying22 hi qB lR tI rfl (by decide) _ _ _ rfl (World.ownsRow_made w #[] 0 (Nat.le_refl _) (Nat.zero_le _) rfl) ad n c ((List.range (n*4)).map f) rfl ?qc1 ?qc2 ?qc3 ?qc4 ?qc5 ?qc6 ?_)
 case qc1=>simp
 case qc2=>
  intro j u hj;have hjn:j<n*4:=by
   have:=(List.getElem?_eq_some_iff.1 hj).1;simpa using this
  refine Lib.cell?_alloc_some _ ?_;rw[A.out.1 j hjn];simpa[hjn] using hj
 case qc3=>
  intro u hu;obtain⟨x,hx,rfl⟩:=List.mem_map.1 hu;exact A.out.2 x (List.mem_range.1 hx)
 case qc4=>unfold maxLen;omega
 case qc5=>omega
 case qc6=>simp
 intro v' w1 hown hgrow hnil
 go_wp2
 go_ret
 refine⟨v',rfl,by simpa using hown,?_,?_⟩
 ·intro a e;subst e;rcases hown.2 with ⟨h,_⟩|⟨_,_,_,h,_⟩<;>cases h
 ·exact((Below.refl _ w).alloc (Nat.le_refl _) _).grown hgrow (by simp) (by intro k hk;simp[Value.ownBlock] at hk;omega)
set_option maxHeartbeats 2000000 in
theorem bJN (w:World):
  Calls Tryz.prog 55 #[.slice none 0 0] w fun e w'=>e=.returned (.slice none 0 0)/\w'=w:=by
 have q26:∀(w:World) (a:Option Addr) (n c n' c':Nat),(binOp .eql 22 (.slice a n c) (.slice none n' c')).run Tryz.prog w=.ok (.bool a.isNone) w:=fun w a n c n' c'=>Lib.run_eql_slice_nil w _ _ a n c n' c' Tryz.underlying22
 go_enter Tryz.func55,Tryz.ntmps55
 go_wp2
 go_ret
 exact⟨rfl,rfl⟩
def aKI:Model UU
 |[.sl .rect xs]=>some ([xs.length<=2000000],.new .rect xs)
 |_=>none
theorem bAW {C:Cfg UU} (hE:C.E=EE) (hs:aX C) (hP:C.P=Tryz.prog):aX (C.add 55 aKI):=by
 refine hs.put ⟨fun args w=>by rw[hP];exact hG (fn:=Tryz.f55) Tryz.func55 (by kernel_rfl) rfl args w,?_⟩;intro N w args xs cs r hinv hN hargs hm hc;unfold aKI at hm;split at hm
 ·rename_i l;cases hm;have hc':l.length<=2000000:=hc;obtain⟨a,rfl,ha⟩:=aHk hargs;rw[hP];rw[hE] at ha ⊢;cases ha with
  |jI=>
   refine(bJN w).mono ?_
   rintro e w' ⟨rfl,rfl⟩
   refine⟨_,rfl,aAL (cs:=[]) (Below.refl _ _) (World.ownsRow_nil _ _ _ _) (by intro a e;cases e) (fun i h=>absurd h (by simp)),Below.refl _ _⟩
  |sle _ ad=>
   refine(aVr ad 0 0 (fun _=>undef) w (by omega) (fun j hj=>absurd hj (by omega)) (fun j hj=>absurd hj (by omega))).mono ?_
   rintro e w' ⟨v',rfl,h1,h2,h3⟩
   exact⟨_,rfl,aAL h3 h1 h2 (fun i h=>absurd h (by simp)),h3⟩
  |sl _ _ b o cap f hb hcap hc hl=>
   have hidx:∀j,j<l.length*4->∃i k,∃(hi:i<l.length) (hk:k<(EE.enc .rect l[i]).length),j=i*UU.size .rect+k:=fun j hj=>by
    have hi:j / 4<l.length:=by omega
    refine⟨j / 4,j % 4,hi,by rw[EE.enc_len];exact Nat.mod_lt _ (by decide),?_⟩;show j=j / 4*4+j % 4;omega
   refine(aVr ⟨b,o,none⟩ l.length cap f w (by omega) (fun j hj=>by rw[Addr.qL];exact hc j hj) (fun j hj=>?_)).mono ?_
   ·obtain⟨i,k,hi,hk,rfl⟩:=hidx j hj;have hfl:=EE.enc_flat _ _ _ (List.getElem_mem hk);exact(hl i hi k hk).pU hfl.2 (fun nm g u h=>by cases h) (fun id g h=>by rw[h] at hfl;cases hfl.1) (fun id g i off sz h=>by rw[h] at hfl;cases hfl.1) (fun id i g h=>by rw[h] at hfl;cases hfl.1) (fun id i g j off sz h=>by rw[h] at hfl;cases hfl.1)
   ·rintro e w' ⟨v',rfl,h1,h2,h3⟩
    refine⟨_,rfl,aAL h3 h1 h2 (fun i hi k hk=>?_),h3⟩;have hk':k<4:=by
     have:=hk;rw[EE.enc_len] at this;exact this
    rw[show i*UU.size .rect+k=i*4+k from rfl,aO4 _ _ _ (by
     have:i*4+4<=l.length*4:=by
      have:=Nat.mul_le_mul_right 4 (show i+1<=l.length from hi);omega
     omega)]
    exact hl i hi k hk
 ·cases hm
end
end Go.Proofs.YtjjbojomlfgjlaaGreatDoor
namespace Go.Proofs
open Go.RowKit Go.Extern
theorem Tryz.aXz (t:Addr) (w:World):(ReflectliteValue.unpack (.iface 190 (.pointer (some t)))).run Tryz.prog w
  =.ok (.agg #[.pointer (some ⟨5,190,none⟩),.pointer (some ⟨w.heap.size,0,none⟩),.int .u64 150]) (w.alloc (.cells #[.pointer (some t)] 190)):=by kernel_rfl
theorem Tryz.bA4 (a:Addr) (w:World):(ReflectliteValue.methodAny (ReflectliteValue.valueError "reflectlite.Value.Type" 0) (fun t _ _ _=>ReflectliteType.toType t) #[.agg #[.pointer (some ⟨5,190,none⟩),.pointer (some a),.int .u64 150]]).run Tryz.prog w
  =.ok (.iface 271 (.agg #[.pointer (some ⟨5,190,none⟩)])) w:=by kernel_rfl
theorem Tryz.bEj (h:Value) (w:World):(Go.method 459 271 (.agg #[h]) "Kind").run Tryz.prog w=.ok (283,h) w:=by kernel_rfl
theorem Tryz.bF6 (w:World):((ReflectliteType.abiMethod fun t=>(fun a:Nat=>Value.int IntKind.u8 (a:Int)) <$> Rtype.kind t) #[.pointer (some ⟨5,190,none⟩)]).run Tryz.prog w=.ok (.int .u8 22) w:=by kernel_rfl
theorem Tryz.bF7 (w:World):((ReflectliteType.abiMethod fun t=>(fun a:Nat=>Value.int IntKind.u8 (a:Int)) <$> Rtype.kind t) #[.pointer (some ⟨5,186,none⟩)]).run Tryz.prog w=.ok (.int .u8 25) w:=by kernel_rfl
theorem rlm (z:Sem Value) (f:TypeId->Addr->Nat->Nat->Sem Value) (v:Value):
  ReflectliteValue.method z f #[v]=(do match <- ReflectliteValue.parts v with|none=>z|some (t,a,fl)=>f t a fl (fl % 32)):=rfl
theorem Tryz.aNb (a:Addr) (w:World):(ReflectliteValue.parts (.agg #[.pointer (some ⟨5,190,none⟩),.pointer (some a),.int .u64 150])).run Tryz.prog w=.ok (some (190,a,150)) w:=by kernel_rfl
theorem Tryz.bFe (a p:Addr) (W:World) (ha:W.cell? a=some (.pointer (some p))):
  (ReflectliteValue.method (ReflectliteValue.valueError "reflectlite.Value.IsNil" 0) ReflectliteValue.isNil #[.agg #[.pointer (some ⟨5,190,none⟩),.pointer (some a),.int .u64 150]]).run Tryz.prog W=.ok (.bool false) W:=by
 rw[rlm];simp only[Sem.run_bind,Tryz.aNb,Result.andThen];simp[ReflectliteValue.isNil,loadVar,isAgg,underlying,Tryz.underlying190,ha,Result.andThen]
theorem Tryz.bEl (h:Value) (w:World):(Go.method 459 271 (.agg #[h]) "Elem").run Tryz.prog w=.ok (297,.agg #[h]) w:=by kernel_rfl
theorem Tryz.bEk (h:Value) (w:World):(Go.method 459 271 (.agg #[h]) "Implements").run Tryz.prog w=.ok (298,.agg #[h]) w:=by kernel_rfl
theorem Tryz.bEm (h:Value) (w:World):(Go.method 459 271 (.agg #[h]) "AssignableTo").run Tryz.prog w=.ok (295,.agg #[h]) w:=by kernel_rfl
theorem Tryz.bID (w:World):(ReflectliteType.method ReflectliteType.elem #[.agg #[.pointer (some ⟨5,190,none⟩)]]).run Tryz.prog w=.ok (.iface 271 (.agg #[.pointer (some ⟨5,186,none⟩)])) w:=by kernel_rfl
theorem Tryz.bFz (w:World):(ReflectliteType.relation "Implements" ReflectliteType.implements_ #[.agg #[.pointer (some ⟨5,186,none⟩)],.iface 271 (.agg #[.pointer (some ⟨5,114,none⟩)])]).run Tryz.prog w=.ok (.bool true) w:=by kernel_rfl
theorem Tryz.aYE (v:Value) (w:World):(ReflectliteType.typeOf #[.iface 186 v]).run Tryz.prog w=.ok (.iface 271 (.agg #[.pointer (some ⟨5,186,none⟩)])) w:=by kernel_rfl
theorem Tryz.bKx (w:World):(ReflectliteType.relation "AssignableTo" ReflectliteType.assignableTo #[.agg #[.pointer (some ⟨5,186,none⟩)],.iface 271 (.agg #[.pointer (some ⟨5,186,none⟩)])]).run Tryz.prog w=.ok (.bool true) w:=by kernel_rfl
theorem Tryz.aYA (n:Int) (w:World):(ReflectliteValue.unpack (.iface 186 (.agg #[.int .i64 n]))).run Tryz.prog w
  =.ok (.agg #[.pointer (some ⟨5,186,none⟩),.pointer (some ⟨w.heap.size,0,none⟩),.int .u64 153]) (w.alloc (.cells #[.int .i64 n] 186)):=by kernel_rfl
theorem Tryz.bIC (w:World):(Rtype.elem? 190).run Tryz.prog w=.ok (some 186) w:=by kernel_rfl
theorem Tryz.bEi (p:Addr) (w:World):(ReflectliteValue.mk 186 p ReflectliteValue.flagAddr).run Tryz.prog w=.ok (.agg #[.pointer (some ⟨5,186,none⟩),.pointer (some p),.int .u64 409]) w:=by kernel_rfl
theorem Tryz.bIB (a p:Addr) (W:World) (ha:W.cell? a=some (.pointer (some p))):
  (ReflectliteValue.method (ReflectliteValue.valueError "reflectlite.Value.Elem" 0) ReflectliteValue.elem #[.agg #[.pointer (some ⟨5,190,none⟩),.pointer (some a),.int .u64 150]]).run Tryz.prog W
   =.ok (.agg #[.pointer (some ⟨5,186,none⟩),.pointer (some p),.int .u64 409]) W:=by
 rw[rlm];simp only[Sem.run_bind,Tryz.aNb,Result.andThen];simp[ReflectliteValue.elem,loadVar,isAgg,underlying,Tryz.underlying190,ha,Result.andThen,Tryz.bIC,Tryz.bEi]
theorem rls (v x:Value):ReflectliteValue.set #[v,x]=(do
  let (some (dst,a,fl),some (src,b,_)):=(<- ReflectliteValue.parts v,<- ReflectliteValue.parts x)
   |unsupported (.noEntry "extern/(internal/reflectlite.Value).Set.zeroValue")
  if fl / ReflectliteValue.flagAddr % 2==0 then unsupported (.noEntry "extern/(internal/reflectlite.Value).Set.unaddressable")
  let val <- loadVar src b
  if <- Rtype.directlyAssignable dst src then storeVar dst a val
  else if <- Rtype.implements dst src then
   if (<- Rtype.kind src)==20 then
    match val with
    | .nilIface=>unsupported (.noEntry "extern/reflectlite: a nil value of one interface type handed on as a value of another")
    |_=>storeVar dst a val
   else storeVar dst a (.iface src val)
  else panicString ("reflectlite.Set: value of type "++(<- Rtype.spelt src)++ " is not assignable to type "++(<- Rtype.spelt dst))
  pure (.tuple #[])):=rfl
theorem Tryz.bBw (a:Addr) (w:World):(ReflectliteValue.parts (.agg #[.pointer (some ⟨5,186,none⟩),.pointer (some a),.int .u64 409])).run Tryz.prog w=.ok (some (186,a,409)) w:=by kernel_rfl
theorem Tryz.bBx (a:Addr) (w:World):(ReflectliteValue.parts (.agg #[.pointer (some ⟨5,186,none⟩),.pointer (some a),.int .u64 153])).run Tryz.prog w=.ok (some (186,a,153)) w:=by kernel_rfl
theorem Tryz.bIm (w:World):(Rtype.directlyAssignable 186 186).run Tryz.prog w=.ok true w:=by kernel_rfl
theorem Tryz.aYf (ta b:Addr) (n:Int) (old:Value) (W:World) (hb:W.cell? b=some (.int .i64 n)) (ht:W.cell? ta=some old) (hf:W.frozen? ta=false):
  (ReflectliteValue.set #[.agg #[.pointer (some ⟨5,186,none⟩),.pointer (some ta),.int .u64 409],.agg #[.pointer (some ⟨5,186,none⟩),.pointer (some b),.int .u64 153]]).run Tryz.prog W
   =.ok (.tuple #[]) (W.setCell ta (.int .i64 n)):=by
 have hl:(loadVar 186 b).run Tryz.prog W=.ok (.agg #[.int .i64 n]) W:=by
  simp[loadVar,isAgg,underlying,Tryz.underlying186,Result.andThen,loadCells,loadCellsFrom,hb,Addr.add]
 rw[rls];simp only[Sem.run_bind,Tryz.bBw,Tryz.bBx,Result.andThen];simp only[ReflectliteValue.flagAddr];simp[hl,Result.andThen,Tryz.bIm,storeVar,Value.cells,storeCells,Addr.add];rw[run_store Tryz.prog W ta _ _ (by rfl)];simp[ht,hf]
end Go.Proofs
namespace Go.Proofs
open Go.RowKit Go.Extern
set_option linter.unusedVariables false
set_option maxHeartbeats 4000000 in
set_option maxRecDepth 100000 in
theorem Tryz.bKy (n:Int) (t b:Addr) (old:Value) (w:World) (hb:w.cell? b=some (.pointer (some t))) (ht0:w.cell? t=some old) (nR:w.frozen? t=false):
  Calls Tryz.prog 170 #[.iface 186 (.agg #[.int .i64 n]),.iface 190 (.pointer (some t)),.agg #[.pointer (some ⟨5,190,none⟩),.pointer (some b),.int .u64 150],.iface 271 (.agg #[.pointer (some ⟨5,186,none⟩)])] w fun ev w'=>ev=.returned (.bool true)/\w'=((w.alloc (.cells #[.pointer (some ⟨5,190,none⟩),.pointer (some b),.int .u64 150] 236)).alloc (.cells #[.int .i64 n] 186)).setCell t (.int .i64 n):=by
 have h10:=@run_callFunc_extern Tryz.prog 200 _ ReflectliteType.typeOf Tryz.func200 (by kernel_rfl) (by kernel_rfl) (by kernel_rfl) (by kernel_rfl);have h35:=@run_callFunc_extern Tryz.prog 295 _ (ReflectliteType.relation "AssignableTo" ReflectliteType.assignableTo) Tryz.func295 (by kernel_rfl) (by kernel_rfl) (by kernel_rfl) (by kernel_rfl);have h11:=@run_callFunc_extern Tryz.prog 201 _ (ReflectliteValue.method (ReflectliteValue.valueError "reflectlite.Value.Elem" 0) ReflectliteValue.elem) Tryz.func201 (by kernel_rfl) (by kernel_rfl) (by kernel_rfl) (by kernel_rfl);have h6:=@run_callFunc_extern Tryz.prog 167 _ (fun args=>ReflectliteValue.unpack (args.getD 0 (.tuple #[]))) Tryz.func167 (by kernel_rfl) (by kernel_rfl) (by kernel_rfl) (by kernel_rfl);have h12:=@run_callFunc_extern Tryz.prog 202 _ ReflectliteValue.set Tryz.func202 (by kernel_rfl) (by kernel_rfl) (by kernel_rfl) (by kernel_rfl);have tO:=Tryz.aYE;have mA:=Tryz.bEm;have a25:=Tryz.bKx;have v25:=Tryz.aYA;have htl:t.block<w.heap.size:=by
  rcases Nat.lt_or_ge t.block w.heap.size with h|h
  ·exact h
  ·simp[World.cell?,Array.getElem?_eq_none h] at ht0
 have hbl:b.block<w.heap.size:=by
  rcases Nat.lt_or_ge b.block w.heap.size with h|h
  ·exact h
  ·simp[World.cell?,Array.getElem?_eq_none h] at hb
 have el:=Tryz.bIB b t (w.alloc (.cells #[.pointer (some ⟨5,190,none⟩),.pointer (some b),.int .u64 150] 236)) (by rw[World.cell?_alloc_lt _ _ b hbl];exact hb);have st:=Tryz.aYf t ⟨w.heap.size+1,0,none⟩ n old ((w.alloc (.cells #[.pointer (some ⟨5,190,none⟩),.pointer (some b),.int .u64 150] 236)).alloc (.cells #[.int .i64 n] 186))
  (by rw[World.cell?_alloc_at _ _ _ _ (by simp)];rfl)
  (by rw[World.cell?_alloc_lt _ _ t (by simp;omega),World.cell?_alloc_lt _ _ t htl];exact ht0)
  (by rw[World.frozen?_alloc_old _ _ t (by simp;omega),World.frozen?_alloc_old _ _ t (Nat.ne_of_lt htl)];exact nR)
 go_enter Tryz.func170,Tryz.ntmps170
 go_wp2
 refine wp_loop_rounds 1 ?_;rw[rounds_succ]
 go_wp2
 go_ret
 exact⟨rfl,rfl⟩
set_option maxHeartbeats 4000000 in
set_option maxRecDepth 100000 in
theorem Tryz.bHq (n:Int) (t:Addr) (old:Value) (w:World) (hg:w.cell? ⟨0,0,none⟩=some (.iface 271 (.agg #[.pointer (some ⟨5,114,none⟩)]))) (ht0:w.cell? t=some old) (nR:w.frozen? t=false):
  Calls Tryz.prog 118 #[.iface 186 (.agg #[.int .i64 n]),.iface 190 (.pointer (some t))] w fun ev w'=>ev=.returned (.bool true)/\w'=((((w.alloc (.cells #[.pointer (some t)] 190)).alloc (.cells #[.pointer (some ⟨5,190,none⟩),.pointer (some ⟨w.heap.size,0,none⟩),.int .u64 150] 236)).alloc (.cells #[.pointer (some ⟨5,190,none⟩),.pointer (some ⟨w.heap.size,0,none⟩),.int .u64 150] 236)).alloc (.cells #[.int .i64 n] 186)).setCell t (.int .i64 n):=by
 have h6:=@run_callFunc_extern Tryz.prog 167 _ (fun args=>ReflectliteValue.unpack (args.getD 0 (.tuple #[]))) Tryz.func167 (by kernel_rfl) (by kernel_rfl) (by kernel_rfl) (by kernel_rfl);have h7:=@run_callFunc_extern Tryz.prog 168 _ (ReflectliteValue.methodAny (ReflectliteValue.valueError "reflectlite.Value.Type" 0) (fun t _ _ _=>ReflectliteType.toType t)) Tryz.func168 (by kernel_rfl) (by kernel_rfl) (by kernel_rfl) (by kernel_rfl);have h8:=@run_callFunc_extern Tryz.prog 169 _ (ReflectliteValue.method (ReflectliteValue.valueError "reflectlite.Value.IsNil" 0) ReflectliteValue.isNil) Tryz.func169 (by kernel_rfl) (by kernel_rfl) (by kernel_rfl) (by kernel_rfl);have h27:=@run_callFunc_extern Tryz.prog 283 _ (ReflectliteType.abiMethod fun t=>do pure (.int .u8 (<- Rtype.kind t))) Tryz.func283 (by kernel_rfl) (by kernel_rfl) (by kernel_rfl) (by kernel_rfl);have h37:=@run_callFunc_extern Tryz.prog 297 _ (ReflectliteType.method ReflectliteType.elem) Tryz.func297 (by kernel_rfl) (by kernel_rfl) (by kernel_rfl) (by kernel_rfl);have h38:=@run_callFunc_extern Tryz.prog 298 _ (ReflectliteType.relation "Implements" ReflectliteType.implements_) Tryz.func298 (by kernel_rfl) (by kernel_rfl) (by kernel_rfl) (by kernel_rfl);have f6:=Tryz.aXz;have f7:=Tryz.bA4;have mK:=Tryz.bEj;have mE:=Tryz.bEl;have mI:=Tryz.bEk;have k27:=Tryz.bF6;have k25:=Tryz.bF7;have e27:=Tryz.bID;have i25:=Tryz.bFz;have hlt:0<w.heap.size:=by
  rcases Nat.eq_zero_or_pos w.heap.size with h0|h
  ·simp[World.cell?,h0] at hg
  ·exact h
 have htl:t.block<w.heap.size:=by
  rcases Nat.lt_or_ge t.block w.heap.size with h|h
  ·exact h
  ·simp[World.cell?,Array.getElem?_eq_none h] at ht0
 have n8:=Tryz.bFe ⟨w.heap.size,0,none⟩ t ((w.alloc (.cells #[.pointer (some t)] 190)).alloc (.cells #[.pointer (some ⟨5,190,none⟩),.pointer (some ⟨w.heap.size,0,none⟩),.int .u64 150] 236)) (by simp);have hg2:((w.alloc (.cells #[.pointer (some t)] 190)).alloc (.cells #[.pointer (some ⟨5,190,none⟩),.pointer (some ⟨w.heap.size,0,none⟩),.int .u64 150] 236)).cell? ⟨0,0,none⟩=some (.iface 271 (.agg #[.pointer (some ⟨5,114,none⟩)])):=by
  rw[World.cell?_alloc_lt _ _ ⟨0,0,none⟩ (by simp),World.cell?_alloc_lt _ _ ⟨0,0,none⟩ hlt];exact hg
 have hA:=Tryz.bKy n t ⟨w.heap.size,0,none⟩ old ((w.alloc (.cells #[.pointer (some t)] 190)).alloc (.cells #[.pointer (some ⟨5,190,none⟩),.pointer (some ⟨w.heap.size,0,none⟩),.int .u64 150] 236)) (by simp)
  (by rw[World.cell?_alloc_lt _ _ t (by simp;omega),World.cell?_alloc_lt _ _ t htl];exact ht0)
  (by rw[World.frozen?_alloc_old _ _ t (by simp;omega),World.frozen?_alloc_old _ _ t (Nat.ne_of_lt htl)];exact nR)
 clear hg
 go_enter Tryz.func118,Tryz.ntmps118
 go_wp2_with (go_at_call 170;refine hA.mono ?_;rintro e w' ⟨rfl,rfl⟩)
 go_ret
 exact⟨rfl,rfl⟩
end Go.Proofs
namespace Go.Proofs
open Go.RowKit Go.Sort Go.Proofs.YtjjbojomlfgjlaaGreatDoor
set_option linter.unusedVariables false
theorem Tryz.bFf (x:Int) (w:World):Calls Tryz.prog 186 #[.int .i64 x] w fun e w'=>e=.returned (.bool false)/\w'=w:=by
 go_enter Tryz.func186,Tryz.ntmps186
 go_wp2
 go_ret
 exact⟨rfl,rfl⟩
theorem Tryz.aVp (x y:Int) (w:World):Calls Tryz.prog 148 #[.int .i64 x,.int .i64 y] w fun e w'=>e=.returned (.int .i64 (Lib.compareInt x y))/\w'=w:=by
 have h:=fun x=>Tryz.bFf x w
 unfold Lib.compareInt
 by_cases h1:x<y
 ·have h1':decide (x<y)=true:=by simpa using h1
  rw[if_pos h1]
  go_enter Tryz.func148,Tryz.ntmps148
  go_wp2_with (go_at_call 186;refine(h _).mono ?_;rintro e w' ⟨rfl,rfl⟩)
  go_ret
  exact⟨rfl,rfl⟩
 ·have h1':decide (x<y)=false:=by simpa using h1
  rw[if_neg h1]
  by_cases h2:y<x
  ·have h2':decide (y<x)=true:=by simpa using h2
   rw[if_pos h2]
   go_enter Tryz.func148,Tryz.ntmps148
   go_wp2_with (go_at_call 186;refine(h _).mono ?_;rintro e w' ⟨rfl,rfl⟩)
   go_ret
   exact⟨rfl,rfl⟩
  ·have h2':decide (y<x)=false:=by simpa using h2
   rw[if_neg h2]
   go_enter Tryz.func148,Tryz.ntmps148
   go_wp2_with (go_at_call 186;refine(h _).mono ?_;rintro e w' ⟨rfl,rfl⟩)
   go_ret
   exact⟨rfl,rfl⟩
theorem Tryz.aNe (b:Nat) (x y z:Int) (w:World) (hx:w.cell? ⟨b,0,none⟩=some (.int .i64 x)) (hy:w.cell? ⟨b,1,none⟩=some (.int .i64 y)) (hz:w.cell? ⟨b,2,none⟩=some (.int .i64 z)):
  Calls Tryz.prog 173 #[.slice (some ⟨b,0,none⟩) 3 3] w fun e w'=>e=.returned (.int .i64 (tB x y z))/\w'=w:=by
 unfold tB
 by_cases h1:x=0
 ·subst h1;rw[if_neg (by simp)]
  by_cases h2:y=0
  ·subst h2;rw[if_neg (by simp)]
   by_cases h3:z=0
   ·subst h3
    go_enter Tryz.func173,Tryz.ntmps173
    go_wp2
    refine wp_loop_rounds 4 ?_
    iterate 4 (rw[rounds_succ];go_wp2)
    go_ret
    exact⟨rfl,rfl⟩
   ·go_enter Tryz.func173,Tryz.ntmps173
    go_wp2
    refine wp_loop_rounds 3 ?_
    iterate 3 (rw[rounds_succ];go_wp2)
    go_ret
    exact⟨rfl,rfl⟩
  ·rw[if_pos h2]
   go_enter Tryz.func173,Tryz.ntmps173
   go_wp2
   refine wp_loop_rounds 2 ?_
   iterate 2 (rw[rounds_succ];go_wp2)
   go_ret
   exact⟨rfl,rfl⟩
 ·rw[if_pos h1]
  go_enter Tryz.func173,Tryz.ntmps173
  go_wp2
  refine wp_loop_rounds 1 ?_;rw[rounds_succ]
  go_wp2
  go_ret
  exact⟨rfl,rfl⟩
end Go.Proofs
namespace Go.Proofs
open Go.RowKit Go.Sort Go.Proofs.YtjjbojomlfgjlaaGreatDoor
set_option linter.unusedVariables false
def jD (s:Seg):List Value:=[.int .i64 s.X1,.int .i64 s.Y1,.int .i64 s.X2,.int .i64 s.Y2]
theorem aAZ (w:World) (o:Obj):w.alloc o=grow w #[o]:=rfl
set_option maxHeartbeats 4000000 in
set_option maxRecDepth 100000 in
theorem Tryz.bCH (ax ay kF gF bx by_ kE gE:Int) (w:World) (h1:ay=gF) (h2:¬by_=gE):Calls Tryz.prog 121 #[.agg #[.int .i64 ax,.int .i64 ay,.int .i64 kF,.int .i64 gF],.agg #[.int .i64 bx,.int .i64 by_,.int .i64 kE,.int .i64 gE]] w fun e w'=>e=.returned (.int .i64 (-1))/\∃q os,w'=grow (w.drewN q) os:=by
 have e1:(ay==gF)=true:=by simpa using h1
 have e2:(by_==gE)=false:=by simpa using h2
 clear h1 h2
 go_enter Tryz.func121,Tryz.ntmps121
 go_wp2
 go_region_held3 (fun w'=>w'.cell? ⟨w.heap.size,0,none⟩=some (.int .i64 ax)/\w'.cell? ⟨w.heap.size,1,none⟩=some (.int .i64 ay)/\w'.cell? ⟨w.heap.size,2,none⟩=some (.int .i64 kF)/\w'.cell? ⟨w.heap.size,3,none⟩=some (.int .i64 gF)/\w'.cell? ⟨w.heap.size+1,0,none⟩=some (.int .i64 bx)/\w'.cell? ⟨w.heap.size+1,1,none⟩=some (.int .i64 by_)/\w'.cell? ⟨w.heap.size+1,2,none⟩=some (.int .i64 kE)/\w'.cell? ⟨w.heap.size+1,3,none⟩=some (.int .i64 gE)) (go_keep) (fail)
 all_goals go_wp2
 all_goals go_ret
 all_goals exact⟨rfl,_,_,by rw[aAZ,aAZ,grow_grow,drew_grow];rfl⟩
set_option maxHeartbeats 4000000 in
set_option maxRecDepth 100000 in
theorem Tryz.bCI (ax ay kF gF bx by_ kE gE:Int) (w:World) (h1:¬ay=gF) (h2:by_=gE):Calls Tryz.prog 121 #[.agg #[.int .i64 ax,.int .i64 ay,.int .i64 kF,.int .i64 gF],.agg #[.int .i64 bx,.int .i64 by_,.int .i64 kE,.int .i64 gE]] w fun e w'=>e=.returned (.int .i64 (1))/\∃q os,w'=grow (w.drewN q) os:=by
 have e1:(ay==gF)=false:=by simpa using h1
 have e2:(by_==gE)=true:=by simpa using h2
 clear h1 h2
 go_enter Tryz.func121,Tryz.ntmps121
 go_wp2
 go_region_held3 (fun w'=>w'.cell? ⟨w.heap.size,0,none⟩=some (.int .i64 ax)/\w'.cell? ⟨w.heap.size,1,none⟩=some (.int .i64 ay)/\w'.cell? ⟨w.heap.size,2,none⟩=some (.int .i64 kF)/\w'.cell? ⟨w.heap.size,3,none⟩=some (.int .i64 gF)/\w'.cell? ⟨w.heap.size+1,0,none⟩=some (.int .i64 bx)/\w'.cell? ⟨w.heap.size+1,1,none⟩=some (.int .i64 by_)/\w'.cell? ⟨w.heap.size+1,2,none⟩=some (.int .i64 kE)/\w'.cell? ⟨w.heap.size+1,3,none⟩=some (.int .i64 gE)) (go_keep) (fail)
 all_goals go_wp2
 all_goals go_ret
 all_goals exact⟨rfl,_,_,by rw[aAZ,aAZ,grow_grow,drew_grow];rfl⟩
set_option maxHeartbeats 4000000 in
set_option maxRecDepth 100000 in
theorem Tryz.bCJ (ax ay kF gF bx by_ kE gE:Int) (w:World) (h1:ay=gF) (h2:by_=gE):Calls Tryz.prog 121 #[.agg #[.int .i64 ax,.int .i64 ay,.int .i64 kF,.int .i64 gF],.agg #[.int .i64 bx,.int .i64 by_,.int .i64 kE,.int .i64 gE]] w fun e w'=>e=.returned (.int .i64 (tB (Lib.compareInt ay by_) (Lib.compareInt ax bx) (Lib.compareInt kF kE)))/\∃q os,w'=grow (w.drewN q) os:=by
 have e1:(ay==gF)=true:=by simpa using h1
 have e2:(by_==gE)=true:=by simpa using h2
 clear h1 h2
 go_enter Tryz.func121,Tryz.ntmps121
 go_wp2
 go_region_held3 (fun w'=>w'.cell? ⟨w.heap.size,0,none⟩=some (.int .i64 ax)/\w'.cell? ⟨w.heap.size,1,none⟩=some (.int .i64 ay)/\w'.cell? ⟨w.heap.size,2,none⟩=some (.int .i64 kF)/\w'.cell? ⟨w.heap.size,3,none⟩=some (.int .i64 gF)/\w'.cell? ⟨w.heap.size+1,0,none⟩=some (.int .i64 bx)/\w'.cell? ⟨w.heap.size+1,1,none⟩=some (.int .i64 by_)/\w'.cell? ⟨w.heap.size+1,2,none⟩=some (.int .i64 kE)/\w'.cell? ⟨w.heap.size+1,3,none⟩=some (.int .i64 gE)) (go_keep) (fail)
 all_goals go_wp2
 all_goals (go_region_held3 (fun w'=>w'.cell? ⟨w.heap.size,0,none⟩=some (.int .i64 ax)/\w'.cell? ⟨w.heap.size,1,none⟩=some (.int .i64 ay)/\w'.cell? ⟨w.heap.size,2,none⟩=some (.int .i64 kF)/\w'.cell? ⟨w.heap.size,3,none⟩=some (.int .i64 gF)/\w'.cell? ⟨w.heap.size+1,0,none⟩=some (.int .i64 bx)/\w'.cell? ⟨w.heap.size+1,1,none⟩=some (.int .i64 by_)/\w'.cell? ⟨w.heap.size+1,2,none⟩=some (.int .i64 kE)/\w'.cell? ⟨w.heap.size+1,3,none⟩=some (.int .i64 gE)) (go_keep) (first| (go_at_call 148;refine(Tryz.aVp _ _ _).mono ?_;rintro e w' ⟨rfl,rfl⟩)| (go_at_call 173;refine(Tryz.aNe _ (Lib.compareInt ay by_) (Lib.compareInt ax bx) (Lib.compareInt kF kE) _ (by simp;rw[World.cell?_alloc_at _ _ _ _ (by simp)];rfl) (by simp;rw[World.cell?_alloc_at _ _ _ _ (by simp)];rfl) (by simp;rw[World.cell?_alloc_at _ _ _ _ (by simp)];rfl)).mono ?_;rintro e w' ⟨rfl,rfl⟩)))
 all_goals go_wp2
 all_goals go_ret
 all_goals exact⟨rfl,2,_,by simp only[aAZ,grow_grow,drew_grow];rfl⟩
set_option maxHeartbeats 4000000 in
set_option maxRecDepth 100000 in
theorem Tryz.bCG (ax ay kF gF bx by_ kE gE:Int) (w:World) (h1:¬ay=gF) (h2:¬by_=gE):Calls Tryz.prog 121 #[.agg #[.int .i64 ax,.int .i64 ay,.int .i64 kF,.int .i64 gF],.agg #[.int .i64 bx,.int .i64 by_,.int .i64 kE,.int .i64 gE]] w fun e w'=>e=.returned (.int .i64 (tB (Lib.compareInt ax bx) (Lib.compareInt ay by_) (Lib.compareInt gF gE)))/\∃q os,w'=grow (w.drewN q) os:=by
 have e1:(ay==gF)=false:=by simpa using h1
 have e2:(by_==gE)=false:=by simpa using h2
 clear h1 h2
 go_enter Tryz.func121,Tryz.ntmps121
 go_wp2
 go_region_held3 (fun w'=>w'.cell? ⟨w.heap.size,0,none⟩=some (.int .i64 ax)/\w'.cell? ⟨w.heap.size,1,none⟩=some (.int .i64 ay)/\w'.cell? ⟨w.heap.size,2,none⟩=some (.int .i64 kF)/\w'.cell? ⟨w.heap.size,3,none⟩=some (.int .i64 gF)/\w'.cell? ⟨w.heap.size+1,0,none⟩=some (.int .i64 bx)/\w'.cell? ⟨w.heap.size+1,1,none⟩=some (.int .i64 by_)/\w'.cell? ⟨w.heap.size+1,2,none⟩=some (.int .i64 kE)/\w'.cell? ⟨w.heap.size+1,3,none⟩=some (.int .i64 gE)) (go_keep) (fail)
 all_goals go_wp2
 all_goals (go_region_held3 (fun w'=>w'.cell? ⟨w.heap.size,0,none⟩=some (.int .i64 ax)/\w'.cell? ⟨w.heap.size,1,none⟩=some (.int .i64 ay)/\w'.cell? ⟨w.heap.size,2,none⟩=some (.int .i64 kF)/\w'.cell? ⟨w.heap.size,3,none⟩=some (.int .i64 gF)/\w'.cell? ⟨w.heap.size+1,0,none⟩=some (.int .i64 bx)/\w'.cell? ⟨w.heap.size+1,1,none⟩=some (.int .i64 by_)/\w'.cell? ⟨w.heap.size+1,2,none⟩=some (.int .i64 kE)/\w'.cell? ⟨w.heap.size+1,3,none⟩=some (.int .i64 gE)) (go_keep) (first| (go_at_call 148;refine(Tryz.aVp _ _ _).mono ?_;rintro e w' ⟨rfl,rfl⟩)| (go_at_call 173;refine(Tryz.aNe _ (Lib.compareInt ax bx) (Lib.compareInt ay by_) (Lib.compareInt gF gE) _ (by simp;rw[World.cell?_alloc_at _ _ _ _ (by simp)];rfl) (by simp;rw[World.cell?_alloc_at _ _ _ _ (by simp)];rfl) (by simp;rw[World.cell?_alloc_at _ _ _ _ (by simp)];rfl)).mono ?_;rintro e w' ⟨rfl,rfl⟩)))
 all_goals go_wp2
 all_goals go_ret
 all_goals exact⟨rfl,2,_,by simp only[aAZ,grow_grow,drew_grow];rfl⟩
theorem Tryz.bCK (a b:Seg) (w:World):Calls Tryz.prog 121 #[.agg (jD a).toArray,.agg (jD b).toArray] w fun e w'=>e=.returned (.int .i64 (mN a b))/\∃q os,w'=grow (w.drewN q) os:=by
 obtain⟨ax,ay,kF,gF⟩:=a;obtain⟨bx,by_,kE,gE⟩:=b;unfold mN;dsimp only
 by_cases h1:ay=gF<;>by_cases h2:by_=gE
 ·rw[if_neg (by simp[h2]),if_neg (by simp[h1]),if_pos h1];exact Tryz.bCJ _ _ _ _ _ _ _ _ w h1 h2
 ·rw[if_pos ⟨h1,h2⟩];exact Tryz.bCH _ _ _ _ _ _ _ _ w h1 h2
 ·rw[if_neg (by simp[h1]),if_pos ⟨h2,h1⟩];exact Tryz.bCI _ _ _ _ _ _ _ _ w h1 h2
 ·rw[if_neg (by simp[h1]),if_neg (by simp[h2]),if_neg h1];exact Tryz.bCG _ _ _ _ _ _ _ _ w h1 h2
end Go.Proofs
namespace Go.Proofs
open Go.Shelf
def Tryz.bFO:Go.Shelf.Ren:=⟨fun|6=>120|15=>172|14=>171|28=>211|29=>212|20=>203|21=>204|22=>205|23=>206|24=>207|25=>208|26=>209|27=>210|46=>238|47=>239|48=>240|49=>241|50=>242|57=>261|n=>n,fun|22=>75|24=>63|25=>192|3=>3|39=>247|0=>0|53=>292|55=>264|4=>4|46=>286|45=>285|50=>197|5=>5|9=>9|66=>308|70=>312|76=>322|77=>71|n=>n,fun|n=>n⟩
theorem Tryz.aRa:Go.Proofs.SlLaysF0.n6 Tryz.prog Tryz.bFO:={
 mixed:=by kernel_rfl
 f6:=⟨Tryz.f120.name,by decide,Tryz.func120.trans (congrArg some (by kernel_rfl))⟩
 f14:=⟨Tryz.f171.name,by decide,Tryz.func171.trans (congrArg some (by kernel_rfl))⟩
 f15:=Tryz.func172.trans (congrArg some (by kernel_rfl))
 f20:=⟨Tryz.f203.name,by decide,Tryz.func203.trans (congrArg some (by kernel_rfl))⟩
 f21:=⟨Tryz.f204.name,by decide,Tryz.func204.trans (congrArg some (by kernel_rfl))⟩
 f22:=⟨Tryz.f205.name,by decide,Tryz.func205.trans (congrArg some (by kernel_rfl))⟩
 f23:=⟨Tryz.f206.name,by decide,Tryz.func206.trans (congrArg some (by kernel_rfl))⟩
 f24:=⟨Tryz.f207.name,by decide,Tryz.func207.trans (congrArg some (by kernel_rfl))⟩
 f25:=⟨Tryz.f208.name,by decide,Tryz.func208.trans (congrArg some (by kernel_rfl))⟩
 f26:=⟨Tryz.f209.name,by decide,Tryz.func209.trans (congrArg some (by kernel_rfl))⟩
 f27:=⟨Tryz.f210.name,by decide,Tryz.func210.trans (congrArg some (by kernel_rfl))⟩
 f28:=Tryz.func211.trans (congrArg some (by kernel_rfl))
 f29:=Tryz.func212.trans (congrArg some (by kernel_rfl))
 f46:=⟨Tryz.f238.name,by decide,Tryz.func238.trans (congrArg some (by kernel_rfl))⟩
 f47:=Tryz.func239.trans (congrArg some (by kernel_rfl))
 f48:=Tryz.func240.trans (congrArg some (by kernel_rfl))
 f49:=⟨Tryz.f241.name,by decide,Tryz.func241.trans (congrArg some (by kernel_rfl))⟩
 f50:=⟨Tryz.f242.name,by decide,Tryz.func242.trans (congrArg some (by kernel_rfl))⟩
 f57:=⟨Tryz.f261.name,by decide,Tryz.func261.trans (congrArg some (by kernel_rfl))⟩
 t0:=Tryz.underlying0
 a0:=Tryz.isAgg0
 z0:=Tryz.sizeOf0
 v0:=Tryz.zeroValue0
 t3:=Tryz.underlying3
 a3:=Tryz.isAgg3
 z3:=Tryz.sizeOf3
 v3:=Tryz.zeroValue3
 t4:=Tryz.underlying4
 a4:=Tryz.isAgg4
 z4:=Tryz.sizeOf4
 v4:=Tryz.zeroValue4
 t5:=Tryz.underlying5
 a5:=Tryz.isAgg5
 z5:=Tryz.sizeOf5
 v5:=Tryz.zeroValue5
 t9:=Tryz.underlying9
 a9:=Tryz.isAgg9
 z9:=Tryz.sizeOf9
 v9:=Tryz.zeroValue9
 t22:=Tryz.underlying75
 a22:=Tryz.isAgg75
 z22:=Tryz.sizeOf75
 v22:=Tryz.zeroValue75
 t25:=Tryz.underlying192
 a25:=Tryz.isAgg192
 z25:=Tryz.sizeOf192
 v25:=Tryz.zeroValue192
 t39:=Tryz.underlying247
 a39:=Tryz.isAgg247
 z39:=Tryz.sizeOf247
 v39:=Tryz.zeroValue247
 t45:=Tryz.underlying285
 a45:=Tryz.isAgg285
 z45:=Tryz.sizeOf285
 v45:=Tryz.zeroValue285
 t46:=Tryz.underlying286
 a46:=Tryz.isAgg286
 z46:=Tryz.sizeOf286
 v46:=Tryz.zeroValue286
 t50:=Tryz.underlying197
 a50:=Tryz.isAgg197
 z50:=Tryz.sizeOf197
 v50:=Tryz.zeroValue197
 t53:=Tryz.underlying292
 a53:=Tryz.isAgg292
 z53:=Tryz.sizeOf292
 v53:=Tryz.zeroValue292
 t55:=Tryz.underlying264
 a55:=Tryz.isAgg264
 z55:=Tryz.sizeOf264
 v55:=Tryz.zeroValue264
 t66:=Tryz.underlying308
 a66:=Tryz.isAgg308
 z66:=Tryz.sizeOf308
 v66:=Tryz.zeroValue308
 t70:=Tryz.underlying312
 a70:=Tryz.isAgg312
 z70:=Tryz.sizeOf312
 v70:=Tryz.zeroValue312
 t76:=Tryz.underlying322
 a76:=Tryz.isAgg322
 z76:=Tryz.sizeOf322
 v76:=Tryz.zeroValue322
 t77:=Tryz.underlying71
 a77:=Tryz.isAgg71
 z77:=Tryz.sizeOf71
 v77:=Tryz.zeroValue71}
end Go.Proofs
namespace Go.Proofs.YtjjbojomlfgjlaaGreatDoor
open Go.Vm Go.RowKit Go.Lib Go.Sort
set_option linter.unusedVariables false
theorem bBz {α:Type} [Inhabited α] {enc:α->List Value} {k:Nat} {w:World} {base:Nat} {e:TypeId} {g n cap q:Nat} {cs:List Value} {d:Array α} (h:w.ownsRow base e k (.slice (some ⟨g,0,none⟩) n cap) n cs) (hd:d.size=n):
  (putRowK enc k (Sort.ahead w q) g 0 d).ownsRow base e k (.slice (some ⟨g,0,none⟩) n cap) n (flatK enc k d).toList:=by
 rcases h.2 with ⟨e0,_⟩|⟨g',cap',cur,e0,hb,hg,hn,hm,hs,ht⟩
 ·cases e0
 ·injection e0 with e1 _ e3
  injection e1 with e1
  injection e1 with e1
  subst e1;subst e3;have hle:n*k<=cap*k:=Nat.mul_le_mul_right k hn;refine⟨by simp[hd],.inr ⟨g,cap,putCells id 0 (flatK enc k d) cur,rfl,hb,?_,hn,hm,by simpa[putCells] using hs,?_⟩⟩
  ·simp[putRowK,putRow,mapBlock,Sort.ahead,Array.getElem?_modify,hg,onCells]
  ·apply List.ext_getElem?;intro j;rw[List.getElem?_take,Array.getElem?_toList,Array.getElem?_toList]
   by_cases hj:j<n*k
   ·have hjc:j<cur.size:=by omega
    rw[if_pos hj];simp only[putCells,Array.getElem?_mapIdx,Array.getElem?_eq_getElem hjc,Option.map_some];rw[if_pos ⟨Nat.zero_le _,by rw[size_flatK,hd];omega⟩,Array.getElem?_eq_getElem (by rw[size_flatK,hd];exact hj)];simp[getElem!_pos,show j<d.size*k by rw[hd];exact hj]
   ·rw[if_neg hj,Array.getElem?_eq_none (by rw[size_flatK,hd];omega)]
theorem bCB {w:World} {os:Array Obj} {base:Nat} {e:TypeId} {k:Nat} {u:Value} {n:Nat} {cs:List Value} (h:w.ownsRow base e k u n cs):(grow w os).ownsRow base e k u n cs:=by
 refine⟨h.1,?_⟩;rcases h.2 with hn|⟨g,cap,cur,h1,h2,h3,rest⟩
 ·exact .inl hn
 ·exact .inr ⟨g,cap,cur,h1,h2,by rw[heap_grow_old _ _ (Array.getElem?_eq_some_iff.1 h3).1];exact h3,rest⟩
theorem bKp {B:Nat} {w0 w:World} {os:Array Obj} (h:Go.RowKit.Below B w0 w) (hB:B<=w.heap.size):Go.RowKit.Below B w0 (grow w os):=
 ⟨h.os,h.tape,h.output,by have:=h.size;rw[size_grow];omega,fun k hk=>by rw[heap_grow_old _ _ (by omega)];exact h.block k hk⟩
theorem aEQ {w:World} {ρ:Own} {st:Nat->Prop} {k:IntKind} {n:Int} {v:Value} (h:Rel EE w ρ st (.int k n) v):v=.int k n:=by
 cases h;rfl
theorem k4 {k:Nat} (h:k<4):k=0\/k=1\/k=2\/k=3:=by omega
theorem bJU {w:World} {ρ:Own} {st:Nat->Prop} {l:List Seg} {f:Nat->Value} (hr:∀i (h:i<l.length) k (hk:k<(EE.enc .seg l[i]).length),Rel EE w ρ st (EE.enc .seg l[i])[k] (f (i*UU.size .seg+k))):
  ∀i (h:i<l.length) k,k<4->f (i*4+k)=(jD l[i])[k]!:=by
 intro i hi k hk;rcases k4 hk with rfl|rfl|rfl|rfl
 ·exact aEQ (hr i hi 0 (show 0<4 by decide))
 ·exact aEQ (hr i hi 1 (show 1<4 by decide))
 ·exact aEQ (hr i hi 2 (show 2<4 by decide))
 ·exact aEQ (hr i hi 3 (show 3<4 by decide))
theorem bAe {w:World} {ρ:Own} {st:Nat->Prop} {l:List Seg} {f:Nat->Value} (hr:∀i (h:i<l.length) k,k<4->f (i*4+k)=(jD l[i])[k]!):
  ∀i (h:i<l.length) k (hk:k<(EE.enc .seg l[i]).length),Rel EE w ρ st (EE.enc .seg l[i])[k] (f (i*UU.size .seg+k)):=by
 intro i hi k hk;have hk4:k<4:=hk;have e:=hr i hi k hk4;rw[show i*UU.size .seg+k=i*4+k from rfl,e];rcases k4 hk4 with rfl|rfl|rfl|rfl
 ·exact .int _ _
 ·exact .int _ _
 ·exact .int _ _
 ·exact .int _ _
theorem bGu (l:List Seg) (i k:Nat) (hi:i<l.length) (hk:k<4):(flatK jD 4 l.toArray).toList.getD (i*4+k) undef=(jD l[i])[k]!:=by
 have lt:i*4+k<(flatK jD 4 l.toArray).size:=by
  rw[size_flatK];have:l.toArray.size=l.length:=by simp
  omega
 have h1:(flatK jD 4 l.toArray)[i*4+k]! =(jD l.toArray[(i*4+k) / 4]!)[(i*4+k) % 4]!:=get_flatK _ _ _ _ (by rw[size_flatK] at lt;exact lt);rw[getElem!_pos (flatK jD 4 l.toArray) (i*4+k) lt] at h1;have e1:(i*4+k) / 4=i:=by omega
 have e2:(i*4+k) % 4=k:=by omega
 rw[e1,e2,getElem!_pos l.toArray i (by simpa using hi)] at h1;rw[List.getD_eq_getElem?_getD,Array.getElem?_toList,Array.getElem?_eq_getElem lt,Option.getD_some,h1];simp
theorem aY1 {blk cap:Nat} {l:List Seg} {w:World} (hl:gA l) (hsz:l.length<=2000000) (hH:HoldsK jD 4 w blk 0 l.toArray) (hblk:blk<w.heap.size):
  Calls Tryz.prog 120 #[.slice (some ⟨blk,0,none⟩) l.length cap,.func (.func 121) #[] #[]] w fun e w'=>e=.returned (.tuple #[])/\∃n os,w'=grow (putRowK jD 4 (Sort.ahead w n) blk 0 (gH l).toArray) os:=by
 have eg:∀args w,(callFunc 121 args).run Tryz.prog w=.ok (.enter 121 args) w:=fun args w=>hG (fn:=Tryz.f121) Tryz.func121 (by kernel_rfl) rfl args w
 have h:=AnyQ.slices_SortFunc Tryz.aRa 4 (fun w=>by kernel_rfl) (fun w=>by kernel_rfl) jD (fun _=>rfl) (fun x v hv=>by
  simp only[jD,List.mem_cons,List.not_mem_nil,or_false] at hv;rcases hv with rfl|rfl|rfl|rfl<;>rfl) mN aNd 121 #[] blk 0 cap l.toArray w eg (fun m os dk hdk x y=>Tryz.bCK x y _) hH hblk (by simp;omega)
 have h':Calls Tryz.prog 120 #[.slice (some ⟨blk,0,none⟩) l.length cap,.func (.func 121) #[] #[]] w fun e w'=>
   e=.returned (.tuple #[])/\∃d' n os,PermIn 0 l.toArray.size l.toArray d'/\SortedIn (ltOf mN) 0 l.toArray.size d'/\w'=sortWorldK jD 4 w blk 0 n d' os:=h
 refine h'.mono ?_
 rintro e w' ⟨rfl,d',n,os,⟨p1,p2,p3⟩,hs,rfl⟩
 refine⟨rfl,n,os,?_⟩;have e1:d'.toList.Perm l:=by
  have q1:(d'.extract 0 l.toArray.size).toList=d'.toList:=by rw[<- p1];simp
  have q2:(l.toArray.extract 0 l.toArray.size).toList=l:=by simp
  rw[q1,q2] at p3;exact p3
 have hsz':d'.toList.length=l.toArray.size:=by rw[Array.length_toList];exact p1
 have e2:d'.toList=gH l:=by
  refine bBd hl e1 ?_;rw[List.pairwise_iff_getElem];intro i j hi hj hij;have:=hs i j (Nat.zero_le _) hij (by rw[hsz'] at hj;exact hj);rw[aB7] at this;have gi:d'[i]! =d'.toList[i]:=by rw[getElem!_pos _ _ (by rw[hsz'] at hi;rw[p1];exact hi)];simp
  have gj:d'[j]! =d'.toList[j]:=by rw[getElem!_pos _ _ (by rw[hsz'] at hj;rw[p1];exact hj)];simp
  rw[gi,gj] at this;exact this
 unfold sortWorldK;rw[<- e2]
theorem aY2 (c:Nat) (w:World):Calls Tryz.prog 120 #[.slice none 0 c,.func (.func 121) #[] #[]] w fun e w'=>e=.returned (.tuple #[])/\w'=w:=
 AnyF.slices_SortFunc_none Tryz.aRa none c (.func (.func 121) #[] #[]) w
noncomputable section
def aLj:aA4 UU
 |[.osl 0 g,.fn 121 []],.row .seg g' l=>cond (Nat.beq g g') (some ([gA l/\l.length<=2000000],.raw (.tuple #[]),.row .seg g' (gH l))) none
 |_,_=>none
theorem bIG {C:Cfg UU} (hP:C.P=Tryz.prog) (hE:C.E=EE) (w0:World):zU C 120 aLj w0:=by
 refine⟨fun args w=>by rw[hP];exact hG (fn:=Tryz.f120) Tryz.func120 (by kernel_rfl) rfl args w,fun st ρ w args k0 xs ob ob' cs r hb hst hdom hsep hob hsz hrel lT hm hc jN hpr hown=>?_⟩;unfold aLj at hm;split at hm
 ·rename_i g g' l;obtain⟨hg,hm⟩:=bI hm;obtain rfl:=Nat.eq_of_beq_eq_true hg;cases hm;obtain rfl:0=k0:=by cases hown;rfl
  obtain⟨h1,h2⟩:gA l/\l.length<=2000000:=hc;rw[hE] at hob hrel ⊢;obtain⟨u,cells,hu,hup,hro,hcs⟩:=hob;have e0:=hrel 0 (by simp);have e1:=hrel 1 (by simp);obtain⟨al⟩:=args
  match al,hsz with
  |[x,y],_=>
   simp at e0 e1;obtain rfl:x=u:=by
    cases e0 with
    |osl _ _ u' hu' _=>
     rw[hu] at hu';cases hu';rfl
    |oslOld _ _ g2 u' v hu' hlt=>
     rw[hu] at hu';cases hu';omega
   obtain rfl:y=.func (.func 121) #[] #[]:=by
    cases e1 with
    |fn _ _ vs hn hl=>
     have:vs=#[]:=Array.eq_empty_of_size_eq_zero hn;rw[this]
   rw[hP];have hcells:=bJU (f:=fun j=>cells.getD j undef) hcs;have hbase:w0.heap.size<=w.heap.size:=hb.size;have fin:∀(w':World) (cs':List Value),w'.ownsRow w0.heap.size (UU.ety .seg) (UU.size .seg) x (gH l).length cs'->(∀i (h:i<(gH l).length) k,k<4->cs'.getD (i*4+k) undef=(jD (gH l)[i])[k]!)->Go.RowKit.Below w0.heap.size w w'->
     (∀b,b<w.heap.size->blk x≠some b->w'.heap[b]?=w.heap[b]?)->∃v ρ',Ending.returned (.tuple #[])=.returned v/\(((aB.raw (.tuple #[]):aB UU).sU=true->Rel EE w' bU (fun _=>False) (.raw (.tuple #[])) v)/\(w6 0 (.raw (.tuple #[]):aB UU) (.row .seg g (gH l))=true->Rel EE w' ρ' (fun _=>False) (.raw (.tuple #[])) v))/\
   eG EE w' ρ' (fun b=>(st b\/w.heap.size<=b\/∃nm g u,ρ nm=some (g,u)/\blk u=some b)/\b<w'.heap.size/\∀nm g u,ρ' nm=some (g,u)->blk u≠some b) w0.heap.size 0 (.row .seg g (gH l))/\
   (∀nm g' u,ρ' nm=some (g',u)->nm.id=0/\((aV.row .seg g (gH l):aV UU).simple=true->nm=.ob 0))/\Chg (fun _=>False) (fun i=>i=0) w0.heap.size ρ ρ' w w':=by
    intro w' cs' q1 q2 q3 q4;refine⟨_,ρ,rfl,⟨fun _=>.raw _,fun h=>by cases h⟩,⟨x,cs',hu,hup,q1,bAe (f:=fun j=>cs'.getD j undef) q2⟩,hdom,⟨fun _ _=>rfl,fun _ _ _ _ h=>.inl h,q3,fun b hb hne=>q4 b hb (hne (.ob 0) _ _ rfl hu),fun nm q u k hn h hbl=>.inl ⟨nm,q,u,hn,h,hbl⟩,fun nm nm' q q' u u' k _ _ h h' hne hbl=>hsep _ _ _ _ _ _ k h h' hne hbl⟩⟩
   have hlen:(gH l).length=l.length:=(vU l).length_eq;rcases hro.2 with ⟨rfl,hn⟩|⟨b,cap,cur,rfl,q1,q2,q3,q4,q5,q6⟩
   ·have nQ:l=[]:=List.eq_nil_of_length_eq_zero hn;subst nQ;refine(aY2 0 w).mono ?_
    rintro e w' ⟨rfl,rfl⟩
    have e3:gH ([]:List Seg)=[]:=List.eq_nil_of_length_eq_zero (by rw[hlen];rfl);refine fin w' [] ?_ (fun i h=>?_) (Go.RowKit.Below.refl _ _) (fun b hb _=>rfl)
    ·rw[e3];exact World.ownsRow_nil _ _ _ _
    ·rw[e3] at h;exact absurd h (by simp)
   ·have hbl:b<w.heap.size:=(Array.getElem?_eq_some_iff.1 q2).1;have hH:HoldsK jD 4 w b 0 l.toArray:=by
     intro j hj;rw[size_flatK] at hj;have hj':j<l.length*4:=by simpa using hj
     have hcur:(cur.toList.take (l.length*4))[j]?=cells[j]?:=by
      have:UU.size .seg=4:=rfl;rw[this] at q6;rw[q6]
     rw[List.getElem?_take,if_pos hj',Array.getElem?_toList] at hcur;have hjc:j<cells.length:=by
      have:=hro.1;have e4:UU.size .seg=4:=rfl;rw[e4] at this;omega
     rw[List.getElem?_eq_getElem hjc] at hcur;have hv:=hcells (j / 4) (by omega) (j % 4) (Nat.mod_lt _ (by decide));have hjj:j / 4*4+j % 4=j:=by omega
     rw[hjj,List.getD_eq_getElem?_getD,List.getElem?_eq_getElem hjc,Option.getD_some] at hv;refine⟨?_,by simp[World.frozen?,q2]⟩;rw[Nat.zero_add,get_flatK _ _ _ _ hj];simp only[World.cell?,q2];simp only[Option.isSome_none,Bool.false_eq_true,if_false];rw[hcur,hv];rw[getElem!_pos l.toArray (j / 4) (by simp;omega)];simp
    refine(aY1 h1 h2 hH hbl).mono ?_
    rintro e w' ⟨rfl,n,os,rfl⟩
    have hsz2:(gH l).toArray.size=l.length:=by simp[hlen]
    refine fin _ (flatK jD 4 (gH l).toArray).toList ?_ (fun i hi k hk=>bGu _ _ _ hi hk) ?_ (fun b' hb' hne=>?_)
    ·rw[hlen];exact bCB (bBz hro hsz2)
    ·refine bKp ?_ (by rw[size_putRowK];exact hbase);exact below_putRow (Go.RowKit.Below.refl _ _) q1
    ·have hne':b≠b':=fun e=>hne (by rw[e];rfl)
     rw[heap_grow_old _ _ (by rw[size_putRowK];exact hb')];simp[putRowK,putRow,mapBlock,Sort.ahead,Array.getElem?_modify,hne']
 ·cases hm
end
end Go.Proofs.YtjjbojomlfgjlaaGreatDoor
namespace Go.Proofs.YtjjbojomlfgjlaaGreatDoor
open Go.Vm Go.RowKit
set_option linter.unusedVariables false
noncomputable section
set_option maxHeartbeats 4000000 in
set_option maxRecDepth 100000 in
theorem bJK (n:Int) (w:World) (hg:w.cell? ⟨0,0,none⟩=some (.iface 271 (.agg #[.pointer (some ⟨5,114,none⟩)]))):
  Calls Tryz.prog 53 #[.iface 186 (.agg #[.int .i64 n])] w fun e w'=>e=.returned (.int .i64 n)/\Below w.heap.size w w':=by
 have hlt:0<w.heap.size:=by
  rcases Nat.eq_zero_or_pos w.heap.size with h0|h
  ·simp[World.cell?,h0] at hg
  ·exact h
 have hA:=Tryz.bHq n ⟨w.heap.size,0,none⟩ (.int .i64 0) (w.alloc (.cells #[.int .i64 0] 186)) (by rw[World.cell?_alloc_lt _ _ ⟨0,0,none⟩ hlt];exact hg) (by simp) (World.frozen?_alloc_at _ _ _ _ rfl);have hA':Calls Tryz.prog 118 #[.iface 186 (.agg #[.int .i64 n]),.iface 190 (.pointer (some ⟨w.heap.size,0,none⟩))] (w.alloc (.cells #[.int .i64 0] 186)) fun e w'=>e=.returned (.bool true)/\w'.cell? ⟨w.heap.size,0,none⟩=some (.int .i64 n)/\Below w.heap.size w w':=hA.mono (by
  rintro e w' ⟨rfl,rfl⟩
  refine⟨rfl,?_,?_⟩
  ·refine World.cell?_setCell_same _ _ _ (u:=.int .i64 0) ?_;rw[World.cell?_alloc_lt _ _ ⟨w.heap.size,0,none⟩ (by simp;omega),World.cell?_alloc_lt _ _ ⟨w.heap.size,0,none⟩ (by simp;omega),World.cell?_alloc_lt _ _ ⟨w.heap.size,0,none⟩ (by simp;omega),World.cell?_alloc_lt _ _ ⟨w.heap.size,0,none⟩ (by simp),World.cell?_alloc_at _ _ _ _ rfl];rfl
  ·exact((((((Below.refl _ w).alloc (Nat.le_refl _) _).alloc (by simp) _).alloc (by simp;omega) _).alloc (by simp;omega) _).alloc (by simp;omega) _).setCell (by simp) _)
 clear hA hg
 go_enter Tryz.func53,Tryz.ntmps53
 go_wp2_with (go_at_call 118;refine hA'.mono ?_;rintro e w' ⟨rfl,hc,hb⟩)
 go_ret
 exact⟨rfl,hb⟩
def aKG:Model UU
 |[.raw (.iface 186 (.agg ⟨[.int .i64 n]⟩))]=>some ([],.int .i64 n)
 |_=>none
theorem bAU {C:Cfg UU} (hE:C.E=EE) (hs:aX C) (hP:C.P=Tryz.prog) (hI:∀w,C.inv w->inv1 w):aX (C.add 53 aKG):=by
 refine hs.put ⟨fun args w=>by rw[hP];exact hG (fn:=Tryz.f53) Tryz.func53 (by kernel_rfl) rfl args w,?_⟩;intro N w args xs cs r hinv hN hargs hm hc;unfold aKG at hm;split at hm
 ·rename_i n;cases hm;obtain⟨a,rfl,ha⟩:=aHk hargs;rw[hP];cases ha;refine(bJK n w (hI w hinv).1.2).mono ?_
  rintro e w' ⟨rfl,hb⟩
  exact⟨_,rfl,jQ.of rfl rfl (.int _ _),hb⟩
 ·cases hm
def aKE:Model UU
 |[]=>some ([],.frz .D)
 |_=>none
theorem bAS {C:Cfg UU} (hE:C.E=EE) (hs:aX C) (hP:C.P=Tryz.prog):aX (C.add 44 aKE):=by
 refine hs.put ⟨fun args w=>by rw[hP];exact hG (fn:=Tryz.f44) Tryz.func44 (by kernel_rfl) rfl args w,?_⟩;intro N w args xs cs r hinv hN hargs hm hc;unfold aKE at hm;split at hm
 ·cases hm;have:args=#[]:=Array.eq_empty_of_size_eq_zero hargs.1;subst this;rw[hP,hE];refine(bIn w).mono ?_
  rintro e w' ⟨rfl,rfl⟩
  refine⟨_,rfl,jQ.of rfl rfl (aEO .D ?_),bGT w _⟩;have st:∀i,i<4->dJ N (gr w [M (lD (.map (some (w.heap.size+1))) (.map (some (w.heap.size+2))) (.map (some (w.heap.size+3)))),M (strs zW),M (strs lJ),M (strs zV)]) (w.heap.size+i):=fun i hi=>by
   refine⟨?_,fun h=>by have:=hN _ h;omega⟩;show _<(w.heap++_).size;simp;omega
  exact⟨_,_,_,⟨_,rfl,st 1 (by omega),aCR w _ 1⟩,⟨_,rfl,st 2 (by omega),aCR w _ 2⟩,⟨_,rfl,st 3 (by omega),aCR w _ 3⟩,⟨_,rfl,st 0 (by omega),aCR w _ 0⟩⟩
 ·cases hm
def rV:Cfg UU:=((((aXj.add 119 aKH).add 55 aKI).add 53 aKG).add 44 aKE).aA1 120 aLj
theorem aZz:aX rV:=by
 have h1:=bAV rfl bAM rfl;have h2:=bAW rfl h1 rfl;have h3:=bAU rfl h2 rfl fun _ h=>h
 have h4:=bAS rfl h3 rfl;exact h4.aEU fun w0 _=>bIG rfl rfl w0
def aKr (f:FuncId):Option (Func×Code):=cond (Nat.beq f 52) (some (Tryz.f52,bo Tryz.f52)) none
theorem bFu (f:FuncId) (fn:Func) (c:Code) (h:aKr f=some (fn,c)):Tryz.prog.funcs[f]?=some fn/\fn.body=some c/\∀(args:Array Value) (w:World),(callFunc f args).run Tryz.prog w=.ok (.enter f args) w:=by
 unfold aKr at h;obtain⟨hf,h⟩:=bI h;obtain rfl:=Nat.eq_of_beq_eq_true hf;cases h;exact⟨Tryz.func52,by kernel_rfl,fun args w=>hG (fn:=Tryz.f52) Tryz.func52 (by kernel_rfl) rfl args w⟩
def nN (C:Cfg UU) (hP:C.P=Tryz.prog:=by rfl):Cfg UU:={C with inl:=aKr,inlOK:=fun f fn c h=>by rw[hP];exact bFu f fn c h,dep:=1}
theorem bLW {C:Cfg UU} (hP:C.P=Tryz.prog) (hs:aX C) (hmix:C.P.follows .mixedOrders=true) {f:FuncId} {m:Model UU} {fn:Func} {c:Code} (hf:C.P.funcs[f]?=some fn) (hn:(fn.name== "runtime.NumGoroutine")=false)
  (hb:fn.body=some c) (hx:∀xs cs r,m xs=some (cs,r)->dE cs->(Nat.ble xs.length fn.ntmps&&Nat.ble fn.ntmps 1000000)=true/\∃M fuel fr,aA5 (exec (nN C hP) fn.ntmps M fuel 0 c (cQ xs) (bH (nN C hP) fr fn fun r'=>r'=r))):aX (C.add f m):=by
 have hs':aX (nN C hP):=hs;have:=aX.aMJ (C:=nN C hP) hs' hmix hf hn hb hx;exact this
set_option maxRecDepth 100000
def bIT (F:Nat):=bW (bC yZ F 0 rV) rV Tryz.f54.ntmps yZ F
def bAv (F:Nat):=cO (bC yZ F 0 rV) rV Tryz.f54.ntmps yZ F
abbrev aW9:=Int->Int->List Seg->List Seg->Prop
def aKW (k:ASt UU->Prop):aW9:=(fun t14 t15 bR aY=>k ⟨tmL [(4,.osl 122 0),(13,.osl 121 0),(14,.int .i64 t14),(15,.int .i64 t15)],obL [(121,.row .seg 0 bR),(122,.row .seg 0 aY)]⟩)
def bJg:=(cL (cB (cS (cF (cS4 (bo Tryz.f54))))))
def aGv (F:Nat) (K:zK) (n r:Nat):aW9:=aKW fun s=>iter (bIT F 0 bJg) (yZ 0 0) n r s K
def aSF (F:Nat) (Post:aB UU->Prop):zK:=bJ 0 (bAv F 0 (cS4 (cS (bo Tryz.f54))) (bH rV true Tryz.f54 Post))
theorem aQW (F:Nat) (K:zK):∀n r,aGv F K n r=uQ F (aKW (K (.exit 0))) n
 |0,_=>by kernel_rfl
 |n+1,r=>Eq.trans (b:=(fun t14 t15 bR aY=>aFd (aGv F K n (r+1)) (aKW (K (.exit 0))) t14 t15 bR aY)) (by kernel_rfl) (by rewrite[aQW F K n (r+1)];kernel_rfl)
theorem bD9 (F:Nat) (Post:aB UU->Prop):aGv F (aSF F Post) F 0=aOB F (fun r0=>Post (.new .seg r0)):=
 (aQW F _ F 0).trans (by kernel_rfl)
theorem bHM (F:Nat) (Post:aB UU->Prop) (a0:List Seg):exec rV Tryz.f54.ntmps yZ F 0 (bo Tryz.f54) (cQ [.sl .seg a0]) (bH rV true Tryz.f54 Post)=aM6 F a0 (fun r0=>Post (.new .seg r0)):=
 Eq.trans (b:=aTt a0 (fun r0=>Post (.new .seg r0)) (aGv F (aSF F Post) F 0)) (by kernel_rfl) (by rewrite[bD9 F Post];kernel_rfl)
def aOh:Model UU
 |[.sl .seg a0]=>some ([aIw a0],.new .seg (aIX a0))
 |_=>none
def qY:Cfg UU:=rV.add 54 aOh
theorem aYv:aX qY:=cM aZz mixed Tryz.func54 (by kernel_rfl) (by kernel_rfl) fun xs cs r h hc=>by
 unfold aOh at h;split at h
 ·rename_i a0;cases h;obtain⟨F,hF⟩:=bCb a0 hc;exact⟨by kernel_rfl,yZ,F,true,⟨by rw[bHM];exact hF _ rfl⟩⟩
 ·cases h
end
end Go.Proofs.YtjjbojomlfgjlaaGreatDoor
