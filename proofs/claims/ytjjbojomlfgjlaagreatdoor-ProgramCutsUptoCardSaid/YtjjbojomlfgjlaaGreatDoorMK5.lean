/- Lemmas, walks and laws of this proof, part 5. Conditions: those that each names. -/
import Derived.Test.YtjjbojomlfgjlaaGreatDoorMK4
import Derived.Shelf.Small.Bits
import Derived.Shelf.Small.Wraps
import Derived.Ground.Names2Prog
import Derived.Shelf.Slices.Clone
import Derived.Shelf.Slices.CompactI
import Derived.Ground.SlsfProg
import Derived.Shelf.SlSortCmp.NoneTotal
import Derived.Test.YtjjbojomlfgjlaaGreatDoorProg
import Derived.Lib.OwnBridge
namespace Go.Proofs.YtjjbojomlfgjlaaGreatDoor
open Go.Proofs.Tryz
open Go.Vm Go.RowKit
set_option linter.unusedVariables false
noncomputable section
def zN:Nat->Nat->Nat->Canon UU:=fun o b r=>cond (Nat.beq b 0) ⟨[1,2,10,11,12],[1],[],[],[]⟩ (cond (Nat.beq b 2) ⟨[1,5,6,37,38,39],[1],[],[],[]⟩ (⟨[],[],[],[],[]⟩))
abbrev aA9:=Int->List aA->Int->Int->ByteArray->ByteArray->Int->Int->List aA->List aA->List aA->Prop
def aZG (L J:ByteArray) (I G:Int) (f u r:List aA) (Q:Int->Prop) (O:aA9):Prop:=O 0 f (f.length:Int) 0 L J I G f u r
def aZF (Z x0 x1:aA9) (t2:Int) (r:List aA) (u f:Int) (G I:ByteArray) (J L:Int) (V S O:List aA):Prop:=cond (decide (f<u)) ((let e0:=(r.getD f.toNat default);((0<=f/\f<r.length)/\cond (!(kL e0.X e0.Y e0.W e0.H)) (x0 1 r u f G I J L V S O) (Z t2 r u (aB (f+1)) G I J L V S O)))) (x1 t2 r u f G I J L V S O)
def aZI (Q:Int->Prop) (f:Int) (G:List aA) (u r:Int) (I J:ByteArray) (L O:Int) (Z V S:List aA):Prop:=Q f
abbrev aA8:=Int->Int->List aA->Int->Int->ByteArray->ByteArray->Int->Int->List aA->List aA->List aA->Prop
def aZH (Q:Int->Prop) (S:aA8) (t2:Int) (t10:List aA) (t11 Z:Int) (r u:ByteArray) (G I:Int) (f L J:List aA):Prop:=cond ((f.length:Int)==0) ((let O:=(aD7 r u G I f L J);((aHi r u G I f L J)/\Q O))) ((let e1:=(f.getD 0 default);((0<=(0:Int)/\(0:Int)<f.length)/\(let V:=(f.getD 0 default);((0<=(0:Int)/\(0:Int)<f.length)/\S e1.X V.Y f (f.length:Int) 0 r u G I f L J)))))
def aZE (G x0:aA8) (J I:Int) (r:List aA) (u f:Int) (L O:ByteArray) (S V:Int) (aD aE Z:List aA):Prop:=cond (decide (f<u)) ((let e0:=(r.getD f.toNat default);((0<=f/\f<r.length)/\G (mi J e0.X) (mi I e0.Y) r u (aB (f+1)) L O S V aD aE Z))) (x0 J I r u f L O S V aD aE Z)
def aG0 (F:Nat) (f:aA8):Nat->aA8
 |0=>fun _ _ _ _ _ _ _ _ _ _ _ _=>False
 |n+1=>aZE (aG0 F f n) f
def aNR (F:Nat) (Q:Int->Prop):aA8:=aG0 F (fun r f _ _ _ J L O S I G u=>((aDt I r f)/\((aDt G r f)/\((aDt u r f)/\(let V:=(aD7 J L O S (xP I r f) (xP G r f) (xP u r f));((aHi J L O S (xP I r f) (xP G r f) (xP u r f))/\Q V)))))) F
def aDL (F:Nat) (r f:aA9):Nat->aA9
 |0=>fun _ _ _ _ _ _ _ _ _ _ _=>False
 |n+1=>aZF (aDL F r f n) r f
def aIO (F:Nat) (Q:Int->Prop):aA9:=aDL F (aZI Q) (aZH Q (aNR F Q)) F
def aQO (F:Nat) (J I:ByteArray) (G u:Int) (L r f:List aA) (Q:Int->Prop):Prop:=aZG J I G u L r f Q (aIO F Q)
def mvS (nm mt:ByteArray) (g gr:Int) (R C M:List aA):Int:=
 cond (!(R.all kJ)) 1 (cond ((R.length:Int)==0) (lK nm mt g gr R C M) (lK nm mt g gr (R.map (pE (iD R).1 (iD R).2)) (C.map (pE (iD R).1 (iD R).2)) (M.map (pE (iD R).1 (iD R).2))))
def aMk (nm mt:ByteArray) (g gr:Int) (R C M:List aA):Prop:=R.length<=2000000/\C.length<=2000000/\M.length<=2000000
def k7 (nm mt:ByteArray) (g gr:Int) (R C M:List aA):Int:=mvS nm mt g gr R C M
theorem bKq (S O:ByteArray) (L J:Int) (f I G:List aA) (h:aMk S O L J f I G):
  ∃F,∀Q:Int->Prop,Q (k7 S O L J f I G)->aQO F S O L J f I G Q:=by
 obtain⟨Z,h2,h3⟩:=h;refine⟨f.length+1,fun Q u=>?_⟩;unfold k7 mvS at u;show aIO (f.length+1) Q 0 f (f.length:Int) 0 S O L J f I G;unfold aIO;refine aA4 f kJ Z (fun n i=>aDL (f.length+1) _ _ n 0 f f.length i S O L J f I G) _ _ (fun n i=>rfl) (f.length+1) XY (fun q j=>?_) (fun q=>?_)
 ·rw[q] at u;exact u
 ·rw[q] at u;change Q (cond ((f.length:Int)==0) _ _) at u;show cond ((f.length:Int)==0) _ _;cases V:((f.length:Int)==0)
  ·rw[V] at u;simp only[QJ] at u ⊢;have hpos:0<f.length:=by
    simp only[JT] at V;omega
   refine⟨⟨XY,XY⟩,⟨XY,XY⟩,?_⟩;unfold aNR;unfold iD at u;refine aCa f (fun (m:Int×Int) r=>(mi m.1 r.X,mi m.2 r.Y)) (fun m=>Q (lK S O L J (f.map (pE m.1 m.2)) (I.map (pE m.1 m.2)) (G.map (pE m.1 m.2)))) (fun n i m=>aG0 (f.length+1) _ n m.1 m.2 f f.length i S O L J f I G) (fun n i m hi hw=>?_) (fun n m hq=>?_) (f.length+1) 0 ((f.getD 0 default).X,(f.getD 0 default).Y) XY XY u
   ·show cond (decide ((i:Int)<(f.length:Int))) _ _;rw[bN XY,QX];refine⟨⟨XY,XY⟩,?_⟩;rw[QV,cO hi XY];exact hw
   ·show cond (decide ((f.length:Int)<(f.length:Int))) _ _;rw[bV XY,QJ];exact⟨Z,h2,h3,trivial,hq⟩
  ·rw[V] at u;exact⟨trivial,u⟩
def oC:Nat->Nat->Nat->Canon UU:=fun o b r=>cond (Nat.beq b 0) ⟨[1,2,29,30,31],[1],[],[],[]⟩ (cond (Nat.beq b 2) ⟨[1,2,7,49,50,51],[1,7],[],[],[]⟩ (cond (Nat.beq b 4) ⟨[1,2,7,49,50,51,56,57,58],[1,7],[],[],[]⟩ (cond (Nat.beq b 6) ⟨[1,2,83,84,85],[1],[],[],[]⟩ (cond (Nat.beq b 8) ⟨[1,2,13,83,84,85,93,94,95],[1,13],[],[],[]⟩ (cond (Nat.beq b 10) ⟨[1,2,13,15,83,84,85,93,94,95,100,101,102],[1,13,15],[],[],[]⟩ (⟨[],[],[],[],[]⟩))))))
abbrev oA:=Int->List Pce->Int->Int->ByteArray->ByteArray->Int->Int->Int->Int->List aA->List aA->List Pce->Prop
def aPF (S O:ByteArray) (L J I G:Int) (u r:List aA) (f:List Pce) (Q:Int->Prop) (Z:oA):Prop:=(let V:=(pK S O L J I G u r);cond (V !=0) (Q V) (cond (decide (8<(f.length:Int))) (Q 4) (Z 0 f (f.length:Int) 0 S O L J I G u r f)))
def bAd (rec x0 x1:oA) (t2:Int) (r:List Pce) (u f:Int) (J L:ByteArray) (O S aD Z:Int) (V G:List aA) (I:List Pce):Prop:=cond (decide (f<u)) ((let e0:=(r.getD f.toNat default);((0<=f/\f<r.length)/\(let r1:=(k7 e0.Name e0.Material e0.Gauge e0.Grain e0.Rects e0.Cuts e0.Forms);((aMk e0.Name e0.Material e0.Gauge e0.Grain e0.Rects e0.Cuts e0.Forms)/\cond (r1 !=0) (x0 r1 r u f J L O S aD Z V G I) (rec t2 r u (aB (f+1)) J L O S aD Z V G I)))))) (x1 t2 r u f J L O S aD Z V G I)
def aPH (Q:Int->Prop) (f:Int) (G:List Pce) (u r:Int) (L O:ByteArray) (S V aD aE:Int) (Z I:List aA) (J:List Pce):Prop:=Q f
abbrev zI:=Int->List Pce->Int->Int->ByteArray->ByteArray->Int->Int->Int->Int->List aA->List aA->List Pce->Int->Int->Int->Int->Prop
def aPG (Q:Int->Prop) (I:zI) (G:Int) (t29:List Pce) (t30 t31:Int) (L O:ByteArray) (S V u r:Int) (Z J:List aA) (f:List Pce):Prop:=I G f (f.length:Int) 0 L O S V u r Z J f 0 0 u r
abbrev aAl:=Int->List Pce->Int->Int->List aA->Int->Int->ByteArray->ByteArray->Int->Int->Int->Int->List aA->List aA->List Pce->Int->Int->Int->Int->Prop
def bAc (rec x0 x1:zI) (i2:aAl) (G:Int) (r:List Pce) (u f:Int) (Z aI:ByteArray) (aH aG aD aE:Int) (aF S:List aA) (V:List Pce) (O L J I:Int):Prop:=cond (decide (f<u)) ((let e0:=(r.getD f.toNat default);((0<=f/\f<r.length)/\i2 G r u f e0.Rects (e0.Rects.length:Int) 0 Z aI aH aG aD aE aF S V O L J I))) (x0 G r u f Z aI aH aG aD aE aF S V O L J I)
def aJ0 (Q:Int->Prop) (u:oA) (r:Int) (t49:List Pce) (t50 t51:Int) (I J:ByteArray) (L O Z V:Int) (S G:List aA) (f:List Pce) (aX bE bG bH:Int):Prop:=u r f (f.length:Int) 0 I J L O Z V S G f
def aJZ (Q:Int->Prop) (f:Int) (G:List Pce) (u r:Int) (Z aI:ByteArray) (aH aG aD aE:Int) (aF S:List aA) (V:List Pce) (O L J I:Int):Prop:=Q f
def bAb (rec x0 x1:aAl) (t2:Int) (J:List Pce) (I G:Int) (r:List aA) (u f:Int) (aJ aI:ByteArray) (aH aG aD aE:Int) (L O:List aA) (aM:List Pce) (aX Z V S:Int):Prop:=cond (decide (f<u)) ((let e0:=(r.getD f.toNat default);((0<=f/\f<r.length)/\(let r1:=(sK e0.X e0.Y e0.W e0.H aX Z V S);((((!r1)=false->aCS e0.X e0.Y e0.W e0.H L)/\(((!r1)||(sL e0.X e0.Y e0.W e0.H L))=false->aCS e0.X e0.Y e0.W e0.H O))/\cond (((!r1)||(sL e0.X e0.Y e0.W e0.H L))||(sL e0.X e0.Y e0.W e0.H O)) (x0 13 J I G r u f aJ aI aH aG aD aE L O aM aX Z V S) (rec t2 J I G r u (aB (f+1)) aJ aI aH aG aD aE L O aM aX Z V S)))))) (x1 t2 J I G r u f aJ aI aH aG aD aE L O aM aX Z V S)
abbrev zH:=Int->List Pce->Int->Int->List Pce->Int->Int->ByteArray->ByteArray->Int->Int->Int->Int->List aA->List aA->List Pce->ByteArray->ByteArray->Int->Int->List aA->List aA->List aA->Prop
def bAa (rec x0 x1:oA) (i4:zH) (I:Int) (r:List Pce) (u f:Int) (L O:ByteArray) (S V aD aE:Int) (Z J:List aA) (G:List Pce):Prop:=cond (decide (f<u)) ((let e0:=(r.getD f.toNat default);((0<=f/\f<r.length)/\((0<=f/\f<=G.length)/\i4 I r u f (G.take f.toNat) ((G.take f.toNat).length:Int) 0 L O S V aD aE Z J G e0.Name e0.Material e0.Gauge e0.Grain e0.Rects e0.Cuts e0.Forms)))) (x0 I r u f L O S V aD aE Z J G)
abbrev aAk:=Int->List Pce->Int->Int->List Pce->Int->Int->List aA->Int->Int->ByteArray->ByteArray->Int->Int->Int->Int->List aA->List aA->List Pce->ByteArray->ByteArray->Int->Int->List aA->List aA->List aA->ByteArray->ByteArray->Int->Int->List aA->List aA->List aA->Prop
def bA9 (rec x0 x1:zH) (i5:aAk) (O:Int) (J:List Pce) (I G:Int) (r:List Pce) (u f:Int) (aJ aI:ByteArray) (aH aG aD aE:Int) (aF aS:List aA) (aM:List Pce) (S V:ByteArray) (Z oZ:Int) (L oY oX:List aA):Prop:=cond (decide (f<u)) ((let e0:=(r.getD f.toNat default);((0<=f/\f<r.length)/\i5 O J I G r u f L (L.length:Int) 0 aJ aI aH aG aD aE aF aS aM S V Z oZ L oY oX e0.Name e0.Material e0.Gauge e0.Grain e0.Rects e0.Cuts e0.Forms))) (x0 O J I G r u f aJ aI aH aG aD aE aF aS aM S V Z oZ L oY oX)
def bA8 (rec x0 x1:aAk) (t2:Int) (V:List Pce) (S O:Int) (L:List Pce) (J I:Int) (r:List aA) (u f:Int) (aJ aI:ByteArray) (aH aG aD aE:Int) (aF aS:List aA) (aM:List Pce) (pC pB:ByteArray) (pA oZ:Int) (nM oY oX:List aA) (Z aF5:ByteArray) (aF4 aF3:Int) (G aF2 aF1:List aA):Prop:=cond (decide (f<u)) ((let e0:=(r.getD f.toNat default);((0<=f/\f<r.length)/\((aCS e0.X e0.Y e0.W e0.H G)/\cond (sL e0.X e0.Y e0.W e0.H G) (x0 7 V S O L J I r u f aJ aI aH aG aD aE aF aS aM pC pB pA oZ nM oY oX Z aF5 aF4 aF3 G aF2 aF1) (rec t2 V S O L J I r u (aB (f+1)) aJ aI aH aG aD aE aF aS aM pC pB pA oZ nM oY oX Z aF5 aF4 aF3 G aF2 aF1))))) (x1 t2 V S O L J I r u f aJ aI aH aG aD aE aF aS aM pC pB pA oZ nM oY oX Z aF5 aF4 aF3 G aF2 aF1)
def aGv (F:Nat) (r f:aAl):Nat->aAl
 |0=>fun _ _ _ _ _ _ _ _ _ _ _ _ _ _ _ _ _ _ _ _=>False
 |n+1=>bAb (aGv F r f n) r f
def aN7 (F:Nat) (rec x0 x1:zI):aAl:=aGv F (fun G u r f _ _ _ Z aI aH aG aD aE aF S V O L J I=>x1 G u r f Z aI aH aG aD aE aF S V O L J I) (fun G u r f _ _ _ Z aI aH aG aD aE aF S V O L J I=>rec G u r (aB (f+1)) Z aI aH aG aD aE aF S V O L J I) F
def aGu (F:Nat) (r f:aAk):Nat->aAk
 |0=>fun _ _ _ _ _ _ _ _ _ _ _ _ _ _ _ _ _ _ _ _ _ _ _ _ _ _ _ _ _ _ _ _ _=>False
 |n+1=>bA8 (aGu F r f n) r f
def aN5 (F:Nat) (rec x0 x1:zH):aAk:=aGu F (fun L J I G u r f _ _ _ aJ aI aH aG aD aE aF aS aM O S V Z nM oY oX _ _ _ _ _ _ _=>x1 L J I G u r f aJ aI aH aG aD aE aF aS aM O S V Z nM oY oX) (fun L J I G u r f _ _ _ aJ aI aH aG aD aE aF aS aM O S V Z nM oY oX _ _ _ _ _ _ _=>rec L J I G u r (aB (f+1)) aJ aI aH aG aD aE aF aS aM O S V Z nM oY oX) F
def b8 (F:Nat) (r f:zH):Nat->zH
 |0=>fun _ _ _ _ _ _ _ _ _ _ _ _ _ _ _ _ _ _ _ _ _ _ _=>False
 |n+1=>bA9 (b8 F r f n) r f (aN5 F (b8 F r f n) r f)
def aN6 (F:Nat) (rec x0 x1:oA):zH:=b8 F (fun G u r f _ _ _ L O S V aD aE Z I J _ _ _ _ _ _ _=>rec G u r (aB (f+1)) L O S V aD aE Z I J) (fun G u r f _ _ _ L O S V aD aE Z I J _ _ _ _ _ _ _=>x1 G u r f L O S V aD aE Z I J) F
def b9 (F:Nat) (r f:oA):Nat->oA
 |0=>fun _ _ _ _ _ _ _ _ _ _ _ _ _=>False
 |n+1=>bAa (b9 F r f n) r f (aN6 F (b9 F r f n) r f)
def yK (F:Nat) (Q:Int->Prop):oA:=b9 F (fun _ _ _ _ _ _ _ _ _ _ _ _ _=>Q 0) (fun f _ _ _ _ _ _ _ _ _ _ _ _=>Q f) F
def xG (F:Nat) (r f:zI):Nat->zI
 |0=>fun _ _ _ _ _ _ _ _ _ _ _ _ _ _ _ _ _=>False
 |n+1=>bAc (xG F r f n) r f (aN7 F (xG F r f n) r f)
def aCX (F:Nat) (Q:Int->Prop):zI:=xG F (aJ0 Q (yK F Q)) (aJZ Q) F
def aDY (F:Nat) (r f:oA):Nat->oA
 |0=>fun _ _ _ _ _ _ _ _ _ _ _ _ _=>False
 |n+1=>bAd (aDY F r f n) r f
def aN8 (F:Nat) (Q:Int->Prop):oA:=aDY F (aPH Q) (aPG Q (aCX F Q)) F
def aLv (F:Nat) (S O:ByteArray) (L J I G:Int) (u r:List aA) (f:List Pce) (Q:Int->Prop):Prop:=aPF S O L J I G u r f Q (aN8 F Q)
end
end Go.Proofs.YtjjbojomlfgjlaaGreatDoor
namespace Go.Proofs.YtjjbojomlfgjlaaGreatDoor
open Go.Proofs.Tryz
open Go.Vm Go.RowKit
set_option linter.unusedVariables false
noncomputable section
def yR {α:Type} (f:α->Int):List α->Int
 |[]=>0
 |x::l=>cond (f x !=0) (f x) (yR f l)
theorem bBO {α:Type} [Inhabited α] (l:List α) (f:α->Int) (X:Int->Prop) (Y:Prop) (W:Nat->Int->Prop)
  (J:∀n (i:Nat),i<l.length->((f (l.getD i default) !=0)=true->X (f (l.getD i default)))->((f (l.getD i default) !=0)=false->W n ((i+1:Nat):Int))->W (n+1) i)
  (hy:∀n,Y->W (n+1) l.length):∀(n i:Nat),i<=l.length->l.length<n+i->((yR f (l.drop i) !=0)=true->X (yR f (l.drop i)))->((yR f (l.drop i) !=0)=false->Y)->W n i:=by
 intro n
 induction n with
 |zero=>intro i O L;omega
 |succ n I=>
  intro i O L r u
  by_cases h:i<l.length
  ·rw[mX l i h] at r u;unfold yR at r u;refine J n i h (fun q=>?_) (fun q=>I (i+1) XY XY (fun G=>?_) (fun G=>?_))
   ·rw[q] at r;exact r q
   ·rw[q] at r;exact r G
   ·rw[q] at u;exact u G
  ·obtain rfl:i=l.length:=XY;refine hy n (u ?_);rw[KX];rfl
theorem aL9 {α:Type} [Inhabited α] (l:List α) (p:α->Bool):((List.range l.length).any fun i=>p (l.getD i default))=l.any p:=by
 rw[Bool.eq_iff_iff,KH,KH];constructor
 ·rintro ⟨i,hi,hp⟩
  have f:=JD.1 hi;rw[QG,QL f,Option.getD_some] at hp;exact⟨_,QN f,hp⟩
 ·rintro ⟨x,hx,hp⟩
  obtain⟨i,hi,rfl⟩:=List.mem_iff_getElem.1 hx;refine⟨i,JD.2 hi,?_⟩;rw[QG,QL hi,Option.getD_some];exact hp
theorem mH {α:Type} [Inhabited α] (l:List α) (p:α->Bool) (X Y:Prop) (W:Nat->Int->Prop) (f:∀n (i:Nat),i<l.length->(p (l.getD i default)=true->X)->(p (l.getD i default)=false->W n ((i+1:Nat):Int))->W (n+1) i)
  (hy:∀n,Y->W (n+1) l.length) (n:Nat) (r:l.length<n) (G:l.any p=true->X) (u:l.any p=false->Y):W n 0:=
 kP l.length (fun i=>p (l.getD i default)) X Y W f hy n r (by rw[aL9];exact G) (by rw[aL9];exact u)
theorem bFR {α:Type} [Inhabited α] (l:List α) (i j:Nat) (h:j<i):(l.take i).getD j default=l.getD j default:=by
 rw[QG,QG,JH,JV h]
theorem fJ {α:Type} [Inhabited α] {l:List α} {j:Nat} (h:j<l.length):l.getD j default∈l:=by
 rw[QG,QL h,Option.getD_some];exact QN h
def aES (e:Int) (ps:List Pce) (f:Pce->Int) (bad:aA->Bool) (mt:aA->List aA->Bool):Int:=
 cond (e !=0) e (cond (decide (8<(ps.length:Int))) 4 (cond (yR f ps !=0) (yR f ps) (cond (ps.any fun p=>p.Rects.any bad) 13
  (cond ((List.range ps.length).any fun i=>(List.range i).any fun j=>(ps.getD i default).Rects.any fun r=>mt r (ps.getD j default).Rects) 7 0))))
def mtP (r:aA) (l:List aA):Bool:=sL r.X r.Y r.W r.H l
def qE (w h:Int) (cl us:List aA) (r:aA):Bool:=((!(sK r.X r.Y r.W r.H 0 0 w h))||mtP r cl)||mtP r us
def uI (p:Pce):Int:=k7 p.Name p.Material p.Gauge p.Grain p.Rects p.Cuts p.Forms
def aBz (ps:List Pce):Prop:=∀p∈ps,p.Rects.length<=2000000/\p.Cuts.length<=2000000/\p.Forms.length<=2000000
def aHn (nm mt:ByteArray) (g gr w h:Int) (cl us:List aA) (ps:List Pce):Prop:=cl.length<=2000000/\us.length<=2000000/\aBz ps
def jK (nm mt:ByteArray) (g gr w h:Int) (cl us:List aA) (ps:List Pce):Int:=aES (pK nm mt g gr w h cl us) ps uI (qE w h cl us) mtP
section
variable {F:Nat} {Q:Int->Prop} (nm mt:ByteArray) (g gr w h:Int) (cl us:List aA) (ps:List Pce) (hF:2000000<F) (h8:ps.length<=8) (h6:cl.length<=2000000) (h7:us.length<=2000000) (hp:aBz ps)
include hF h8 hp
theorem cv3 (hX:((List.range ps.length).any fun i=>(List.range i).any fun j=>(ps.getD i default).Rects.any fun r=>mtP r (ps.getD j default).Rects)=true->Q 7)
  (Z:((List.range ps.length).any fun i=>(List.range i).any fun j=>(ps.getD i default).Rects.any fun r=>mtP r (ps.getD j default).Rects)=false->Q 0):yK F Q 0 ps ps.length 0 nm mt g gr w h cl us ps:=by
 unfold yK;refine kP ps.length (fun i=>(List.range i).any fun j=>(ps.getD i default).Rects.any fun r=>mtP r (ps.getD j default).Rects) (Q 7) (Q 0) (fun n i=>b9 F _ _ n 0 ps ps.length i nm mt g gr w h cl us ps) (fun n i hi hx S=>?_) (fun n hy=>?_) F XY hX Z
 ·show cond (decide ((i:Int)<(ps.length:Int))) _ _;rw[bN XY,QX];refine⟨⟨XY,XY⟩,⟨XY,XY⟩,?_⟩;rw[QV];have G:(ps.take i).length=i:=by simp;omega
  rw[G];unfold aN6;refine kP i (fun j=>(ps.getD i default).Rects.any fun r=>mtP r (ps.getD j default).Rects) (Q 7) (b9 F (fun _ _ _ _ _ _ _ _ _ _ _ _ _=>Q 0) (fun O _ _ _ _ _ _ _ _ _ _ _ _=>Q O) n 0 ps ps.length ((i+1:Nat):Int) nm mt g gr w h cl us ps) (fun m j=>b8 F _ _ m 0 ps ps.length i (ps.take i) i j nm mt g gr w h cl us ps _ _ _ _ _ _ _) (fun m j L I J=>?_) (fun m hy=>?_) F XY hx S
  ·show cond (decide ((j:Int)<(i:Int))) _ _;rw[bN XY,QX];refine⟨⟨XY,XY⟩,?_⟩;rw[QV,bFR ps i j L];unfold aN5;have hR:=(hp _ (fJ hi)).1;refine mH (ps.getD i default).Rects (fun r=>mtP r (ps.getD j default).Rects) (Q 7) (b8 F _ _ m 0 ps ps.length i (ps.take i) i ((j+1:Nat):Int) nm mt g gr w h cl us ps _ _ _ _ _ _ _) (fun k q=>aGu F _ _ k 0 ps ps.length i (ps.take i) i j (ps.getD i default).Rects (ps.getD i default).Rects.length q nm mt g gr w h cl us ps _ _ _ _ _ _ _ _ _ _ _ _ _ _) (fun k q V f u=>?_) (fun k hy=>?_) F XY I J
   ·show cond (decide ((q:Int)<((ps.getD i default).Rects.length:Int))) _ _;rw[bN XY,QX];refine⟨⟨XY,XY⟩,show (ps.getD j default).Rects.length<=2000000 from (hp _ (fJ XY)).1,?_⟩;rw[QV,cO V XY];show cond (mtP ((ps.getD i default).Rects.getD q default) (ps.getD j default).Rects) _ _;cases hb:mtP ((ps.getD i default).Rects.getD q default) (ps.getD j default).Rects with
    |true=>exact f hb
    |false=>exact u hb
   ·show cond (decide (((ps.getD i default).Rects.length:Int)<((ps.getD i default).Rects.length:Int))) _ _;rw[bV XY,QJ];show b8 F _ _ m 0 ps ps.length i (ps.take i) i (aB ((j:Int)+1)) nm mt g gr w h cl us ps _ _ _ _ _ _ _;rw[cO L XY];exact hy
  ·show cond (decide ((i:Int)<(i:Int))) _ _;rw[bV XY,QJ];show b9 F _ _ n 0 ps ps.length (aB ((i:Int)+1)) nm mt g gr w h cl us ps;rw[cO hi XY];exact hy
 ·show cond (decide ((ps.length:Int)<(ps.length:Int))) _ _;rw[bV XY,QJ];exact hy
include h6 h7
theorem cv1 (J:(ps.any fun p=>p.Rects.any (qE w h cl us))=true->Q 13) (I:(ps.any fun p=>p.Rects.any (qE w h cl us))=false->yK F Q 0 ps ps.length 0 nm mt g gr w h cl us ps):
  aCX F Q 0 ps ps.length 0 nm mt g gr w h cl us ps 0 0 w h:=by
 unfold aCX;refine mH ps (fun p=>p.Rects.any (qE w h cl us)) (Q 13) (yK F Q 0 ps ps.length 0 nm mt g gr w h cl us ps) (fun n i=>xG F (aJ0 Q (yK F Q)) (aJZ Q) n 0 ps ps.length i nm mt g gr w h cl us ps 0 0 w h) (fun n i hi hx u=>?_) (fun n hy=>?_) F XY J I
 ·show cond (decide ((i:Int)<(ps.length:Int))) _ _;rw[bN XY,QX];refine⟨⟨XY,XY⟩,?_⟩;rw[QV];unfold aN7;have L:=(hp _ (fJ hi)).1;refine mH (ps.getD i default).Rects (qE w h cl us) (Q 13) (xG F (aJ0 Q (yK F Q)) (aJZ Q) n 0 ps ps.length ((i+1:Nat):Int) nm mt g gr w h cl us ps 0 0 w h) (fun m j=>aGv F _ _ m 0 ps ps.length i (ps.getD i default).Rects (ps.getD i default).Rects.length j nm mt g gr w h cl us ps 0 0 w h) (fun m j G f r=>?_) (fun m hy=>?_) F XY hx u
  ·show cond (decide ((j:Int)<((ps.getD i default).Rects.length:Int))) _ _;rw[bN XY,QX];refine⟨⟨XY,XY⟩,⟨fun _=>h6,fun _=>h7⟩,?_⟩;rw[QV,cO G XY];show cond (qE w h cl us ((ps.getD i default).Rects.getD j default)) _ _;cases hb:qE w h cl us ((ps.getD i default).Rects.getD j default) with
   |true=>exact f hb
   |false=>exact r hb
  ·show cond (decide (((ps.getD i default).Rects.length:Int)<((ps.getD i default).Rects.length:Int))) _ _;rw[bV XY,QJ];show xG F _ _ n 0 ps ps.length (aB ((i:Int)+1)) nm mt g gr w h cl us ps 0 0 w h;rw[cO hi XY];exact hy
 ·show cond (decide ((ps.length:Int)<(ps.length:Int))) _ _;rw[bV XY,QJ];exact hy
end
theorem bLY (V S:ByteArray) (O L G u:Int) (J I:List aA) (f:List Pce) (h:aHn V S O L G u J I f):∃F,∀Q:Int->Prop,Q (jK V S O L G u J I f)->aLv F V S O L G u J I f Q:=by
 obtain⟨h6,h7,hp⟩:=h;obtain⟨F,hF⟩:∃F:Nat,2000000<F:=⟨2000001,XY⟩;refine⟨F,fun Q r=>?_⟩;unfold jK aES at r;unfold aLv aPF;dsimp only;cases h1:(pK V S O L G u J I !=0)
 ·rw[h1] at r;simp only[QJ] at r ⊢
  by_cases Z:8<(f.length:Int)
  ·rw[bN Z] at r ⊢;exact r
  rw[bV Z] at r ⊢;simp only[QJ] at r ⊢;have h8:f.length<=8:=XY;unfold aN8;refine bBO f uI Q (aCX F Q 0 f f.length 0 V S O L G u J I f 0 0 G u) (fun n i=>aDY F (aPH Q) (aPG Q (aCX F Q)) n 0 f f.length i V S O L G u J I f) (fun n i hi hx hw=>?_) (fun n hy=>?_) F 0 XY XY (fun q=>?_) (fun q=>?_)
  ·show cond (decide ((i:Int)<(f.length:Int))) _ _;rw[bN XY,QX];refine⟨⟨XY,XY⟩,?_⟩;rw[QV,cO hi XY];refine⟨hp _ (fJ hi),?_⟩;show cond (uI (f.getD i default) !=0) _ _;cases hb:(uI (f.getD i default) !=0) with
   |true=>exact hx hb
   |false=>exact hw hb
  ·show cond (decide ((f.length:Int)<(f.length:Int))) _ _;rw[bV XY,QJ];exact hy
  ·rw[List.drop_zero] at q ⊢;rw[q] at r;exact r
  ·rw[List.drop_zero] at q;rw[q,QJ] at r;refine cv1 V S O L G u J I f hF h8 h6 h7 hp (fun q=>?_) (fun q=>?_)
   ·rw[q] at r;exact r
   ·rw[q,QJ] at r;refine cv3 V S O L G u J I f hF h8 hp (fun q=>?_) (fun q=>?_)
    ·rw[q] at r;exact r
    ·rw[q] at r;exact r
 ·rw[h1] at r;exact r
end
end Go.Proofs.YtjjbojomlfgjlaaGreatDoor
namespace Go.Proofs.YtjjbojomlfgjlaaGreatDoor
open Go.Proofs.Tryz
open Go.Vm Go.RowKit
set_option linter.unusedVariables false
noncomputable section
def aBS:Nat->Nat->Nat->Canon UU:=fun o b r=>cond (Nat.beq b 0) ⟨[0,4,5,6],[],[],[],[]⟩ (⟨[],[],[],[],[]⟩)
abbrev aAh:=List aA->Int->Int->Int->Prop
def bAU (f:List aA) (Q:Int->Int->Prop) (r:aAh):Prop:=(let e0:=(f.getD 0 default);((0<=(0:Int)/\(0:Int)<f.length)/\(let e1:=(f.getD 0 default);((0<=(0:Int)/\(0:Int)<f.length)/\r f e0.X e1.Y 1))))
def bAT (u J:aAh) (r:List aA) (I G f:Int):Prop:=cond (decide (f<(r.length:Int))) ((let e0:=(r.getD f.toNat default);((0<=f/\f<r.length)/\(let e1:=(r.getD f.toNat default);((0<=f/\f<r.length)/\u r (mi I e0.X) (mi G e1.Y) (aB (f+1))))))) (J r I G f)
def aGo (F:Nat) (f:aAh):Nat->aAh
 |0=>fun _ _ _ _=>False
 |n+1=>bAT (aGo F f n) f
def aN3 (F:Nat) (Q:Int->Int->Prop):aAh:=aGo F (fun _ r f _=>Q r f) F
def aQd (F:Nat) (f:List aA) (Q:Int->Int->Prop):Prop:=bAU f Q (aN3 F Q)
def aBJ:Nat->Nat->Nat->Canon UU:=fun o b r=>cond (Nat.beq b 0) ⟨[1,2,4,5],[2],[],[],[]⟩ (⟨[],[],[],[],[]⟩)
abbrev aAd:=List aA->Bool->Int->Int->Int->Int->Int->Prop
def aZo (G I r u:Int) (J:List aA) (Q:Bool->Prop) (f:aAd):Prop:=f J false 0 G I r u
def aZn (r S O:aAd) (t1:List aA) (L:Bool) (f u G I J:Int):Prop:=cond (decide (f<(t1.length:Int))) ((let e0:=(t1.getD f.toNat default);((0<=f/\f<t1.length)/\cond (decide (e0.X<u)) ((let e1:=(t1.getD f.toNat default);((0<=f/\f<t1.length)/\cond (decide (e1.Y<G)) ((let e2:=(t1.getD f.toNat default);((0<=f/\f<t1.length)/\(let e3:=(t1.getD f.toNat default);((0<=f/\f<t1.length)/\cond (decide ((aB (u+I))<(aB (e2.X+e3.W)))) ((let Z:=(t1.getD f.toNat default);((0<=f/\f<t1.length)/\(let V:=(t1.getD f.toNat default);((0<=f/\f<t1.length)/\cond (decide ((aB (G+J))<(aB (Z.Y+V.H)))) (S t1 true f u G I J) (r t1 L (aB (f+1)) u G I J)))))) (r t1 L (aB (f+1)) u G I J)))))) (r t1 L (aB (f+1)) u G I J)))) (r t1 L (aB (f+1)) u G I J)))) (O t1 L f u G I J)
def aGd (F:Nat) (r f:aAd):Nat->aAd
 |0=>fun _ _ _ _ _ _ _=>False
 |n+1=>aZn (aGd F r f n) r f
def aIZ (F:Nat) (Q:Bool->Prop):aAd:=aGd F (fun _ f _ _ _ _ _=>Q f) (fun _ _ _ _ _ _ _=>Q false) F
def aQ1 (F:Nat) (u G f r:Int) (I:List aA) (Q:Bool->Prop):Prop:=aZo u G f r I Q (aIZ F Q)
def aBT:Nat->Nat->Nat->Canon UU:=fun o b r=>cond (Nat.beq b 0) ⟨[1,2,4,5],[2],[],[],[]⟩ (⟨[],[],[],[],[]⟩)
abbrev aAi:=List aA->Bool->Int->Int->Int->Int->Int->Prop
def bA1 (G I r u:Int) (J:List aA) (Q:Bool->Prop) (f:aAi):Prop:=f J false 0 G I r u
def bA0 (J S O:aAi) (t1:List aA) (L:Bool) (f G I r u:Int):Prop:=cond (decide (f<(t1.length:Int))) ((let e0:=(t1.getD f.toNat default);((0<=f/\f<t1.length)/\(let V:=(aD9 G I r u e0.X e0.Y e0.W e0.H);cond V (S t1 true f G I r u) (J t1 L (aB (f+1)) G I r u))))) (O t1 L f G I r u)
def aGq (F:Nat) (r f:aAi):Nat->aAi
 |0=>fun _ _ _ _ _ _ _=>False
 |n+1=>bA0 (aGq F r f n) r f
def aIa (F:Nat) (Q:Bool->Prop):aAi:=aGq F (fun _ f _ _ _ _ _=>Q f) (fun _ _ _ _ _ _ _=>Q false) F
def aQf (F:Nat) (u G f r:Int) (I:List aA) (Q:Bool->Prop):Prop:=bA1 u G f r I Q (aIa F Q)
def vE:Nat->Nat->Nat->Canon UU:=fun o b r=>cond (Nat.beq b 0) ⟨[0,3,4,5],[],[(.tmp 3,56,.bool),(.tmp 4,57,.int)],[],[]⟩ (cond (Nat.beq b 2) ⟨[0,3,4,5,6],[],[(.tmp 3,56,.bool),(.tmp 4,57,.int)],[],[]⟩ (⟨[],[],[],[],[]⟩))
abbrev zD:=List aA->Int->List Bool->zzI->Prop
def aZN (f:List aA) (Q:Bool->Prop) (r:zD):Prop:=((0<=(f.length:Int)/\(f.length:Int)=(f.length:Int)/\(f.length:Int)*1<=140737488355328)/\((0<=(0:Int)/\(0:Int)<(List.replicate ((f.length:Int).toNat) (false:Bool)).length)/\r f 0 ((List.replicate ((f.length:Int).toNat) (false:Bool)).set 0 true) ([0])))
abbrev aAa:=List aA->Int->Int->List Bool->zzI->Prop
def aZM (L I:zD) (J:aAa) (u:List aA) (f:Int) (G:List Bool) (r:zzI):Prop:=cond (decide (f<(r.length:Int))) (J u f 0 G r) (I u f G r)
def aZL (J L:aAa) (u:List aA) (r f:Int) (I:List Bool) (G:zzI):Prop:=cond (decide (f<(u.length:Int))) (((0<=f/\f<I.length)/\cond (!(I.getD f.toNat default)) (((0<=r/\r<G.length)/\(let e0:=(u.getD ((G.getD r.toNat default).toNat) default);((0<=(G.getD r.toNat default)/\(G.getD r.toNat default)<u.length)/\(let e1:=(u.getD f.toNat default);((0<=f/\f<u.length)/\(let O:=(aRC e0.X e0.Y e0.W e0.H e1.X e1.Y e1.W e1.H);cond O (((0<=f/\f<I.length)/\(((G.length+([f]).length)*8<=140737488355328)/\J u r (aB (f+1)) (I.set f.toNat true) (G++([f]))))) (J u r (aB (f+1)) I G)))))))) (J u r (aB (f+1)) I G))) (L u r f I G)
def aG2 (F:Nat) (f:aAa):Nat->aAa
 |0=>fun _ _ _ _ _=>False
 |n+1=>aZL (aG2 F f n) f
def aNS (F:Nat) (f J:zD):aAa:=aG2 F (fun u r _ I G=>f u (aB (r+1)) I G) F
def aB7 (F:Nat) (f:zD):Nat->zD
 |0=>fun _ _ _ _=>False
 |n+1=>aZM (aB7 F f n) f (aNS F (aB7 F f n) f)
def aSC (F:Nat) (Q:Bool->Prop):zD:=aB7 F (fun f _ _ r=>Q ((r.length:Int)==(f.length:Int))) F
def aQQ (F:Nat) (f:List aA) (Q:Bool->Prop):Prop:=aZN f Q (aSC F Q)
def aBU:Nat->Nat->Nat->Canon UU:=fun o b r=>cond (Nat.beq b 0) ⟨[0,1,2,7,8,9],[],[(.tmp 7,60,.rect)],[],[]⟩ (⟨[],[],[],[],[]⟩)
abbrev aAj:=List aA->Int->Int->Int->Int->List aA->Prop
def bA3 (G:List aA) (u r:Int) (Q:List aA->Prop) (f:aAj):Prop:=f G u r 2147483648 0 ([])
def bA2 (J L:aAj) (u:List aA) (t1 G r f:Int) (I:List aA):Prop:=cond (decide (f<(u.length:Int))) ((let e0:=(u.getD f.toNat default);((0<=f/\f<u.length)/\cond ((((decide ((aB (0-r))<e0.X))&&(decide (e0.X<r)))&&(decide ((aB (0-r))<e0.Y)))&&(decide (e0.Y<r))) ((((I.length+([(aA.mk (aB (e0.X+t1)) (aB (e0.Y+G)) e0.W e0.H)]).length)*32<=140737488355328)/\J u t1 G r (aB (f+1)) (I++([(aA.mk (aB (e0.X+t1)) (aB (e0.Y+G)) e0.W e0.H)])))) ((((I.length+([e0]).length)*32<=140737488355328)/\J u t1 G r (aB (f+1)) (I++([e0]))))))) (L u t1 G r f I)
def aGr (F:Nat) (f:aAj):Nat->aAj
 |0=>fun _ _ _ _ _ _=>False
 |n+1=>bA2 (aGr F f n) f
def aIb (F:Nat) (Q:List aA->Prop):aAj:=aGr F (fun _ _ _ _ _ f=>Q f) F
def aQg (F:Nat) (u:List aA) (r f:Int) (Q:List aA->Prop):Prop:=bA3 u r f Q (aIb F Q)
theorem aSM (a:Int):mi a a=a:=by unfold mi;split<;>rfl
theorem aUR {R:List aA} (h:1<=R.length):(R.drop 1).foldl (fun (m:Int×Int) r=>(mi m.1 r.X,mi m.2 r.Y)) ((R.getD 0 default).X,(R.getD 0 default).Y)=iD R:=by
 cases R with
 |nil=>cases h
 |cons r R=>
  show R.foldl _ (r.X,r.Y)=R.foldl _ (mi r.X r.X,mi r.Y r.Y);rw[aSM,aSM]
def aMr (l:List aA):Prop:=1<=l.length/\l.length<=2000000
def aBo (l:List aA):Int×Int:=iD l
theorem bLS (f:List aA) (h:aMr f):∃F,∀Q:Int->Int->Prop,Q ((aBo f).1) ((aBo f).2)->aQd F f Q:=by
 obtain⟨O,S⟩:=h;refine⟨f.length+1,fun Q u=>⟨⟨XY,XY⟩,⟨XY,XY⟩,?_⟩⟩;unfold aBo at u;rw[<- aUR O] at u;unfold aN3;refine aCa f (fun (m:Int×Int) r=>(mi m.1 r.X,mi m.2 r.Y)) (fun m=>Q m.1 m.2) (fun n i m=>aGo (f.length+1) (fun _ I G _=>Q I G) n f m.1 m.2 i) (fun n i m hi J=>?_) (fun n m L=>?_) (f.length+1) 1 ((f.getD 0 default).X,(f.getD 0 default).Y) XY XY u
 ·show cond (decide ((i:Int)<(f.length:Int))) _ _;rw[bN XY,QX];refine⟨⟨XY,XY⟩,⟨XY,XY⟩,?_⟩;rw[QV,cO hi XY];exact J
 ·show cond (decide ((f.length:Int)<(f.length:Int))) _ _;rw[bV XY,QJ];exact L
def aMm (x y w h:Int) (l:List aA):Prop:=l.length<=2000000
def aHO (x y w h:Int) (l:List aA):Bool:=l.any (aD4 x y w h)
theorem bLE (r u G I:Int) (f:List aA) (h:aMm r u G I f):∃F,∀Q:Bool->Prop,Q (aHO r u G I f)->aQ1 F r u G I f Q:=by
 have h':f.length<=2000000:=h;refine⟨f.length+1,fun Q S=>?_⟩;unfold aHO at S;show aIZ (f.length+1) Q f false 0 r u G I;unfold aIZ;refine mH f (aD4 r u G I) (Q true) (Q false) (fun n i=>aGd (f.length+1) _ _ n f false i r u G I) (fun n i hi hx L=>?_) (fun n hy=>?_) (f.length+1) XY (fun q=>?_) (fun q=>?_)
 ·show cond (decide ((i:Int)<(f.length:Int))) _ _;rw[bN XY,QX];have J:(0:Int)<=i/\(i:Int)<f.length:=⟨XY,XY⟩;refine⟨J,?_⟩;rw[QV,cO hi XY];unfold aD4 at hx L;generalize f.getD i default=e at hx L ⊢;cases O:decide (e.X<r) with
  |false=>exact L (by rw[O];rfl)
  |true=>
  refine⟨J,?_⟩;cases V:decide (e.Y<u) with
  |false=>exact L (by rw[O,V];rfl)
  |true=>
  refine⟨J,J,?_⟩;cases Z:decide ((aB (r+G))<(aB (e.X+e.W))) with
  |false=>exact L (by rw[O,V,Z];rfl)
  |true=>
  refine⟨J,J,?_⟩;cases q4:decide ((aB (u+I))<(aB (e.Y+e.H))) with
  |false=>exact L (by rw[O,V,Z,q4];rfl)
  |true=>exact hx (by rw[O,V,Z,q4];rfl)
 ·show cond (decide ((f.length:Int)<(f.length:Int))) _ _;rw[bV XY,QJ];exact hy
 ·rw[q] at S;exact S
 ·rw[q] at S;exact S
theorem bKK (a b c d x y w h:Int):aD9 a b c d x y w h=aBs a b c d x y w h:=by
 unfold aD9 aBs;rw[pI,pI]
def aCN (x y w h:Int) (l:List aA):Prop:=l.length<=2000000
def xS (x y w h:Int) (l:List aA):Bool:=l.any (yF x y w h)
theorem bN3 (x y w h:Int) (l:List aA):sL x y w h l=l.any (yF x y w h):=aFF (yF x y w h) l 0 XY
theorem bLU (G I r u:Int) (f:List aA) (h:aCN G I r u f):∃F,∀Q:Bool->Prop,Q (xS G I r u f)->aQf F G I r u f Q:=by
 have O:f.length<=2000000:=h;refine⟨f.length+1,fun Q J=>?_⟩;unfold xS at J;show aIa (f.length+1) Q f false 0 G I r u;unfold aIa;refine mH f (yF G I r u) (Q true) (Q false) (fun n i=>aGq (f.length+1) _ _ n f false i G I r u) (fun n i hi hx L=>?_) (fun n hy=>?_) (f.length+1) XY (fun q=>?_) (fun q=>?_)
 ·show cond (decide ((i:Int)<(f.length:Int))) _ _;rw[bN XY,QX];refine⟨⟨XY,XY⟩,?_⟩;rw[QV,cO hi XY];show cond (aD9 G I r u (f.getD i default).X (f.getD i default).Y (f.getD i default).W (f.getD i default).H) _ _;rw[bKK];show cond (yF G I r u (f.getD i default)) _ _;cases hb:yF G I r u (f.getD i default) with
  |true=>exact hx hb
  |false=>exact L hb
 ·show cond (decide ((f.length:Int)<(f.length:Int))) _ _;rw[bV XY,QJ];exact hy
 ·rw[q] at J;exact J
 ·rw[q] at J;exact J
structure jM (l:List aA) (s:List Bool×zzI):Prop where
 len:s.1.length=l.length
 cnt:s.2.length=s.1.count true
 mem:∀x∈s.2,0<=x/\x<l.length
theorem jM.le {l:List aA} {s:List Bool×zzI} (h:jM l s):s.2.length<=l.length:=by
 rw[h.cnt,<- h.len];exact List.count_le_length
theorem jM.get {l:List aA} {s:List Bool×zzI} (h:jM l s) {i:Nat} (hi:i<s.2.length):0<=s.2.getD i default/\s.2.getD i default<l.length:=h.mem _ (fJ hi)
theorem jM.add {l:List aA} {s:List Bool×zzI} (h:jM l s) {k:Nat} (u:k<l.length) (r:s.1.getD k default=false):jM l (s.1.set k true,s.2++[(k:Int)]):=by
 have f:k<s.1.length:=by rw[h.len];exact u
 refine⟨by rw[JM];exact h.len,?_,fun x hx=>?_⟩
 ·rw[QH,h.cnt,List.count_set (h:=f)];have e:s.1[k]=false:=by
   rw[QG,QL f,Option.getD_some] at r;exact r
  rw[e];simp
 ·rcases KK.1 hx with hx|hx
  ·exact h.mem x hx
  ·obtain rfl:=JB.1 hx;exact⟨XY,XY⟩
theorem jM.kZ {l:List aA} {s:List Bool×zzI} (h:jM l s) (a:Nat) {k:Nat} (f:k<l.length):jM l (kZ l a s k)/\s.2.length<=(Go.Proofs.YtjjbojomlfgjlaaGreatDoor.kZ l a s k).2.length/\∀i,i<s.2.length->(Go.Proofs.YtjjbojomlfgjlaaGreatDoor.kZ l a s k).2.getD i default=s.2.getD i default:=by
 unfold Go.Proofs.YtjjbojomlfgjlaaGreatDoor.kZ;cases r:s.1.getD k default with
 |true=>exact⟨h,JX _,fun _ _=>rfl⟩
 |false=>
  cases xL (l.getD a default) (l.getD k default) with
  |false=>exact⟨h,JX _,fun _ _=>rfl⟩
  |true=>
   refine⟨h.add f r,XU,fun i hi=>?_⟩;show (s.2++[(k:Int)]).getD i default=_;rw[QG,KN hi,<- QG]
theorem jM.aRJ {l:List aA} (a:Nat):∀(f:List Nat) (s:List Bool×zzI),jM l s->(∀k∈f,k<l.length)->jM l (f.foldl (Go.Proofs.YtjjbojomlfgjlaaGreatDoor.kZ l a) s)/\s.2.length<=(f.foldl (Go.Proofs.YtjjbojomlfgjlaaGreatDoor.kZ l a) s).2.length
 |[],s,h,_=>⟨h,JX _⟩
 |k::f,s,h,r=>by
  obtain⟨L,J,_⟩:=h.kZ a (r k (JJ ..));obtain⟨I,G⟩:=jM.aRJ a f _ L fun j u=>r j (QE _ u)
  exact⟨I,KU J G⟩
theorem jM.start {l:List aA} (h:1<=l.length):jM l ((List.replicate l.length false).set 0 true,[0]):=by
 refine⟨XU,?_,fun x hx=>?_⟩
 ·rw[List.count_set (h:=by simp;omega)];simp;rw[List.count_eq_zero_of_not_mem];simp
 ·obtain rfl:=JB.1 hx;exact⟨XY,XY⟩
theorem bFy {σ:Type} (len:Nat) (f:σ->Nat->σ) (I:σ->Prop) (Q:σ->Prop) (W:Nat->Int->σ->Prop) (L:∀s k,k<len->I s->I (f s k)) (G:∀n (i:Nat) s,i<len->I s->W n ((i+1:Nat):Int) (f s i)->W (n+1) i s)
  (J:∀n s,I s->Q s->W (n+1) len s):∀(n i:Nat) (s:σ),i<=len->len<n+i->I s->Q ((List.range' i (len-i)).foldl f s)->W n i s:=by
 intro n
 induction n with
 |zero=>intro i s S O;omega
 |succ n u=>
  intro i s S O hi r
  by_cases h:i<len
  ·rw[show len-i=(len-(i+1))+1 by omega,XJ,QI] at r;exact G n i s h hi (u (i+1) _ XY XY (L s i h hi) r)
  ·obtain rfl:i=len:=XY;rw[show i-i=0 by omega] at r;exact J n s hi r
def aMl (l:List aA):Prop:=1<=l.length/\l.length<=2000000
def aHL (l:List aA):Bool:=nX l
theorem bKs (f:List aA) (h:aMl f):∃F,∀Q:Bool->Prop,Q (aHL f)->aQQ F f Q:=by
 obtain⟨h1,h2⟩:=h;refine⟨f.length+1,fun Q hQ=>⟨⟨XY,rfl,XY⟩,⟨XY,by simp;omega⟩,?_⟩⟩;rw[QV];unfold aHL nX at hQ;have key:∀(n i:Nat) (s:List Bool×zzI),jM f s->i<=s.2.length->f.length<n+i->Q (((aAZ f n i s).2.length:Int)==(f.length:Int))->
   aB7 (f.length+1) (fun S _ _ Z=>Q ((Z.length:Int)==(S.length:Int))) n f i s.1 s.2:=by
  intro n
  induction n with
  |zero=>
   intro i s hi h3 h4;have:=hi.le;omega
  |succ n ih=>
   intro i s hi h3 h4 u;unfold aAZ at u;show cond (decide ((i:Int)<(s.2.length:Int))) _ _
   by_cases J:i<s.2.length
   ·rw[bN J,QX] at u;rw[bN (show (i:Int)<(s.2.length:Int) by omega),QX];obtain⟨g1,g2⟩:=hi.get J;obtain⟨a,ha⟩:∃a:Nat,s.2.getD i default=a:=⟨(s.2.getD i default).toNat,XY⟩;have hle:=hi.le;unfold aNS;refine bFy f.length (kZ f a) (fun t=>jM f t/\i<t.2.length/\t.2.getD i default=a) (fun t=>aB7 (f.length+1) (fun S _ _ Z=>Q ((Z.length:Int)==(S.length:Int))) n f (aB ((i:Int)+1)) t.1 t.2) (fun m k t=>aG2 (f.length+1) _ m f i k t.1 t.2) (fun t k I G=>?_) (fun m k t I G r=>?_) (fun m t G u=>?_) (f.length+1) 0 s XY XY ⟨hi,J,ha⟩ ?_
    ·obtain⟨L,t2,O⟩:=G;obtain⟨V,q2,q3⟩:=L.kZ a I;exact⟨V,XY,by rw[q3 i t2];exact O⟩
    ·obtain⟨L,t2,O⟩:=G;have tl:=L.le;have tn:=L.len;show cond (decide ((k:Int)<(f.length:Int))) _ _;rw[bN XY,QX];refine⟨⟨XY,XY⟩,?_⟩;rw[QV,QV,cO I XY,O,QV];unfold kZ at r;cases hf:!(t.1.getD k default)
     ·rw[hf] at r;exact r
     ·rw[hf,QX] at r;rw[QX];refine⟨⟨XY,XY⟩,⟨XY,XY⟩,⟨XY,XY⟩,?_⟩;change cond (xL (f.getD a default) (f.getD k default)) _ _;cases G:xL (f.getD a default) (f.getD k default)
      ·rw[G] at r;exact r
      ·rw[G] at r;refine⟨⟨XY,XY⟩,show (t.2.length+1)*8<=140737488355328 by omega,?_⟩;exact r
    ·show cond (decide ((f.length:Int)<(f.length:Int))) _ _;rw[bV XY,QJ];exact u
    ·rw[cO (n:=f.length) XY XY];rw[ha,QV] at u;have e:(List.range' 0 (f.length-0)).foldl (kZ f a) s=aCD f a s:=by
      unfold aCD;rw[List.range_eq_range',Nat.sub_zero]
     rw[e];obtain⟨V,q2⟩:=jM.aRJ a (List.range f.length) s hi fun k I=>JD.1 I
     exact ih (i+1) (aCD f a s) V (KU J q2) XY u
   ·rw[bV J,QJ] at u;rw[bV (show ¬(i:Int)<(s.2.length:Int) by omega),QJ];exact u
 exact key (f.length+1) 0 _ (jM.start h1) XY XY hQ
def rE (x y:Int) (r:aA):aA:=cond ((((decide (-2147483648<r.X))&&(decide (r.X<2147483648)))&&(decide (-2147483648<r.Y)))&&(decide (r.Y<2147483648))) (aA.mk (aB (r.X+x)) (aB (r.Y+y)) r.W r.H) r
theorem aA1 {α β:Type} [Inhabited α] (l:List α) (f:α->β) (Q:List β->Prop) (W:Nat->Int->List β->Prop) (I:∀n (i:Nat) (m:List β),m.length=i->i<l.length->W n ((i+1:Nat):Int) (m++[f (l.getD i default)])->W (n+1) i m)
  (J:∀n m,Q m->W (n+1) l.length m):∀(n i:Nat) (m:List β),m.length=i->i<=l.length->l.length<n+i->Q (m++(l.drop i).map f)->W n i m:=by
 intro n
 induction n with
 |zero=>intro i m u O L;omega
 |succ n G=>
  intro i m u O L r
  by_cases h:i<l.length
  ·rw[mX l i h,List.map_cons,List.append_cons] at r;exact I n i m u h (G (i+1) _ (by simp[u]) XY XY r)
  ·obtain rfl:i=l.length:=XY;rw[KX,List.map_nil,KJ] at r;exact J n m r
def yC (l:List aA) (x y:Int):Prop:=l.length<=2000000
def xU (l:List aA) (x y:Int):List aA:=l.map (rE x y)
theorem bLV (f:List aA) (u r:Int) (h:yC f u r):∃F,∀Q:List aA->Prop,Q (xU f u r)->aQg F f u r Q:=by
 have L:f.length<=2000000:=h;refine⟨f.length+1,fun Q J=>?_⟩;show aIb (f.length+1) Q f u r 2147483648 0 [];unfold aIb;refine aA1 f (rE u r) Q (fun n i m=>aGr (f.length+1) _ n f u r 2147483648 i m) (fun n i m hm hi G=>?_) (fun n m I=>?_) (f.length+1) 0 [] rfl XY XY J
 ·show cond (decide ((i:Int)<(f.length:Int))) _ _;rw[bN XY,QX];refine⟨⟨XY,XY⟩,?_⟩;rw[QV,cO hi XY,dW (n:=0-2147483648) XY XY];unfold rE at G;rw[show (0-2147483648:Int)= -2147483648 by omega];cases hb:((((decide (-2147483648<(f.getD i default).X))&&(decide ((f.getD i default).X<2147483648)))&&(decide (-2147483648<(f.getD i default).Y)))&&(decide ((f.getD i default).Y<2147483648)))
  ·rw[hb] at G;exact⟨show (m.length+1)*32<=140737488355328 by omega,G⟩
  ·rw[hb] at G;exact⟨show (m.length+1)*32<=140737488355328 by omega,G⟩
 ·show cond (decide ((f.length:Int)<(f.length:Int))) _ _;rw[bV XY,QJ];exact I
def aHo (S O:ByteArray) (L J:Int) (I G u:List aA) (r f:Int):Prop:=(yC I r f)/\(yC G r f)/\(yC u r f)
def jW (O L:ByteArray) (J I:Int) (S G u:List aA) (r f:Int):ByteArray×ByteArray×Int×Int×(List aA)×(List aA)×(List aA):=(O,L,J,I,(xU S r f),(xU G r f),(xU u r f))
def rZ:Nat->Nat->Nat->Canon UU:=fun o b r=>cond (Nat.beq b 0) ⟨[1,2,6],[1],[],[],[]⟩ (cond (Nat.beq b 2) ⟨[1,2,7,8],[1],[(.tmp 7,159,.rect)],[],[]⟩ (cond (Nat.beq b 4) ⟨[2,7,9],[],[(.tmp 7,159,.rect)],[],[]⟩ (cond (Nat.beq b 6) ⟨[2,7,9,10],[],[(.tmp 7,159,.rect)],[],[]⟩ (⟨[],[],[],[],[]⟩))))
abbrev aAo:=Int->Int->ByteArray->ByteArray->Int->Int->List aA->List aA->List aA->Prop
def aPI (S O:ByteArray) (L J:Int) (f r u:List aA) (Q:Int->Prop) (V:aAo):Prop:=(let I:=(oI S O L J);cond (I !=0) (Q I) (cond (((decide (12<(f.length:Int)))||(decide (12<(r.length:Int))))||(decide (12<(u.length:Int)))) (Q 4) ((((((f.length:Int)==0)=false->sP f)/\(((((f.length:Int)==0)||(!(jI f)))=false->sP r)/\(((((f.length:Int)==0)||(!(jI f)))||(!(jI r)))=false->sP u)))/\cond (((((f.length:Int)==0)||(!(jI f)))||(!(jI r)))||(!(jI u))) (Q 1) ((let G:=(aBo f);((aMr f)/\cond ((G.1 !=0)||(G.2 !=0)) (Q 1) (V 0 0 S O L J f r u))))))))
def bAj (S x0 Z:aAo) (V f:Int) (u G:ByteArray) (I J:Int) (r O L:List aA):Prop:=cond (decide (f<(r.length:Int))) ((let e0:=(r.getD f.toNat default);((0<=f/\f<r.length)/\((0<=f/\f<=r.length)/\(let r1:=(xS e0.X e0.Y e0.W e0.H (r.take f.toNat));((aCN e0.X e0.Y e0.W e0.H (r.take f.toNat))/\cond r1 (x0 7 f u G I J r O L) (S V (aB (f+1)) u G I J r O L))))))) (Z V f u G I J r O L)
def bAl (Q:Int->Prop) (f r:Int) (u G:ByteArray) (I J:Int) (S O L:List aA):Prop:=Q f
abbrev aAn:=Int->Int->ByteArray->ByteArray->Int->Int->List aA->List aA->List aA->List aA->Prop
def bAk (Q:Int->Prop) (I:aAn) (G V:Int) (J L:ByteArray) (O S:Int) (u f r:List aA):Prop:=((aMl u)/\cond (!(aHL u)) (Q 6) ((((([]:List aA).length+f.length)*32<=140737488355328)/\((((([]:List aA)++f).length+r.length)*32<=140737488355328)/\I G 0 J L O S u f r ((([]:List aA)++f)++r)))))
def bAi (V Z x1:aAn) (t2 f:Int) (I J:ByteArray) (L O:Int) (u G S r:List aA):Prop:=cond (decide (f<(r.length:Int))) (((0<=f/\f<r.length)/\(let r0:=(aHO ((r.getD f.toNat default).X) ((r.getD f.toNat default).Y) ((r.getD f.toNat default).W) ((r.getD f.toNat default).H) u);((aMm ((r.getD f.toNat default).X) ((r.getD f.toNat default).Y) ((r.getD f.toNat default).W) ((r.getD f.toNat default).H) u)/\cond (!r0) (Z 13 f I J L O u G S r) (cond (decide (f<(G.length:Int))) (((0<=f/\f<r.length)/\cond (((r.getD f.toNat default).W)==1) (Z 13 f I J L O u G S r) (((0<=f/\f<r.length)/\cond (((r.getD f.toNat default).H)==1) (Z 13 f I J L O u G S r) (V t2 (aB (f+1)) I J L O u G S r))))) (V t2 (aB (f+1)) I J L O u G S r)))))) (x1 t2 f I J L O u G S r)
def aPK (Q:Int->Prop) (f r:Int) (G I:ByteArray) (J L:Int) (V S O u:List aA):Prop:=Q f
def aPJ (Q:Int->Prop) (r:Int->Int->List aA->Prop) (f G:Int) (I J:ByteArray) (L O:Int) (Z V S u:List aA):Prop:=r f 0 u
abbrev aAm:=Int->Int->Int->List aA->Prop
def bAh (J G L:Int->Int->List aA->Prop) (I:aAm) (u f:Int) (r:List aA):Prop:=cond (decide (f<(r.length:Int))) (I u f 0 r) (G u f r)
def bAg (G L J:aAm) (I u f:Int) (r:List aA):Prop:=cond (decide (f<u)) (((0<=u/\u<r.length)/\((0<=f/\f<r.length)/\(let O:=(aBp ((r.getD u.toNat default).X) ((r.getD u.toNat default).Y) ((r.getD u.toNat default).W) ((r.getD u.toNat default).H) ((r.getD f.toNat default).X) ((r.getD f.toNat default).Y) ((r.getD f.toNat default).W) ((r.getD f.toNat default).H));cond (O==0) (L 7 u f r) (G I u (aB (f+1)) r))))) (J I u f r)
def aGx (F:Nat) (r f:aAm):Nat->aAm
 |0=>fun _ _ _ _=>False
 |n+1=>bAg (aGx F r f n) r f
def aN9 (F:Nat) (G J I:Int->Int->List aA->Prop):aAm:=aGx F (fun r f _ u=>I r f u) (fun r f _ u=>G r (aB (f+1)) u) F
def j0 (F:Nat) (r f:Int->Int->List aA->Prop):Nat->Int->Int->List aA->Prop
 |0=>fun _ _ _=>False
 |n+1=>bAh (j0 F r f n) r f (aN9 F (j0 F r f n) r f)
def aEO (F:Nat) (Q:Int->Prop):Int->Int->List aA->Prop:=j0 F (fun _ _ _=>Q 0) (fun f _ _=>Q f) F
def aDZ (F:Nat) (r f:aAn):Nat->aAn
 |0=>fun _ _ _ _ _ _ _ _ _ _=>False
 |n+1=>bAi (aDZ F r f n) r f
def aIf (F:Nat) (Q:Int->Prop):aAn:=aDZ F (aPK Q) (aPJ Q (aEO F Q)) F
def aD0 (F:Nat) (r f:aAo):Nat->aAo
 |0=>fun _ _ _ _ _ _ _ _ _=>False
 |n+1=>bAj (aD0 F r f n) r f
def aNa (F:Nat) (Q:Int->Prop):aAo:=aD0 F (bAl Q) (bAk Q (aIf F Q)) F
def aLw (F:Nat) (J I:ByteArray) (G u:Int) (L r f:List aA) (Q:Int->Prop):Prop:=aPI J I G u L r f Q (aNa F Q)
theorem maE (a b:Int):ma a b=max a b:=by unfold ma;split<;>omega
theorem miE (a b:Int):mi a b=min a b:=by unfold mi;split<;>omega
theorem o7 {a b c d:Int} (h:jE a b c d=true): -1048576<=a/\a+c<=1048576/\1<=c/\c<=2097152/\ -1048576<=b/\b+d<=1048576/\1<=d/\d<=2097152:=by
 unfold jE pL at h;cases f:((((((!((decide ((-1048576)<=a))&&(decide (a<=1048576))))||(!((decide ((-1048576)<=b))&&(decide (b<=1048576)))))||(decide (c<1)))||(decide (d<1)))||(decide (2097152<c)))||(decide (2097152<d)))
 ·rw[f] at h;simp only[QC,Bool.not_eq_false',QU,JN,QF] at f;simp only[QJ,QU,JN] at h;rw[dW (n:=a+c) XY XY,dW (n:=b+d) XY XY] at h;omega
 ·rw[f] at h;cases h
theorem bVr (a b c d x y w h:Int):aBp a b c d x y w h=o0 a b c d x y w h:=by
 unfold aBp o0;rw[pI,pI];cases r:jE a b c d
 ·rfl
 cases f:jE x y w h
 ·rfl
 have p:=o7 r;have q:=o7 f;simp only[KC,XV,QJ,maE];rw[dW (n:=a-x) XY XY,dW (n:=x-a) XY XY,dW (n:=b-y) XY XY,dW (n:=y-b) XY XY];rw[dW (n:=a-x-w) XY XY,dW (n:=x-a-c) XY XY,dW (n:=b-y-h) XY XY,dW (n:=y-b-d) XY XY];omega
theorem bFT (nm mt:ByteArray) (g gr:Int):oI nm mt g gr=cond ((!(vn nm))||(!(vn mt))) 2 (cond (!(pM g gr)) 1 0):=by
 unfold oI;have e:((((decide (g<1))||(decide (60<g)))||(decide (gr<0)))||(decide (2<gr)))=!(pM g gr):=by
  unfold pM pN;rw[Bool.eq_iff_iff];simp only[Bool.or_eq_true,JF,Bool.and_eq_false_imp,QU,JN,QF];omega
 rw[e]
theorem aH7 (l:List aA):jI l=fH l:=by
 unfold jI fH;congr 1;funext r;exact(pI _ _ _ _).symm
def aMs (nm mt:ByteArray) (g gr:Int) (R C M:List aA):Prop:=True
def aHR (nm mt:ByteArray) (g gr:Int) (R C M:List aA):Int:=lK nm mt g gr R C M
theorem bL0 (S O:ByteArray) (L J:Int) (f u G:List aA) (h:aMs S O L J f u G):
  ∃F,∀Q:Int->Prop,Q (aHR S O L J f u G)->aLw F S O L J f u G Q:=by
 refine⟨60,fun Q r=>?_⟩;unfold aHR lK at r;unfold aLw aPI;dsimp only;rw[bFT,aH7,aH7,aH7];cases h1:((!(vn S))||(!(vn O)))
 case true=>
  rw[h1] at r;exact r
 rw[h1] at r;simp only[QJ] at r ⊢;cases h2:!(pM L J)
 case true=>
  rw[h2] at r;exact r
 rw[h2] at r;simp only[QJ] at r ⊢;show cond false _ _;simp only[QJ];cases h3:(((decide (12<(f.length:Int)))||(decide (12<(u.length:Int))))||(decide (12<(G.length:Int))))
 case true=>
  rw[h3] at r;exact r
 rw[h3] at r;simp only[QJ] at r ⊢;simp only[QC,QF] at h3;have l1:f.length<=12:=XY;have l2:u.length<=12:=XY;have l3:G.length<=12:=XY;refine⟨⟨fun _=>show _<=2000000 by omega,fun _=>show _<=2000000 by omega,fun _=>show _<=2000000 by omega⟩,?_⟩;cases h4:(((((f.length:Int)==0)||(!(fH f)))||(!(fH u)))||(!(fH G)))
 case true=>
  rw[h4] at r;exact r
 rw[h4] at r;simp only[QJ] at r ⊢;have hpos:0<f.length:=by
  simp only[QC,JT] at h4;omega
 refine⟨⟨XY,XY⟩,?_⟩;show cond (((iD f).1 !=0)||((iD f).2 !=0)) _ _;cases h5:(((iD f).1 !=0)||((iD f).2 !=0))
 case true=>
  rw[h5] at r;exact r
 rw[h5] at r;simp only[QJ] at r ⊢;unfold aNa;refine kP f.length (fun i=>(f.take i).any (ovP (f.getD i default))) (Q 7) (cond (!(nX f)) (Q 6) (Q (aC5 f u (u++G)))) (fun n i=>aD0 60 _ _ n 0 i S O L J f u G) (fun n i hi hx I=>?_) (fun n hy=>?_) 60 XY (fun q=>?_) (fun q=>?_)
 ·show cond (decide ((i:Int)<(f.length:Int))) _ _;rw[bN XY,QX];refine⟨⟨XY,XY⟩,⟨XY,XY⟩,show (f.take (i:Int).toNat).length<=2000000 by simp;omega,?_⟩;rw[QV,cO hi XY];show cond ((f.take i).any (ovP (f.getD i default))) _ _;cases hb:(f.take i).any (ovP (f.getD i default)) with
  |true=>exact hx hb
  |false=>exact I hb
 ·show cond (decide ((f.length:Int)<(f.length:Int))) _ _;rw[bV XY,QJ];refine⟨⟨XY,XY⟩,?_⟩;show cond (!(nX f)) _ _;cases hc:!(nX f)
  case true=>
   rw[hc] at hy;exact hy
  rw[hc] at hy;simp only[QJ] at hy ⊢;refine⟨show (0+u.length)*32<=_ by omega,show (u.length+G.length)*32<=_ by omega,?_⟩;show aIf 60 Q 0 0 S O L J f u G (u++G);have V:(u++G).length<=24:=by simp;omega
  unfold aC5 at hy;generalize u++G=H at hy V ⊢;unfold aIf;refine kP H.length (fun i=>aC8 u.length f i (H.getD i default)) (Q 13) (aEO 60 Q 0 0 H) (fun n i=>aDZ 60 (aPK Q) (aPJ Q (aEO 60 Q)) n 0 i S O L J f u G H) (fun n i hi hx I=>?_) (fun n hy=>?_) 60 XY (fun q=>?_) (fun q=>?_)
  ·show cond (decide ((i:Int)<(H.length:Int))) _ _;rw[bN XY,QX];have rQ:(0:Int)<=i/\(i:Int)<H.length:=⟨XY,XY⟩;refine⟨rQ,show _<=2000000 by omega,?_⟩;rw[QV,cO hi XY];unfold aC8 at hx I;generalize H.getD i default=e at hx I ⊢;show cond (!(xO e.X e.Y e.W e.H f)) _ _;cases q1:!(xO e.X e.Y e.W e.H f) with
   |true=>exact hx (by rw[q1,Bool.or_true])
   |false=>
   rw[QJ];cases Z:decide ((i:Int)<(u.length:Int)) with
   |false=>exact I (by rw[q1,Z];rfl)
   |true=>
   refine⟨rQ,?_⟩;cases q3:(e.W==1) with
   |true=>exact hx (by rw[Z,q3];rfl)
   |false=>
   refine⟨rQ,?_⟩;cases q4:(e.H==1) with
   |true=>exact hx (by rw[Z,q3,q4];rfl)
   |false=>exact I (by rw[q1,Z,q3,q4];rfl)
  ·show cond (decide ((H.length:Int)<(H.length:Int))) _ _;rw[bV XY,QJ];exact hy
  ·rw[q] at hy;exact hy
  ·rw[q,QJ] at hy;unfold aEO;refine kP H.length (fun i=>(List.range i).any fun j=>tX (H.getD i default) (H.getD j default)) (Q 7) (Q 0) (fun n i=>j0 60 (fun _ _ _=>Q 0) (fun t2 _ _=>Q t2) n 0 i H) (fun n i hi hx I=>?_) (fun n hy=>?_) 60 XY (fun q=>?_) (fun q=>?_)
   ·show cond (decide ((i:Int)<(H.length:Int))) _ _;rw[bN XY,QX];unfold aN9;refine kP i (fun j=>tX (H.getD i default) (H.getD j default)) (Q 7) (j0 60 (fun _ _ _=>Q 0) (fun t2 _ _=>Q t2) n 0 ((i+1:Nat):Int) H) (fun m j=>aGx 60 _ _ m 0 i j H) (fun m j hj hx I=>?_) (fun m hy=>?_) 60 XY hx I
    ·show cond (decide ((j:Int)<(i:Int))) _ _;rw[bN XY,QX];refine⟨⟨XY,XY⟩,⟨XY,XY⟩,?_⟩;rw[QV,QV,cO hj XY,bVr];show cond (tX (H.getD i default) (H.getD j default)) _ _;cases hb:tX (H.getD i default) (H.getD j default) with
     |true=>exact hx hb
     |false=>exact I hb
    ·show cond (decide ((i:Int)<(i:Int))) _ _;rw[bV XY,QJ];show j0 _ _ _ _ _ (aB ((i:Int)+1)) _;rw[cO hi XY];exact hy
   ·show cond (decide ((H.length:Int)<(H.length:Int))) _ _;rw[bV XY,QJ];exact hy
   ·rw[q] at hy;exact hy
   ·rw[q] at hy;exact hy
 ·rw[q] at r;exact r
 ·rw[q,QJ] at r;cases hc:!(nX f)<;>rw[hc] at r<;>exact r
abbrev aPs:=ByteArray->ByteArray->Int->Int->List aA->List aA->List aA->Bool->Prop
def aBM:Nat->Nat->Nat->Canon UU:=fun o b r=>cond (Nat.beq b 0) ⟨[1,2,4,5,6],[1,2],[],[],[]⟩ (⟨[],[],[],[],[]⟩)
abbrev aAe:=Int->Int->Int->ByteArray->ByteArray->Int->Int->List aA->List aA->List aA->ByteArray->ByteArray->Int->Int->Prop
def bAA (L J:ByteArray) (I G:Int) (f u r:List aA) (Q:aPs) (O:aAe):Prop:=((sP f)/\cond (!(jI f)) (Q L J I G f u r false) (cond ((f.length:Int)==0) (Q L J I G f u r true) ((let e0:=(f.getD 0 default);((0<=(0:Int)/\(0:Int)<f.length)/\(let e1:=(f.getD 0 default);((0<=(0:Int)/\(0:Int)<f.length)/\O e0.X e1.Y 1 L J I G f u r ByteArray.empty ByteArray.empty 0 0)))))))
def aZz (u x0:aAe) (I G f:Int) (V Z:ByteArray) (aH aG:Int) (r aE aF:List aA) (O S:ByteArray) (J L:Int):Prop:=cond (decide (f<(r.length:Int))) ((let e0:=(r.getD f.toNat default);((0<=f/\f<r.length)/\(let e1:=(r.getD f.toNat default);((0<=f/\f<r.length)/\u (mi I e0.X) (mi G e1.Y) (aB (f+1)) V Z aH aG r aE aF O S J L))))) (x0 I G f V Z aH aG r aE aF O S J L)
def aGh (F:Nat) (f:aAe):Nat->aAe
 |0=>fun _ _ _ _ _ _ _ _ _ _ _ _ _ _=>False
 |n+1=>aZz (aGh F f n) f
def aN0 (F:Nat) (Q:aPs):aAe:=aGh F (fun u r _ G I J L V S O _ _ _ _=>(let f:=(jW G I J L V S O (aB (0-u)) (aB (0-r)));((aHo G I J L V S O (aB (0-u)) (aB (0-r)))/\Q f.1 f.2.1 f.2.2.1 f.2.2.2.1 f.2.2.2.2.1 f.2.2.2.2.2.1 f.2.2.2.2.2.2 true))) F
def aQ6 (F:Nat) (J I:ByteArray) (G u:Int) (L r f:List aA) (Q:aPs):Prop:=bAA J I G u L r f Q (aN0 F Q)
def oR (R:List aA):aA->aA:=rE (aB (0-(iD R).1)) (aB (0-(iD R).2))
def aMo (nm mt:ByteArray) (g gr:Int) (R C M:List aA):Prop:=R.length<=2000000/\C.length<=2000000/\M.length<=2000000
def lH (nm mt:ByteArray) (g gr:Int) (R C M:List aA):ByteArray×ByteArray×Int×Int×List aA×List aA×List aA×Bool:=
 cond (!(fH R)) (nm,mt,g,gr,R,C,M,false) (cond ((R.length:Int)==0) (nm,mt,g,gr,R,C,M,true) (nm,mt,g,gr,R.map (oR R),C.map (oR R),M.map (oR R),true))
theorem bLJ (O L:ByteArray) (J I:Int) (f G u:List aA) (h:aMo O L J I f G u):∃F,∀Q:ByteArray->ByteArray->Int->Int->List aA->List aA->List aA->Bool->Prop,Q ((lH O L J I f G u).1) ((lH O L J I f G u).2.1) ((lH O L J I f G u).2.2.1) ((lH O L J I f G u).2.2.2.1) ((lH O L J I f G u).2.2.2.2.1) ((lH O L J I f G u).2.2.2.2.2.1) ((lH O L J I f G u).2.2.2.2.2.2.1) ((lH O L J I f G u).2.2.2.2.2.2.2)->aQ6 F O L J I f G u Q:=by
 obtain⟨h1,h2,h3⟩:=h;refine⟨f.length+1,fun Q S=>?_⟩;unfold lH at S;refine⟨h1,?_⟩;rw[aH7];cases q1:!(fH f)
 case true=>
  rw[q1] at S;exact S
 rw[q1] at S;simp only[QJ] at S ⊢;cases Z:((f.length:Int)==0)
 case true=>
  rw[Z] at S;exact S
 rw[Z] at S;simp only[QJ] at S ⊢;have V:1<=f.length:=by
  simp only[JT] at Z;omega
 refine⟨⟨XY,XY⟩,⟨XY,XY⟩,?_⟩;unfold aN0;refine aCa f (fun (m:Int×Int) r=>(mi m.1 r.X,mi m.2 r.Y)) (fun m=>Q O L J I (f.map (rE (aB (0-m.1)) (aB (0-m.2)))) (G.map (rE (aB (0-m.1)) (aB (0-m.2)))) (u.map (rE (aB (0-m.1)) (aB (0-m.2)))) true) (fun n i m=>aGh (f.length+1) _ n m.1 m.2 i O L J I f G u _ _ _ _) (fun n i m hi hw=>?_) (fun n m hq=>?_) (f.length+1) 1 ((f.getD 0 default).X,(f.getD 0 default).Y) XY XY ?_
 ·show cond (decide ((i:Int)<(f.length:Int))) _ _;rw[bN XY,QX];refine⟨⟨XY,XY⟩,⟨XY,XY⟩,?_⟩;rw[QV,cO hi XY];exact hw
 ·show cond (decide ((f.length:Int)<(f.length:Int))) _ _;rw[bV XY,QJ];exact⟨⟨h1,h2,h3⟩,hq⟩
 ·rw[aUR V];exact S
def oB:Nat->Nat->Nat->Canon UU:=fun o b r=>cond (Nat.beq b 0) ⟨[1,2,4],[1],[],[],[]⟩ (cond (Nat.beq b 2) ⟨[1,2,7,8],[1,7],[],[],[]⟩ (cond (Nat.beq b 4) ⟨[1,2,7,8,9,10],[1,7],[],[],[]⟩ (cond (Nat.beq b 6) ⟨[1,2,11],[1],[],[],[]⟩ (cond (Nat.beq b 8) ⟨[1,2,11,12],[1],[],[],[]⟩ (cond (Nat.beq b 10) ⟨[1,2,11,12,13],[1],[],[],[]⟩ (⟨[],[],[],[],[]⟩))))))
abbrev nZ:=Int->Int->ByteArray->ByteArray->Int->Int->Int->Int->List aA->List aA->List Pce->Prop
def aOs (O L:ByteArray) (J I G u:Int) (r f:List aA) (S:List Pce) (Q:Int->Prop) (Z:nZ):Prop:=(let V:=(uA O L J I G u r f);((aCR O L J I G u r f)/\cond (V !=0) (Q V) (cond (decide (8<(S.length:Int))) (Q 4) (Z 0 0 O L J I G u r f S))))
def aYu (rec x0 x1:nZ) (t2 r:Int) (I J:ByteArray) (L O Z V:Int) (S G:List aA) (u:List Pce):Prop:=cond (decide (r<(u.length:Int))) ((let e0:=(u.getD r.toNat default);(let f:=(lH e0.Name e0.Material e0.Gauge e0.Grain e0.Rects e0.Cuts e0.Forms);(((0<=r/\r<u.length)/\(aMo e0.Name e0.Material e0.Gauge e0.Grain e0.Rects e0.Cuts e0.Forms))/\cond (!f.2.2.2.2.2.2.2) (x0 1 r I J L O Z V S G u) ((let r2:=(aHR f.1 f.2.1 f.2.2.1 f.2.2.2.1 f.2.2.2.2.1 f.2.2.2.2.2.1 f.2.2.2.2.2.2.1);((aMs f.1 f.2.1 f.2.2.1 f.2.2.2.1 f.2.2.2.2.1 f.2.2.2.2.2.1 f.2.2.2.2.2.2.1)/\cond (r2 !=0) (x0 r2 r I J L O Z V S G u) (rec t2 (aB (r+1)) I J L O Z V S G u)))))))) (x1 t2 r I J L O Z V S G u)
def aOu (Q:Int->Prop) (f r:Int) (I J:ByteArray) (L O Z V:Int) (S u:List aA) (G:List Pce):Prop:=Q f
abbrev zC:=Int->Int->ByteArray->ByteArray->Int->Int->Int->Int->List aA->List aA->List Pce->Int->Int->Int->Int->Prop
def aOt (Q:Int->Prop) (G:zC) (u t4:Int) (L O:ByteArray) (S V r f:Int) (Z I:List aA) (J:List Pce):Prop:=G u 0 L O S V r f Z I J 0 0 r f
abbrev aA7:=Int->Int->List aA->Int->ByteArray->ByteArray->Int->Int->Int->Int->List aA->List aA->List Pce->Int->Int->Int->Int->Prop
def aYt (rec x0 x1:zC) (i2:aA7) (u f:Int) (S V:ByteArray) (Z aG aD aE:Int) (aF O:List aA) (r:List Pce) (L J I G:Int):Prop:=cond (decide (f<(r.length:Int))) ((let e0:=(r.getD f.toNat default);((0<=f/\f<r.length)/\i2 u f e0.Rects 0 S V Z aG aD aE aF O r L J I G))) (x0 u f S V Z aG aD aE aF O r L J I G)
def aJW (Q:Int->Prop) (r:nZ) (f t8:Int) (I J:ByteArray) (L O Z V:Int) (S u:List aA) (G:List Pce) (aX bE bG bH:Int):Prop:=r f 0 I J L O Z V S u G
def aJV (Q:Int->Prop) (f r:Int) (S V:ByteArray) (Z aG aD aE:Int) (aF L:List aA) (O:List Pce) (J I G u:Int):Prop:=Q f
def aYs (rec x0 x1:aA7) (t2 Z:Int) (r:List aA) (f:Int) (aJ aI:ByteArray) (aH aG aD aE:Int) (J I:List aA) (aM:List Pce) (V S O L:Int):Prop:=cond (decide (f<(r.length:Int))) ((let e0:=(r.getD f.toNat default);((0<=f/\f<r.length)/\(let r1:=(oJ e0.X e0.Y e0.W e0.H V S O L);cond (!r1) (x0 13 Z r f aJ aI aH aG aD aE J I aM V S O L) ((let G:=(r.getD f.toNat default);((0<=f/\f<r.length)/\((aCN G.X G.Y G.W G.H J)/\cond (xS G.X G.Y G.W G.H J) (x0 13 Z r f aJ aI aH aG aD aE J I aM V S O L) ((let u:=(r.getD f.toNat default);((0<=f/\f<r.length)/\((aCN u.X u.Y u.W u.H I)/\cond (xS u.X u.Y u.W u.H I) (x0 13 Z r f aJ aI aH aG aD aE J I aM V S O L) (rec t2 Z r (aB (f+1)) aJ aI aH aG aD aE J I aM V S O L))))))))))))) (x1 t2 Z r f aJ aI aH aG aD aE J I aM V S O L)
abbrev zB:=Int->Int->Int->ByteArray->ByteArray->Int->Int->Int->Int->List aA->List aA->List Pce->Prop
def aYr (rec x0 x1:nZ) (i4:zB) (u f:Int) (I J:ByteArray) (L O Z V:Int) (S G:List aA) (r:List Pce):Prop:=cond (decide (f<(r.length:Int))) (i4 u f 0 I J L O Z V S G r) (x0 u f I J L O Z V S G r)
abbrev aA6:=Int->Int->Int->Int->ByteArray->ByteArray->Int->Int->Int->Int->List aA->List aA->List Pce->Prop
def aYq (rec x0 x1:zB) (i5:aA6) (u r f:Int) (J L:ByteArray) (O S aD Z:Int) (V G:List aA) (I:List Pce):Prop:=cond (decide (f<r)) (i5 u r f 0 J L O S aD Z V G I) (x0 u r f J L O S aD Z V G I)
def aYp (rec x0 x1:aA6) (t2 f u r:Int) (L O:ByteArray) (S V aD aE:Int) (Z J:List aA) (G:List Pce):Prop:=(let e0:=(G.getD f.toNat default);((0<=f/\f<G.length)/\cond (decide (r<(e0.Rects.length:Int))) ((let e1:=(G.getD f.toNat default);((0<=f/\f<G.length)/\(let I:=(e1.Rects.getD r.toNat default);((0<=r/\r<e1.Rects.length)/\(let e3:=(G.getD u.toNat default);((0<=u/\u<G.length)/\(let r4:=(xS I.X I.Y I.W I.H e3.Rects);((aCN I.X I.Y I.W I.H e3.Rects)/\cond r4 (x0 7 f u r L O S V aD aE Z J G) (rec t2 f u (aB (r+1)) L O S V aD aE Z J G)))))))))) (x1 t2 f u r L O S V aD aE Z J G)))
def aGW (F:Nat) (r f:aA7):Nat->aA7
 |0=>fun _ _ _ _ _ _ _ _ _ _ _ _ _ _ _ _ _=>False
 |n+1=>aYs (aGW F r f n) r f
def aNL (F:Nat) (rec x0 x1:zC):aA7:=aGW F (fun r f _ _ S V Z aG aD aE aF L O J I G u=>x1 r f S V Z aG aD aE aF L O J I G u) (fun r f _ _ S V Z aG aD aE aF L O J I G u=>rec r (aB (f+1)) S V Z aG aD aE aF L O J I G u) F
def aGV (F:Nat) (r f:aA6):Nat->aA6
 |0=>fun _ _ _ _ _ _ _ _ _ _ _ _ _=>False
 |n+1=>aYp (aGV F r f n) r f
def aNJ (F:Nat) (rec x0 x1:zB):aA6:=aGV F (fun u r f _ J L O S aD Z V G I=>x1 u r f J L O S aD Z V G I) (fun u r f _ J L O S aD Z V G I=>rec u r (aB (f+1)) J L O S aD Z V G I) F
def zV (F:Nat) (r f:zB):Nat->zB
 |0=>fun _ _ _ _ _ _ _ _ _ _ _ _=>False
 |n+1=>aYq (zV F r f n) r f (aNJ F (zV F r f n) r f)
def aNK (F:Nat) (rec x0 x1:nZ):zB:=zV F (fun r f _ I J L O Z V S u G=>rec r (aB (f+1)) I J L O Z V S u G) (fun r f _ I J L O Z V S u G=>x1 r f I J L O Z V S u G) F
def zW (F:Nat) (r f:nZ):Nat->nZ
 |0=>fun _ _ _ _ _ _ _ _ _ _ _=>False
 |n+1=>aYr (zW F r f n) r f (aNK F (zW F r f n) r f)
def yJ (F:Nat) (Q:Int->Prop):nZ:=zW F (fun _ _ _ _ _ _ _ _ _ _ _=>Q 0) (fun f _ _ _ _ _ _ _ _ _ _=>Q f) F
def xD (F:Nat) (r f:zC):Nat->zC
 |0=>fun _ _ _ _ _ _ _ _ _ _ _ _ _ _ _=>False
 |n+1=>aYt (xD F r f n) r f (aNL F (xD F r f n) r f)
def aCW (F:Nat) (Q:Int->Prop):zC:=xD F (aJW Q (yJ F Q)) (aJV Q) F
def aDJ (F:Nat) (r f:nZ):Nat->nZ
 |0=>fun _ _ _ _ _ _ _ _ _ _ _=>False
 |n+1=>aYu (aDJ F r f n) r f
def aNM (F:Nat) (Q:Int->Prop):nZ:=aDJ F (aOu Q) (aOt Q (aCW F Q)) F
def aLp (F:Nat) (S O:ByteArray) (L J I G:Int) (u r:List aA) (f:List Pce) (Q:Int->Prop):Prop:=aOs S O L J I G u r f Q (aNM F Q)
theorem bOh (w h:Int) (f:0<=w/\w<=1048576) (u:0<=h/\h<=1048576):aAO w h=aB6 w h:=by
 funext r;unfold aAO aB6;rw[aJN,show (2*0:Int)=0 from rfl,show aB 0=0 from rfl,Int.sub_zero,Int.sub_zero,dW XY XY,dW XY XY]
theorem bEx:kJ=aMW:=by
 funext r;exact pI _ _ _ _
theorem aIA (a f hi:Int):(!(decide (f<=a)&&decide (a<=hi)))=(decide (a<f)||decide (hi<a)):=by
 rw[Bool.eq_iff_iff];simp only[JF,Bool.and_eq_false_iff,QF,Bool.or_eq_true,JN];omega
theorem bFq (nm mt:ByteArray) (g gr w h:Int) (cl us:List aA):pK nm mt g gr w h cl us=uA nm mt g gr w h cl us:=by
 unfold pK uA fH jI oI pM pN pJ;rw[bEx,aIA,aIA];have e1:(!(decide (1<=g)&&decide (g<=60)&&(decide (0<=gr)&&decide (gr<=2))))=(((decide (g<1)||decide (60<g))||decide (gr<0))||decide (2<gr)):=by
  rw[Bool.not_and,aIA,aIA,Bool.or_assoc,Bool.or_assoc,Bool.or_assoc]
 rw[e1];generalize (((decide (g<1)||decide (60<g))||decide (gr<0))||decide (2<gr))=A;cases (!vn nm||!vn mt)
 ·cases A
  ·simp only[QJ,XX,bne_self_eq_false]
   by_cases u:1<=w/\w<=1048576/\1<=h/\h<=1048576
   ·rw[bOh w h XY XY,bV (show ¬w<1 by omega),bV (show ¬1048576<w by omega),bV (show ¬h<1 by omega),bV (show ¬1048576<h by omega)];simp only[XX,QJ];cases cl.all (aB6 w h)<;>cases us.all (aB6 w h)<;>rfl
   ·have f:((decide (w<1)||decide (1048576<w))||(decide (h<1)||decide (1048576<h)))=true:=by
     simp only[Bool.or_eq_true,JN];omega
    have r:(((decide (w<1)||decide (1048576<w))||decide (h<1))||decide (1048576<h))=true:=by
     rw[Bool.or_assoc];exact f
    rw[f,r];rfl
  ·rfl
 ·cases A<;>rfl
theorem bJn (nm mt:ByteArray) (g gr w h:Int) (cl us:List aA):aCR nm mt g gr w h cl us:=by
 unfold aCR;cases ((oI nm mt g gr) !=0) with
 |true=>trivial
 |false=>
 cases ((((decide (w<1))||(decide (1048576<w)))||(decide (h<1)))||(decide (1048576<h))) with
 |true=>trivial
 |false=>
 cases u:((decide (4<(cl.length:Int)))||(decide (48<(us.length:Int)))) with
 |true=>trivial
 |false=>
 simp only[QC,QF] at u;have r:cl.length<=2000000:=XY;have f:us.length<=2000000:=XY;refine⟨r,fun _=>f,?_⟩;cases ((!(jI cl))||(!(jI us))) with
 |true=>trivial
 |false=>exact⟨r,fun _=>f⟩
end
end Go.Proofs.YtjjbojomlfgjlaaGreatDoor
namespace Go.Proofs.YtjjbojomlfgjlaaGreatDoor
open Go.Proofs.Tryz
open Go.Vm Go.RowKit
set_option linter.unusedVariables false
noncomputable section
def aCU (p:Pce):Int:=cond (!(fH p.Rects)) 1 (cond ((p.Rects.length:Int)==0) (lK p.Name p.Material p.Gauge p.Grain p.Rects p.Cuts p.Forms) (lK p.Name p.Material p.Gauge p.Grain (p.Rects.map (oR p.Rects)) (p.Cuts.map (oR p.Rects)) (p.Forms.map (oR p.Rects))))
theorem aNf (r:aA) (l:List aA):xS r.X r.Y r.W r.H l=mtP r l:=(bN3 _ _ _ _ _).symm
def aCK (nm mt:ByteArray) (g gr w h:Int) (cl us:List aA) (ps:List Pce):Prop:=cl.length<=2000000/\us.length<=2000000/\aBz ps
def mG (nm mt:ByteArray) (g gr w h:Int) (cl us:List aA) (ps:List Pce):Int:=aES (uA nm mt g gr w h cl us) ps aCU (qE w h cl us) mtP
section
variable {F:Nat} {Q:Int->Prop} (nm mt:ByteArray) (g gr w h:Int) (cl us:List aA) (ps:List Pce) (hF:2000000<F) (h8:ps.length<=8) (h6:cl.length<=2000000) (h7:us.length<=2000000) (hp:aBz ps)
include hF h8 hp
theorem rv3 (Z:((List.range ps.length).any fun i=>(List.range i).any fun j=>(ps.getD i default).Rects.any fun r=>mtP r (ps.getD j default).Rects)=true->Q 7)
  (V:((List.range ps.length).any fun i=>(List.range i).any fun j=>(ps.getD i default).Rects.any fun r=>mtP r (ps.getD j default).Rects)=false->Q 0):yJ F Q 0 0 nm mt g gr w h cl us ps:=by
 unfold yJ;refine kP ps.length (fun i=>(List.range i).any fun j=>(ps.getD i default).Rects.any fun r=>mtP r (ps.getD j default).Rects) (Q 7) (Q 0) (fun n i=>zW F _ _ n 0 i nm mt g gr w h cl us ps) (fun n i hi hx L=>?_) (fun n hy=>?_) F XY Z V
 ·show cond (decide ((i:Int)<(ps.length:Int))) _ _;rw[bN XY,QX];unfold aNK;refine kP i (fun j=>(ps.getD i default).Rects.any fun r=>mtP r (ps.getD j default).Rects) (Q 7) (zW F (fun _ _ _ _ _ _ _ _ _ _ _=>Q 0) (fun J _ _ _ _ _ _ _ _ _ _=>Q J) n 0 ((i+1:Nat):Int) nm mt g gr w h cl us ps) (fun m j=>zV F _ _ m 0 i j nm mt g gr w h cl us ps) (fun m j S G I=>?_) (fun m hy=>?_) F XY hx L
  ·show cond (decide ((j:Int)<(i:Int))) _ _;rw[bN XY,QX];unfold aNJ;have hR:=(hp _ (fJ hi)).1;refine mH (ps.getD i default).Rects (fun r=>mtP r (ps.getD j default).Rects) (Q 7) (zV F _ _ m 0 i ((j+1:Nat):Int) nm mt g gr w h cl us ps) (fun k q=>aGV F _ _ k 0 i j q nm mt g gr w h cl us ps) (fun k q O f u=>?_) (fun k hy=>?_) F XY G I
   ·refine⟨⟨XY,XY⟩,?_⟩;rw[QV];show cond (decide ((q:Int)<((ps.getD i default).Rects.length:Int))) _ _;rw[bN XY,QX];refine⟨⟨XY,XY⟩,⟨XY,XY⟩,⟨XY,XY⟩,show (ps.getD (j:Int).toNat default).Rects.length<=2000000 from (hp _ (fJ XY)).1,?_⟩;rw[QV,QV,cO O XY,aNf];cases hb:mtP ((ps.getD i default).Rects.getD q default) (ps.getD j default).Rects with
    |true=>exact f hb
    |false=>exact u hb
   ·refine⟨⟨XY,XY⟩,?_⟩;rw[QV];show cond (decide (((ps.getD i default).Rects.length:Int)<((ps.getD i default).Rects.length:Int))) _ _;rw[bV XY,QJ];show zV F _ _ m 0 i (aB ((j:Int)+1)) nm mt g gr w h cl us ps;rw[cO S XY];exact hy
  ·show cond (decide ((i:Int)<(i:Int))) _ _;rw[bV XY,QJ];show zW F _ _ n 0 (aB ((i:Int)+1)) nm mt g gr w h cl us ps;rw[cO hi XY];exact hy
 ·show cond (decide ((ps.length:Int)<(ps.length:Int))) _ _;rw[bV XY,QJ];exact hy
include h6 h7
theorem rv1 (V:(ps.any fun p=>p.Rects.any (qE w h cl us))=true->Q 13) (S:(ps.any fun p=>p.Rects.any (qE w h cl us))=false->yJ F Q 0 0 nm mt g gr w h cl us ps):
  aCW F Q 0 0 nm mt g gr w h cl us ps 0 0 w h:=by
 unfold aCW;refine mH ps (fun p=>p.Rects.any (qE w h cl us)) (Q 13) (yJ F Q 0 0 nm mt g gr w h cl us ps) (fun n i=>xD F (aJW Q (yJ F Q)) (aJV Q) n 0 i nm mt g gr w h cl us ps 0 0 w h) (fun n i hi hx L=>?_) (fun n hy=>?_) F XY V S
 ·show cond (decide ((i:Int)<(ps.length:Int))) _ _;rw[bN XY,QX];refine⟨⟨XY,XY⟩,?_⟩;rw[QV];unfold aNL;have Z:=(hp _ (fJ hi)).1;refine mH (ps.getD i default).Rects (qE w h cl us) (Q 13) (xD F (aJW Q (yJ F Q)) (aJV Q) n 0 ((i+1:Nat):Int) nm mt g gr w h cl us ps 0 0 w h) (fun m j=>aGW F _ _ m 0 i (ps.getD i default).Rects j nm mt g gr w h cl us ps 0 0 w h) (fun m j O f r=>?_) (fun m hy=>?_) F XY hx L
  ·show cond (decide ((j:Int)<((ps.getD i default).Rects.length:Int))) _ _;rw[bN XY,QX];have G:(0:Int)<=j/\(j:Int)<(ps.getD i default).Rects.length:=⟨XY,XY⟩;refine⟨G,?_⟩;rw[QV,cO O XY,<- aJN];unfold qE at f r;generalize (ps.getD i default).Rects.getD j default=e at f r ⊢;dsimp only;cases u:!(sK e.X e.Y e.W e.H 0 0 w h) with
   |true=>exact f (by rw[u];rfl)
   |false=>
   refine⟨G,h6,?_⟩;rw[aNf];cases I:mtP e cl with
   |true=>exact f (by rw[u,I];rfl)
   |false=>
   refine⟨G,h7,?_⟩;rw[aNf];cases J:mtP e us with
   |true=>exact f (by rw[u,I,J];rfl)
   |false=>exact r (by rw[u,I,J];rfl)
  ·show cond (decide (((ps.getD i default).Rects.length:Int)<((ps.getD i default).Rects.length:Int))) _ _;rw[bV XY,QJ];show xD F _ _ n 0 (aB ((i:Int)+1)) nm mt g gr w h cl us ps 0 0 w h;rw[cO hi XY];exact hy
 ·show cond (decide ((ps.length:Int)<(ps.length:Int))) _ _;rw[bV XY,QJ];exact hy
end
theorem bKl (Z V:ByteArray) (S O I G:Int) (L J:List aA) (r:List Pce) (h:aCK Z V S O I G L J r):∃F,∀Q:Int->Prop,Q (mG Z V S O I G L J r)->aLp F Z V S O I G L J r Q:=by
 obtain⟨h6,h7,hp⟩:=h;obtain⟨F,hF⟩:∃F:Nat,2000000<F:=⟨2000001,XY⟩;refine⟨F,fun Q f=>?_⟩;unfold mG aES at f;unfold aLp aOs;dsimp only;refine⟨bJn _ _ _ _ _ _ _ _,?_⟩;cases h1:(uA Z V S O I G L J !=0)
 case true=>
  rw[h1] at f;exact f
 rw[h1] at f;simp only[QJ] at f ⊢
 by_cases hl:8<(r.length:Int)
 ·rw[bN hl] at f ⊢;exact f
 rw[bV hl] at f ⊢;simp only[QJ] at f ⊢;have h8:r.length<=8:=XY;unfold aNM;refine bBO r aCU Q (aCW F Q 0 0 Z V S O I G L J r 0 0 I G) (fun n i=>aDJ F (aOu Q) (aOt Q (aCW F Q)) n 0 i Z V S O I G L J r) (fun n i hi hx u=>?_) (fun n hy=>?_) F 0 XY XY (fun q=>?_) (fun q=>?_)
 ·show cond (decide ((i:Int)<(r.length:Int))) _ _;rw[bN XY,QX];refine⟨⟨⟨XY,XY⟩,hp _ (fJ XY)⟩,?_⟩;rw[QV,cO hi XY];unfold aCU at hx u;generalize r.getD i default=p at hx u ⊢;unfold lH;cases q1:!(fH p.Rects) with
  |true=>
   rw[q1] at hx;exact hx rfl
  |false=>
  rw[q1] at hx u;simp only[QJ] at hx u ⊢;cases q2:((p.Rects.length:Int)==0) with
  |true=>
   rw[q2] at hx u;simp only[QX] at hx u ⊢;refine⟨trivial,?_⟩;show cond (lK p.Name p.Material p.Gauge p.Grain p.Rects p.Cuts p.Forms !=0) _ _;cases hb:(lK p.Name p.Material p.Gauge p.Grain p.Rects p.Cuts p.Forms !=0) with
   |true=>exact hx hb
   |false=>exact u hb
  |false=>
   rw[q2] at hx u;simp only[QJ] at hx u ⊢;refine⟨trivial,?_⟩;show cond (lK p.Name p.Material p.Gauge p.Grain (p.Rects.map (oR p.Rects)) (p.Cuts.map (oR p.Rects)) (p.Forms.map (oR p.Rects)) !=0) _ _;cases hb:(lK p.Name p.Material p.Gauge p.Grain (p.Rects.map (oR p.Rects)) (p.Cuts.map (oR p.Rects)) (p.Forms.map (oR p.Rects)) !=0) with
   |true=>exact hx hb
   |false=>exact u hb
 ·show cond (decide ((r.length:Int)<(r.length:Int))) _ _;rw[bV XY,QJ];exact hy
 ·rw[List.drop_zero] at q ⊢;rw[q] at f;exact f
 ·rw[List.drop_zero] at q;rw[q,QJ] at f;refine rv1 Z V S O I G L J r hF h8 h6 h7 hp (fun q=>?_) (fun q=>?_)
  ·rw[q] at f;exact f
  ·rw[q,QJ] at f;refine rv3 Z V S O I G L J r hF h8 hp (fun q=>?_) (fun q=>?_)
   ·rw[q] at f;exact f
   ·rw[q] at f;exact f
def aIr (R:List aA) (m:Int×Int):Int×Int:=R.foldl (fun (m:Int×Int) r=>(mi m.1 r.X,mi m.2 r.Y)) m
theorem bNd (R:List aA):∀(m:Int×Int), -1048576<=m.1->m.1<=1048576-> -1048576<=m.2->m.2<=1048576->(∀r∈R, -1048576<=r.X/\r.X<=1048576/\ -1048576<=r.Y/\r.Y<=1048576)->
  -1048576<=(aIr R m).1/\(aIr R m).1<=1048576/\ -1048576<=(aIr R m).2/\(aIr R m).2<=1048576:=by
 induction R with
 |nil=>exact fun m a b c d _=>⟨a,b,c,d⟩
 |cons r R f=>
  intro m a b c d h;obtain⟨L,J,I,G⟩:=h r (JJ ..);refine f _ ?_ ?_ ?_ ?_ fun s u=>h s (QE _ u)<;>simp only[miE]<;>omega
theorem aHD {r:aA} (h:kJ r=true): -1048576<=r.X/\r.X<=1048576/\ -1048576<=r.Y/\r.Y<=1048576:=by
 unfold kJ at h;rw[pI] at h;have:=o7 h;omega
theorem aXw {r:aA} (h:¬(-1048576<=r.X/\r.X<=1048576/\ -1048576<=r.Y/\r.Y<=1048576)):kJ r=false:=by
 cases hv:kJ r with
 |false=>rfl
 |true=>exact absurd (aHD hv) h
theorem bO9 {r:aA} (h:r.W=0):kJ r=false:=by
 cases hv:kJ r with
 |false=>rfl
 |true=>
  unfold kJ at hv;rw[pI] at hv;have:=o7 hv;omega
theorem bVf {a b:Int} (O: -1048576<=a) (L:a<=1048576) (J: -1048576<=b) (I:b<=1048576) (r:aA):
  pE a b r=rE (aB (0-a)) (aB (0-b)) r\/(kJ (pE a b r)=false/\kJ (rE (aB (0-a)) (aB (0-b)) r)=false):=by
 rw[dW (n:=0-a) XY XY,dW (n:=0-b) XY XY];unfold pE rE;cases f:yT r with
 |false=>
  left;unfold yT at f;simp only[QC,QF] at f;rw[bN (show -2147483648<r.X by omega),bN (show r.X<2147483648 by omega),bN (show -2147483648<r.Y by omega),bN (show r.Y<2147483648 by omega)];show aA.mk _ _ _ _=aA.mk _ _ _ _;rw[show r.X+(0-a)=r.X-a by omega,show r.Y+(0-b)=r.Y-b by omega]
 |true=>
  right;refine⟨bO9 rfl,?_⟩;unfold yT at f;simp only[Bool.or_eq_true,JN] at f;cases u:((((decide (-2147483648<r.X))&&(decide (r.X<2147483648)))&&(decide (-2147483648<r.Y)))&&(decide (r.Y<2147483648))) with
  |true=>
   simp only[QU,JN] at u;refine aXw ?_;show ¬(-1048576<=aB (r.X+(0-a))/\aB (r.X+(0-a))<=1048576/\ -1048576<=aB (r.Y+(0-b))/\aB (r.Y+(0-b))<=1048576);rw[dW (n:=r.X+(0-a)) XY XY,dW (n:=r.Y+(0-b)) XY XY];omega
  |false=>
   refine aXw ?_;show ¬(-1048576<=r.X/\r.X<=1048576/\ -1048576<=r.Y/\r.Y<=1048576);intro G;rw[bN (show -2147483648<r.X by omega),bN (show r.X<2147483648 by omega),bN (show -2147483648<r.Y by omega),bN (show r.Y<2147483648 by omega)] at u;cases u
theorem aSR {f g:aA->aA} (h:∀r,f r=g r\/(kJ (f r)=false/\kJ (g r)=false)) (l:List aA):l.map f=l.map g\/(fH (l.map f)=false/\fH (l.map g)=false):=by
 unfold fH
 induction l with
 |nil=>exact .inl rfl
 |cons r l I=>
  simp only[List.map_cons,List.all_cons];rcases h r with e|⟨e1,J⟩
  ·rcases I with q|⟨G,u⟩
   ·exact .inl (by rw[e,q])
   ·exact .inr ⟨by rw[G,Bool.and_false],by rw[u,Bool.and_false]⟩
  ·exact .inr ⟨by rw[e1,Bool.false_and],by rw[J,Bool.false_and]⟩
theorem bJt (nm mt:ByteArray) (g gr:Int) {R C C' M M':List aA} (G:C.length=C'.length) (f:M.length=M'.length) (I:C=C'\/(fH C=false/\fH C'=false)) (hm:M=M'\/(fH M=false/\fH M'=false)):
  lK nm mt g gr R C M=lK nm mt g gr R C' M':=by
 rcases I with rfl|⟨L,J⟩
 ·rcases hm with rfl|⟨u,r⟩
  ·rfl
  ·unfold lK;rw[f,u,r];simp only[Bool.not_false,Bool.or_true,QX]
 ·unfold lK;rw[G,f,L,J];simp only[Bool.not_false,Bool.or_true,Bool.true_or,QX]
theorem bJs (p:Pce):aCU p=uI p:=by
 unfold aCU uI k7 mvS;show cond (!(p.Rects.all kJ)) _ _=_;cases hv:!(p.Rects.all kJ)
 case true=>rfl
 simp only[QJ];cases V:((p.Rects.length:Int)==0)
 case true=>rfl
 simp only[QJ];have f:∀r∈p.Rects,kJ r=true:=fun r u=>JG.1 (by simpa using hv) r u
 have G:0<p.Rects.length:=by
  simp only[JT] at V;omega
 have I:=aHD (f _ (fJ (j:=0) G));obtain⟨S,O,L,J⟩:=bNd p.Rects ((p.Rects.getD 0 default).X,(p.Rects.getD 0 default).Y) I.1 I.2.1 I.2.2.1 I.2.2.2 fun r u=>aHD (f r u)
 change -1048576<=(iD p.Rects).1 at S;change (iD p.Rects).1<=1048576 at O;change -1048576<=(iD p.Rects).2 at L;change (iD p.Rects).2<=1048576 at J;have hb:=bVf (a:=(iD p.Rects).1) (b:=(iD p.Rects).2) S O L J;have eR:p.Rects.map (oR p.Rects)=p.Rects.map (pE (iD p.Rects).1 (iD p.Rects).2):=by
  refine List.map_congr_left fun r u=>?_
  have hp:=aHD (f r u);rcases hb r with e|⟨e1,e2⟩
  ·exact e.symm
  ·unfold oR pE rE;have Z:yT r=false:=by
    unfold yT;rw[bV (show ¬r.X < -4194304 by omega),bV (show ¬4194304<r.X by omega),bV (show ¬r.Y < -4194304 by omega),bV (show ¬4194304<r.Y by omega)];rfl
   rw[Z,dW (n:=0-(iD p.Rects).1) XY XY,dW (n:=0-(iD p.Rects).2) XY XY];rw[bN (show -2147483648<r.X by omega),bN (show r.X<2147483648 by omega),bN (show -2147483648<r.Y by omega),bN (show r.Y<2147483648 by omega)];show aA.mk _ _ _ _=aA.mk _ _ _ _;rw[show r.X+(0-(iD p.Rects).1)=r.X-(iD p.Rects).1 by omega,show r.Y+(0-(iD p.Rects).2)=r.Y-(iD p.Rects).2 by omega]
 rw[eR];exact(bJt _ _ _ _ XU XU (aSR hb _) (aSR hb _)).symm
theorem aIv (nm mt:ByteArray) (g gr w h:Int) (cl us:List aA) (ps:List Pce):mG nm mt g gr w h cl us ps=jK nm mt g gr w h cl us ps:=by
 unfold mG jK;rw[bFq,show aCU=uI from funext bJs]
end
end Go.Proofs.YtjjbojomlfgjlaaGreatDoor
namespace Go.Proofs.YtjjbojomlfgjlaaGreatDoor
open Go.Proofs.Tryz
open Go.Vm Go.RowKit
set_option linter.unusedVariables false
noncomputable section
def bO (u r f:Int):Int×Int×Int×Int×Int×Int:=(u,r,f,0,0,0)
def cK (I G r f u:Int):Int×Int:=cond (G==f) ((aB (r-u),f)) ((r,aB (f-u)))
def aHT (f r u G:Int):(List Opn):=[(Opn.mk ((bO 1 f r).1) ((bO 1 f r).2.1) ((bO 1 f r).2.2.1) ((bO 1 f r).2.2.2.1) ((bO 1 f r).2.2.2.2.1) ((bO 1 f r).2.2.2.2.2)),(Opn.mk ((bO 2 (aB (f+u)) r).1) ((bO 2 (aB (f+u)) r).2.1) ((bO 2 (aB (f+u)) r).2.2.1) ((bO 2 (aB (f+u)) r).2.2.2.1) ((bO 2 (aB (f+u)) r).2.2.2.2.1) ((bO 2 (aB (f+u)) r).2.2.2.2.2)),(Opn.mk ((bO 2 (aB (f+u)) (aB (r+G))).1) ((bO 2 (aB (f+u)) (aB (r+G))).2.1) ((bO 2 (aB (f+u)) (aB (r+G))).2.2.1) ((bO 2 (aB (f+u)) (aB (r+G))).2.2.2.1) ((bO 2 (aB (f+u)) (aB (r+G))).2.2.2.2.1) ((bO 2 (aB (f+u)) (aB (r+G))).2.2.2.2.2)),(Opn.mk ((bO 2 f (aB (r+G))).1) ((bO 2 f (aB (r+G))).2.1) ((bO 2 f (aB (r+G))).2.2.1) ((bO 2 f (aB (r+G))).2.2.2.1) ((bO 2 f (aB (r+G))).2.2.2.2.1) ((bO 2 f (aB (r+G))).2.2.2.2.2)),(Opn.mk ((bO 2 f r).1) ((bO 2 f r).2.1) ((bO 2 f r).2.2.1) ((bO 2 f r).2.2.2.1) ((bO 2 f r).2.2.2.2.1) ((bO 2 f r).2.2.2.2.2))]
def rC (f r u G:Int) (I:Bool):(List Opn)×(List Opn):=cond I (cond ((mi 720 (aB (Int.tdiv (aB ((aB ((aB (u-f))+G))-r)) 2)))==0) (([(Opn.mk ((bO 1 f r).1) ((bO 1 f r).2.1) ((bO 1 f r).2.2.1) ((bO 1 f r).2.2.2.1) ((bO 1 f r).2.2.2.2.1) ((bO 1 f r).2.2.2.2.2)),(Opn.mk ((bO 2 ((cK f r u G (mi 720 (aB (Int.tdiv (aB ((aB ((aB (u-f))+G))-r)) 2)))).1) ((cK f r u G (mi 720 (aB (Int.tdiv (aB ((aB ((aB (u-f))+G))-r)) 2)))).2)).1) ((bO 2 ((cK f r u G (mi 720 (aB (Int.tdiv (aB ((aB ((aB (u-f))+G))-r)) 2)))).1) ((cK f r u G (mi 720 (aB (Int.tdiv (aB ((aB ((aB (u-f))+G))-r)) 2)))).2)).2.1) ((bO 2 ((cK f r u G (mi 720 (aB (Int.tdiv (aB ((aB ((aB (u-f))+G))-r)) 2)))).1) ((cK f r u G (mi 720 (aB (Int.tdiv (aB ((aB ((aB (u-f))+G))-r)) 2)))).2)).2.2.1) ((bO 2 ((cK f r u G (mi 720 (aB (Int.tdiv (aB ((aB ((aB (u-f))+G))-r)) 2)))).1) ((cK f r u G (mi 720 (aB (Int.tdiv (aB ((aB ((aB (u-f))+G))-r)) 2)))).2)).2.2.2.1) ((bO 2 ((cK f r u G (mi 720 (aB (Int.tdiv (aB ((aB ((aB (u-f))+G))-r)) 2)))).1) ((cK f r u G (mi 720 (aB (Int.tdiv (aB ((aB ((aB (u-f))+G))-r)) 2)))).2)).2.2.2.2.1) ((bO 2 ((cK f r u G (mi 720 (aB (Int.tdiv (aB ((aB ((aB (u-f))+G))-r)) 2)))).1) ((cK f r u G (mi 720 (aB (Int.tdiv (aB ((aB ((aB (u-f))+G))-r)) 2)))).2)).2.2.2.2.2))],[])) (([(Opn.mk ((bO 1 f r).1) ((bO 1 f r).2.1) ((bO 1 f r).2.2.1) ((bO 1 f r).2.2.2.1) ((bO 1 f r).2.2.2.2.1) ((bO 1 f r).2.2.2.2.2)),(Opn.mk ((bO 2 ((cK f r u G (mi 720 (aB (Int.tdiv (aB ((aB ((aB (u-f))+G))-r)) 2)))).1) ((cK f r u G (mi 720 (aB (Int.tdiv (aB ((aB ((aB (u-f))+G))-r)) 2)))).2)).1) ((bO 2 ((cK f r u G (mi 720 (aB (Int.tdiv (aB ((aB ((aB (u-f))+G))-r)) 2)))).1) ((cK f r u G (mi 720 (aB (Int.tdiv (aB ((aB ((aB (u-f))+G))-r)) 2)))).2)).2.1) ((bO 2 ((cK f r u G (mi 720 (aB (Int.tdiv (aB ((aB ((aB (u-f))+G))-r)) 2)))).1) ((cK f r u G (mi 720 (aB (Int.tdiv (aB ((aB ((aB (u-f))+G))-r)) 2)))).2)).2.2.1) ((bO 2 ((cK f r u G (mi 720 (aB (Int.tdiv (aB ((aB ((aB (u-f))+G))-r)) 2)))).1) ((cK f r u G (mi 720 (aB (Int.tdiv (aB ((aB ((aB (u-f))+G))-r)) 2)))).2)).2.2.2.1) ((bO 2 ((cK f r u G (mi 720 (aB (Int.tdiv (aB ((aB ((aB (u-f))+G))-r)) 2)))).1) ((cK f r u G (mi 720 (aB (Int.tdiv (aB ((aB ((aB (u-f))+G))-r)) 2)))).2)).2.2.2.2.1) ((bO 2 ((cK f r u G (mi 720 (aB (Int.tdiv (aB ((aB ((aB (u-f))+G))-r)) 2)))).1) ((cK f r u G (mi 720 (aB (Int.tdiv (aB ((aB ((aB (u-f))+G))-r)) 2)))).2)).2.2.2.2.2))],[(Opn.mk ((bO 1 ((cK f r u G (mi 720 (aB (Int.tdiv (aB ((aB ((aB (u-f))+G))-r)) 2)))).1) ((cK f r u G (mi 720 (aB (Int.tdiv (aB ((aB ((aB (u-f))+G))-r)) 2)))).2)).1) ((bO 1 ((cK f r u G (mi 720 (aB (Int.tdiv (aB ((aB ((aB (u-f))+G))-r)) 2)))).1) ((cK f r u G (mi 720 (aB (Int.tdiv (aB ((aB ((aB (u-f))+G))-r)) 2)))).2)).2.1) ((bO 1 ((cK f r u G (mi 720 (aB (Int.tdiv (aB ((aB ((aB (u-f))+G))-r)) 2)))).1) ((cK f r u G (mi 720 (aB (Int.tdiv (aB ((aB ((aB (u-f))+G))-r)) 2)))).2)).2.2.1) ((bO 1 ((cK f r u G (mi 720 (aB (Int.tdiv (aB ((aB ((aB (u-f))+G))-r)) 2)))).1) ((cK f r u G (mi 720 (aB (Int.tdiv (aB ((aB ((aB (u-f))+G))-r)) 2)))).2)).2.2.2.1) ((bO 1 ((cK f r u G (mi 720 (aB (Int.tdiv (aB ((aB ((aB (u-f))+G))-r)) 2)))).1) ((cK f r u G (mi 720 (aB (Int.tdiv (aB ((aB ((aB (u-f))+G))-r)) 2)))).2)).2.2.2.2.1) ((bO 1 ((cK f r u G (mi 720 (aB (Int.tdiv (aB ((aB ((aB (u-f))+G))-r)) 2)))).1) ((cK f r u G (mi 720 (aB (Int.tdiv (aB ((aB ((aB (u-f))+G))-r)) 2)))).2)).2.2.2.2.2)),(Opn.mk ((bO 4 u G).1) ((bO 4 u G).2.1) ((bO 4 u G).2.2.1) ((bO 4 u G).2.2.2.1) ((bO 4 u G).2.2.2.2.1) ((bO 4 u G).2.2.2.2.2))]))) (([(Opn.mk ((bO 1 f r).1) ((bO 1 f r).2.1) ((bO 1 f r).2.2.1) ((bO 1 f r).2.2.2.1) ((bO 1 f r).2.2.2.2.1) ((bO 1 f r).2.2.2.2.2)),(Opn.mk ((bO 2 ((cK f r u G 0).1) ((cK f r u G 0).2)).1) ((bO 2 ((cK f r u G 0).1) ((cK f r u G 0).2)).2.1) ((bO 2 ((cK f r u G 0).1) ((cK f r u G 0).2)).2.2.1) ((bO 2 ((cK f r u G 0).1) ((cK f r u G 0).2)).2.2.2.1) ((bO 2 ((cK f r u G 0).1) ((cK f r u G 0).2)).2.2.2.2.1) ((bO 2 ((cK f r u G 0).1) ((cK f r u G 0).2)).2.2.2.2.2))],[]))
def aBv (L J I G f r u:Int):Bool:=((f==u)||(r==u))
def aMG (I J G u r f:Int):Int:=ma (ma (ma (ma 0 (aB (G-I))) (aB (I-r))) (aB (u-J))) (aB (J-f))
def gV (I J u G r f:Int):Int×Int×Int×Int×Int×Int:=cond ((decide (r<0))||((decide (0<=f))&&(decide (f<r)))) ((I,J,u,G,f,r)) ((I,J,u,G,r,f))
def nU (f:Value):Prop:=(dP f)
def lR (f:Value):Int:=cond (iV f) (aD3 f) ((-1))
def vF:Nat->Nat->Nat->Canon UU:=fun o b r=>cond (Nat.beq b 0) ⟨[1,2,6,12,13,14],[],[],[],[]⟩ (cond (Nat.beq b 2) ⟨[1,2,6,7,12,13,14,20,21,22],[],[],[],[]⟩ (⟨[],[],[],[],[]⟩))
def aZ3 (y0 Z:ByteArray) (V S O L:Int) (J I:List aA) (f:List Pce) (G u:Int) (Q:Value->Prop) (r:Int->Int->List Pce->Int->Int->Prop):Prop:=r G u f (f.length:Int) 0
def aZ2 (L:Int->Int->List Pce->Int->Int->Prop) (I:Int->Int->List Pce->Int->Int->Prop) (O:Int->Int->Value->List Pce->Int->Int->Prop) (t1 G:Int) (r:List Pce) (u f:Int) (J:Int->Int->Int->List Pce->Int->Int->List aA->Int->Int->Prop):Prop:=cond (decide (f<u)) ((let e0:=(r.getD f.toNat default);((0<=f/\f<r.length)/\J t1 G f r u f e0.Rects (e0.Rects.length:Int) 0))) (I t1 G r u f)
def aOz (Q:Value->Prop) (t1 G:Int) (u:List Pce) (r f:Int):Prop:=Q (.iface 215 (.agg #[]))
def aOy (Q:Value->Prop) (t1 I:Int) (f:Value) (G:List Pce) (u r:Int):Prop:=Q f
def aZ1 (S:Int->Int->Int->List Pce->Int->Int->List aA->Int->Int->Prop) (Z:Int->Int->Value->Int->List Pce->Int->Int->List aA->Int->Int->Prop) (V:Int->Int->Int->List Pce->Int->Int->List aA->Int->Int->Prop) (t1 L O:Int) (J:List Pce) (I G:Int) (r:List aA) (u f:Int):Prop:=cond (decide (f<u)) ((let e0:=(r.getD f.toNat default);((0<=f/\f<r.length)/\cond ((((decide (e0.X<=t1))&&(decide (t1<(aB (e0.X+e0.W)))))&&(decide (e0.Y<=L)))&&(decide (L<(aB (e0.Y+e0.H))))) (Z t1 L (.iface 219 (.int .i64 O)) O J I G r u f) (S t1 L O J I G r u (aB (f+1)))))) (V t1 L O J I G r u f)
def bPu (V:Int->Int->List Pce->Int->Int->Prop) (Z:Int->Int->List Pce->Int->Int->Prop) (G:Int->Int->Value->List Pce->Int->Int->Prop) (t1 J:Int) (I:Value) (t7:Int) (u:List Pce) (r f:Int) (S:List aA) (O L:Int):Prop:=G t1 J I u r f
def bPt (G:Int->Int->List Pce->Int->Int->Prop) (V:Int->Int->List Pce->Int->Int->Prop) (S:Int->Int->Value->List Pce->Int->Int->Prop) (t1 I Z:Int) (u:List Pce) (r f:Int) (O:List aA) (L J:Int):Prop:=G t1 I u r (aB (f+1))
def aG5 (F:Nat) (O:Int->Int->Value->Int->List Pce->Int->Int->List aA->Int->Int->Prop) (L:Int->Int->Int->List Pce->Int->Int->List aA->Int->Int->Prop):Nat->Int->Int->Int->List Pce->Int->Int->List aA->Int->Int->Prop
 |0,_,_,_,_,_,_,_,_,_=>False
 |n+1,Z,V,S,J,I,G,u,r,f=>aZ1 (aG5 F O L n) O L Z V S J I G u r f
def aNV (F:Nat) (S:Int->Int->List Pce->Int->Int->Prop) (Z:Int->Int->List Pce->Int->Int->Prop) (V:Int->Int->Value->List Pce->Int->Int->Prop) (t1 O L:Int) (J:List Pce) (I G:Int) (u:List aA) (r f:Int):Prop:=aG5 F (fun t1 O t6 L J I G u r f=>bPu S Z V t1 O t6 L J I G u r f) (fun t1 O L J I G u r f=>bPt S Z V t1 O L J I G u r f) F t1 O L J I G u r f
def zZ (F:Nat) (r:Int->Int->List Pce->Int->Int->Prop) (f:Int->Int->Value->List Pce->Int->Int->Prop):Nat->Int->Int->List Pce->Int->Int->Prop
 |0,_,_,_,_,_=>False
 |n+1,L,J,I,G,u=>aZ2 (zZ F r f n) r f L J I G u (aNV F (zZ F r f n) r f)
def aIS (F:Nat) (Q:Value->Prop) (t1 G:Int) (u:List Pce) (r f:Int):Prop:=zZ F (fun t1 G u r f=>aOz Q t1 G u r f) (fun t1 G I u r f=>aOy Q t1 G I u r f) F t1 G u r f
def aQU (F:Nat) (S O:ByteArray) (L J I G:Int) (u r:List aA) (f:List Pce) (Z V:Int) (Q:Value->Prop):Prop:=aZ3 S O L J I G u r f Z V Q (aIS F Q)
theorem bBQ (len:Nat) (bad:Nat->Bool) (X:Nat->Prop) (Y:Prop) (W:Nat->Int->Prop) (I:∀n (i:Nat),i<len->(bad i=true->X i)->(bad i=false->W n ((i+1:Nat):Int))->W (n+1) i)
  (hy:∀n,Y->W (n+1) len) (n:Nat) (V:len<n) (L:∀i,i<len->bad i=true->(∀j,j<i->bad j=false)->X i) (J:(∀j,j<len->bad j=false)->Y):W n 0:=by
 have r:∀(n i:Nat),i<=len->len<n+i->(∀j,j<i->bad j=false)->W n i:=by
  intro n
  induction n with
  |zero=>intro i S O;omega
  |succ n G=>
   intro i S O hb
   by_cases h:i<len
   ·refine I n i h (fun q=>L i h q hb) (fun q=>G (i+1) XY XY fun j u=>?_);rcases Nat.lt_or_ge j i with f|f
    ·exact hb j f
    ·obtain rfl:j=i:=XY;exact q
   ·obtain rfl:i=len:=XY;exact hy n (J hb)
 exact r n 0 (Nat.zero_le _) XY fun j u=>absurd u (XZ _)
theorem qV {α σ:Type} [Inhabited α] (l:List α) (f:σ->α->σ) (I:Nat->σ->Prop) (Q:σ->Prop) (W:Nat->Int->σ->Prop) (L:∀i s,i<l.length->I i s->I (i+1) (f s (l.getD i default)))
  (G:∀n (i:Nat) s,i<l.length->I i s->W n ((i+1:Nat):Int) (f s (l.getD i default))->W (n+1) i s) (J:∀n s,I l.length s->Q s->W (n+1) l.length s):
  ∀(n i:Nat) (s:σ),i<=l.length->l.length<n+i->I i s->Q ((l.drop i).foldl f s)->W n i s:=by
 intro n
 induction n with
 |zero=>intro i s S O;omega
 |succ n u=>
  intro i s S O hi r
  by_cases h:i<l.length
  ·rw[mX l i h,QI] at r;exact G n i s h hi (u (i+1) _ XY XY (L i s h hi) r)
  ·obtain rfl:i=l.length:=XY;rw[KX] at r;exact J n s hi r
def onR (x y:Int) (r:aA):Bool:=(((decide (r.X<=x))&&(decide (x<(aB (r.X+r.W)))))&&(decide (r.Y<=y)))&&(decide (y<(aB (r.Y+r.H))))
def qO (x y:Int):List Pce->Nat->Int
 |[],_=> -1
 |p::r,i=>cond (p.Rects.any (onR x y)) i (qO x y r (i+1))
def lab (ps:List Pce) (x y:Int):Int:=qO x y ps 0
theorem bOR (x y:Int):∀(ps:List Pce) (k i:Nat),i<ps.length->(ps.getD i default).Rects.any (onR x y)=true->(∀j,j<i->(ps.getD j default).Rects.any (onR x y)=false)->qO x y ps k=((k+i:Nat):Int):=by
 intro ps
 induction ps with
 |nil=>intro k i h;exact absurd h (XZ _)
 |cons p r G=>
  intro k i hi hb u;unfold qO;cases i with
  |zero=>
   have f:p.Rects.any (onR x y)=true:=hb;rw[f];rfl
  |succ i=>
   have I:p.Rects.any (onR x y)=false:=u 0 XY;rw[I,QJ,G (k+1) i (by simpa using hi) hb (fun j J=>u (j+1) XY)];congr 1;omega
theorem aWH (x y:Int):∀(ps:List Pce) (k:Nat),(∀j,j<ps.length->(ps.getD j default).Rects.any (onR x y)=false)->qO x y ps k= -1:=by
 intro ps
 induction ps with
 |nil=>intro k _;rfl
 |cons p r u=>
  intro k f;unfold qO;have I:p.Rects.any (onR x y)=false:=f 0 XU;rw[I,QJ];exact u (k+1) fun j G=>f (j+1) (by simpa using G)
theorem bOQ (x y:Int):∀(ps:List Pce) (k:Nat), -1<=qO x y ps k:=by
 intro ps
 induction ps with
 |nil=>intro k;exact Int.le_refl _
 |cons p r f=>
  intro k;unfold qO;cases p.Rects.any (onR x y) with
  |true=>rw[QX];omega
  |false=>exact f _
theorem yM (ps:List Pce) (x y:Int): -1<=lab ps x y:=bOQ x y ps 0
def thV (n:Int):Value:=cond (decide (n<0)) (.iface 215 (.agg #[])) (.iface 219 (.int .i64 n))
theorem bFK {n:Int} (h:n<0):thV n=.iface 215 (.agg #[]):=by unfold thV;rw[KS h];rfl
theorem bFL (n:Nat):thV (n:Int)=.iface 219 (.int .i64 n):=by unfold thV;rw[KG XY];rfl
def sQ (S O:ByteArray) (L J I G:Int) (u r:List aA) (f:List Pce) (Z V:Int):Prop:=f.length<=2000000/\∀p∈f,p.Rects.length<=2000000
def rA (Z V:ByteArray) (S O L J:Int) (I G:List aA) (f:List Pce) (u r:Int):Value:=thV (lab f u r)
theorem bKw (y0 y1:ByteArray) (y2 y3 y4 y5:Int) (Z V:List aA) (f:List Pce) (J I:Int) (h:sQ y0 y1 y2 y3 y4 y5 Z V f J I):∃F,∀Q:Value->Prop,Q (rA y0 y1 y2 y3 y4 y5 Z V f J I)->aQU F y0 y1 y2 y3 y4 y5 Z V f J I Q:=by
 obtain⟨h1,h2⟩:=h;refine⟨2000000+1,fun Q S=>?_⟩;unfold rA lab at S;show aIS (2000000+1) Q J I f (f.length:Int) 0;unfold aIS;refine bBQ f.length (fun i=>(f.getD i default).Rects.any (onR J I)) (fun i=>Q (.iface 219 (.int .i64 i))) (Q (.iface 215 (.agg #[]))) (fun n i=>zZ (2000000+1) (fun O L G u r=>aOz Q O L G u r) (fun O L t6 G u r=>aOy Q O L t6 G u r) n J I f (f.length:Int) i)
  (fun n i hi hx hw=>?_) (fun n hy=>?_) (2000000+1) XY (fun i hi hb hn=>?_) (fun hn=>?_)
 ·show cond (decide ((i:Int)<(f.length:Int))) _ _;rw[bN XY,QX];refine⟨⟨XY,XY⟩,?_⟩;rw[QV];generalize hp:f.getD i default=p at hx hw;have hpl:p.Rects.length<=2000000:=h2 p (by rw[<- hp];exact fJ hi);unfold aNV;refine kP p.Rects.length (fun k=>onR J I (p.Rects.getD k default)) (Q (.iface 219 (.int .i64 i))) (zZ (2000000+1) (fun O L G u r=>aOz Q O L G u r) (fun O L t6 G u r=>aOy Q O L t6 G u r) n J I f (f.length:Int) ((i+1:Nat):Int)) (fun m k=>aG5 (2000000+1) _ _ m J I i f (f.length:Int) i p.Rects (p.Rects.length:Int) k)
   (fun m k hk hx' hw'=>?_) (fun m hy'=>?_) (2000000+1) XY (fun q=>hx (by rw[<- aL9];exact q)) (fun q=>hw (by rw[<- aL9];exact q))
  ·show cond (decide ((k:Int)<(p.Rects.length:Int))) _ _;rw[bN XY,QX];refine⟨⟨XY,XY⟩,?_⟩;rw[QV,cO hk XY];show cond (onR J I (p.Rects.getD k default)) _ _;cases hb:onR J I (p.Rects.getD k default) with
   |true=>exact hx' hb
   |false=>exact hw' hb
  ·show cond (decide ((p.Rects.length:Int)<(p.Rects.length:Int))) _ _;rw[bV XY,QJ];show zZ _ _ _ _ _ _ _ _ (aB ((i:Int)+1));rw[cO hi XY];exact hy'
 ·show cond (decide ((f.length:Int)<(f.length:Int))) _ _;rw[bV XY,QJ];exact hy
 ·rw[bOR J I f 0 i hi hb hn,bFL,JW] at S;exact S
 ·rw[aWH J I f 0 hn,bFK XY] at S;exact S
def aHu (r:Int) (V S:ByteArray) (O L J I:Int) (G u:List aA) (ps:List Pce) (f:Int):Prop:=(sQ V S O L J I G u ps r f)/\(sQ V S O L J I G u ps r (aB (f-1)))
def xX (r:Int) (V S:ByteArray) (O L J I:Int) (G u:List aA) (ps:List Pce) (f:Int):Value×Value:=((rA V S O L J I G u ps r f),(rA V S O L J I G u ps r (aB (f-1))))
def aBu (u r f:Int):Int×Int×Int×Int:=(u,f,r,f)
def aHt (r:Int) (V S:ByteArray) (O L J I:Int) (G u:List aA) (ps:List Pce) (f:Int):Prop:=(sQ V S O L J I G u ps f r)/\(sQ V S O L J I G u ps (aB (f-1)) r)
def xW (r:Int) (V S:ByteArray) (O L J I:Int) (G u:List aA) (ps:List Pce) (f:Int):Value×Value:=((rA V S O L J I G u ps f r),(rA V S O L J I G u ps (aB (f-1)) r))
def aBt (u r f:Int):Int×Int×Int×Int:=(f,u,f,r)
def aB4:Nat->Nat->Nat->Canon UU:=fun o b r=>cond (Nat.beq b 0) ⟨[0,1,2,7,8,9,10,19,20,21],[],[(.tmp 7,77,.edge)],[],[]⟩ (⟨[],[],[],[],[]⟩)
def bBB (l:zzI) (Z V:ByteArray) (S O L J:Int) (I G:List aA) (ps:List Pce) (r f:Int) (Q:List Edg->Prop) (u:zzI->ByteArray->ByteArray->Int->Int->Int->Int->List aA->List aA->List Pce->Int->Int->Int->Value->Value->zzI->Int->Int->List Edg->Prop):Prop:=u l Z V S O L J I G ps r f 0 (.iface 215 (.agg #[])) (.iface 215 (.agg #[])) l (l.length:Int) 0 ([])
def bBA (J:zzI->ByteArray->ByteArray->Int->Int->Int->Int->List aA->List aA->List Pce->Int->Int->Int->Value->Value->zzI->Int->Int->List Edg->Prop) (x0:zzI->ByteArray->ByteArray->Int->Int->Int->Int->List aA->List aA->List Pce->Int->Int->Int->Value->Value->zzI->Int->Int->List Edg->Prop) (t0:zzI) (cJ cI:ByteArray) (cH cG V Z:Int) (eG eF:List aA) (eE:List Pce) (eD eC t8:Int) (r f:Value) (G:zzI) (I u:Int) (dZ:List Edg):Prop:=cond (decide (u<I)) ((let e0:=(G.getD u.toNat default);((0<=u/\u<G.length)/\cond (decide ((aB (u+1))<(t0.length:Int))) ((let S:=(xX e0 cJ cI cH cG V Z eG eF eE eD);((aHu e0 cJ cI cH cG V Z eG eF eE eD)/\(((dP S.1/\dP r)/\((fS S.1 r)=true->dP S.2/\dP f))/\cond ((fS S.1 r)&&(fS S.2 f)) (J t0 cJ cI cH cG V Z eG eF eE eD eC t8 r f G I (aB (u+1)) dZ) ((((dP r/\dP f)/\((!(fS r f))=true->((dP r/\ "sheetmetal/cut.solid"= "sheetmetal/cut.solid")/\((iV r)=false->dP f/\ "sheetmetal/cut.solid"= "sheetmetal/cut.solid"))))/\cond ((!(fS r f))&&((iV r)||(iV f))) ((let r2:=(aBu t8 e0 eC);(let O:=(gV r2.1 r2.2.1 r2.2.2.1 r2.2.2.2 (lR r) (lR f));(((nU r)/\((nU f)/\((dZ.length+([(Edg.mk O.1 O.2.1 O.2.2.1 O.2.2.2.1 O.2.2.2.2.1 O.2.2.2.2.2)]).length)*48<=140737488355328)))/\J t0 cJ cI cH cG V Z eG eF eE eD eC e0 S.1 S.2 G I (aB (u+1)) (dZ++([(Edg.mk O.1 O.2.1 O.2.2.1 O.2.2.2.1 O.2.2.2.2.1 O.2.2.2.2.2)])))))) (J t0 cJ cI cH cG V Z eG eF eE eD eC e0 S.1 S.2 G I (aB (u+1)) dZ))))))) ((((dP (.iface 215 (.agg #[]))/\dP r)/\((fS (.iface 215 (.agg #[])) r)=true->dP (.iface 215 (.agg #[]))/\dP f))/\cond ((fS (.iface 215 (.agg #[])) r)&&(fS (.iface 215 (.agg #[])) f)) (J t0 cJ cI cH cG V Z eG eF eE eD eC t8 r f G I (aB (u+1)) dZ) ((((dP r/\dP f)/\((!(fS r f))=true->((dP r/\ "sheetmetal/cut.solid"= "sheetmetal/cut.solid")/\((iV r)=false->dP f/\ "sheetmetal/cut.solid"= "sheetmetal/cut.solid"))))/\cond ((!(fS r f))&&((iV r)||(iV f))) ((let r4:=(aBu t8 e0 eC);(let L:=(gV r4.1 r4.2.1 r4.2.2.1 r4.2.2.2 (lR r) (lR f));(((nU r)/\((nU f)/\((dZ.length+([(Edg.mk L.1 L.2.1 L.2.2.1 L.2.2.2.1 L.2.2.2.2.1 L.2.2.2.2.2)]).length)*48<=140737488355328)))/\J t0 cJ cI cH cG V Z eG eF eE eD eC e0 (.iface 215 (.agg #[])) (.iface 215 (.agg #[])) G I (aB (u+1)) (dZ++([(Edg.mk L.1 L.2.1 L.2.2.1 L.2.2.2.1 L.2.2.2.2.1 L.2.2.2.2.2)])))))) (J t0 cJ cI cH cG V Z eG eF eE eD eC e0 (.iface 215 (.agg #[])) (.iface 215 (.agg #[])) G I (aB (u+1)) dZ)))))))) (x0 t0 cJ cI cH cG V Z eG eF eE eD eC t8 r f G I u dZ)
def aJ2 (Q:List Edg->Prop) (O:zzI) (cJ cI:ByteArray) (cH cG S V:Int) (Z eF:List aA) (eE:List Pce) (eD eC L:Int) (J I:Value) (G:zzI) (u r:Int) (f:List Edg):Prop:=Q f
def j4 (F:Nat) (I:zzI->ByteArray->ByteArray->Int->Int->Int->Int->List aA->List aA->List Pce->Int->Int->Int->Value->Value->zzI->Int->Int->List Edg->Prop):Nat->zzI->ByteArray->ByteArray->Int->Int->Int->Int->List aA->List aA->List Pce->Int->Int->Int->Value->Value->zzI->Int->Int->List Edg->Prop
 |0,_,_,_,_,_,_,_,_,_,_,_,_,_,_,_,_,_,_,_=>False
 |n+1,O,cJ,cI,cH,cG,S,V,Z,eF,eE,eD,eC,L,J,G,u,r,f,dZ=>bBA (j4 F I n) I O cJ cI cH cG S V Z eF eE eD eC L J G u r f dZ
def aIk (F:Nat) (Q:List Edg->Prop) (L:zzI) (cJ cI:ByteArray) (cH cG O S:Int) (V Z:List aA) (eE:List Pce) (eD eC J:Int) (I G:Value) (u:zzI) (r f:Int) (dZ:List Edg):Prop:=j4 F (fun L cJ cI cH cG O S V Z eE eD eC J I G u r f dZ=>aJ2 Q L cJ cI cH cG O S V Z eE eD eC J I G u r f dZ) F L cJ cI cH cG O S V Z eE eD eC J I G u r f dZ
def aQq (F:Nat) (l:zzI) (V S:ByteArray) (O L J I:Int) (G u:List aA) (ps:List Pce) (r f:Int) (Q:List Edg->Prop):Prop:=bBB l V S O L J I G u ps r f Q (aIk F Q)
def aB3:Nat->Nat->Nat->Canon UU:=fun o b r=>cond (Nat.beq b 0) ⟨[0,1,2,7,8,9,10,19,20,21],[],[(.tmp 7,77,.edge)],[],[]⟩ (⟨[],[],[],[],[]⟩)
def bAz (l:zzI) (Z V:ByteArray) (S O L J:Int) (I G:List aA) (ps:List Pce) (r f:Int) (Q:List Edg->Prop) (u:zzI->ByteArray->ByteArray->Int->Int->Int->Int->List aA->List aA->List Pce->Int->Int->Int->Value->Value->zzI->Int->Int->List Edg->Prop):Prop:=u l Z V S O L J I G ps r f 0 (.iface 215 (.agg #[])) (.iface 215 (.agg #[])) l (l.length:Int) 0 ([])
def bAy (J:zzI->ByteArray->ByteArray->Int->Int->Int->Int->List aA->List aA->List Pce->Int->Int->Int->Value->Value->zzI->Int->Int->List Edg->Prop) (x0:zzI->ByteArray->ByteArray->Int->Int->Int->Int->List aA->List aA->List Pce->Int->Int->Int->Value->Value->zzI->Int->Int->List Edg->Prop) (t0:zzI) (cJ cI:ByteArray) (cH cG V Z:Int) (eG eF:List aA) (eE:List Pce) (eD eC t8:Int) (r f:Value) (G:zzI) (I u:Int) (dZ:List Edg):Prop:=cond (decide (u<I)) ((let e0:=(G.getD u.toNat default);((0<=u/\u<G.length)/\cond (decide ((aB (u+1))<(t0.length:Int))) ((let S:=(xW e0 cJ cI cH cG V Z eG eF eE eD);((aHt e0 cJ cI cH cG V Z eG eF eE eD)/\(((dP S.1/\dP r)/\((fS S.1 r)=true->dP S.2/\dP f))/\cond ((fS S.1 r)&&(fS S.2 f)) (J t0 cJ cI cH cG V Z eG eF eE eD eC t8 r f G I (aB (u+1)) dZ) ((((dP r/\dP f)/\((!(fS r f))=true->((dP r/\ "sheetmetal/cut.solid"= "sheetmetal/cut.solid")/\((iV r)=false->dP f/\ "sheetmetal/cut.solid"= "sheetmetal/cut.solid"))))/\cond ((!(fS r f))&&((iV r)||(iV f))) ((let r2:=(aBt t8 e0 eC);(let O:=(gV r2.1 r2.2.1 r2.2.2.1 r2.2.2.2 (lR r) (lR f));(((nU r)/\((nU f)/\((dZ.length+([(Edg.mk O.1 O.2.1 O.2.2.1 O.2.2.2.1 O.2.2.2.2.1 O.2.2.2.2.2)]).length)*48<=140737488355328)))/\J t0 cJ cI cH cG V Z eG eF eE eD eC e0 S.1 S.2 G I (aB (u+1)) (dZ++([(Edg.mk O.1 O.2.1 O.2.2.1 O.2.2.2.1 O.2.2.2.2.1 O.2.2.2.2.2)])))))) (J t0 cJ cI cH cG V Z eG eF eE eD eC e0 S.1 S.2 G I (aB (u+1)) dZ))))))) ((((dP (.iface 215 (.agg #[]))/\dP r)/\((fS (.iface 215 (.agg #[])) r)=true->dP (.iface 215 (.agg #[]))/\dP f))/\cond ((fS (.iface 215 (.agg #[])) r)&&(fS (.iface 215 (.agg #[])) f)) (J t0 cJ cI cH cG V Z eG eF eE eD eC t8 r f G I (aB (u+1)) dZ) ((((dP r/\dP f)/\((!(fS r f))=true->((dP r/\ "sheetmetal/cut.solid"= "sheetmetal/cut.solid")/\((iV r)=false->dP f/\ "sheetmetal/cut.solid"= "sheetmetal/cut.solid"))))/\cond ((!(fS r f))&&((iV r)||(iV f))) ((let r4:=(aBt t8 e0 eC);(let L:=(gV r4.1 r4.2.1 r4.2.2.1 r4.2.2.2 (lR r) (lR f));(((nU r)/\((nU f)/\((dZ.length+([(Edg.mk L.1 L.2.1 L.2.2.1 L.2.2.2.1 L.2.2.2.2.1 L.2.2.2.2.2)]).length)*48<=140737488355328)))/\J t0 cJ cI cH cG V Z eG eF eE eD eC e0 (.iface 215 (.agg #[])) (.iface 215 (.agg #[])) G I (aB (u+1)) (dZ++([(Edg.mk L.1 L.2.1 L.2.2.1 L.2.2.2.1 L.2.2.2.2.1 L.2.2.2.2.2)])))))) (J t0 cJ cI cH cG V Z eG eF eE eD eC e0 (.iface 215 (.agg #[])) (.iface 215 (.agg #[])) G I (aB (u+1)) dZ)))))))) (x0 t0 cJ cI cH cG V Z eG eF eE eD eC t8 r f G I u dZ)
def aJ1 (Q:List Edg->Prop) (O:zzI) (cJ cI:ByteArray) (cH cG S V:Int) (Z eF:List aA) (eE:List Pce) (eD eC L:Int) (J I:Value) (G:zzI) (u r:Int) (f:List Edg):Prop:=Q f
def j3 (F:Nat) (I:zzI->ByteArray->ByteArray->Int->Int->Int->Int->List aA->List aA->List Pce->Int->Int->Int->Value->Value->zzI->Int->Int->List Edg->Prop):Nat->zzI->ByteArray->ByteArray->Int->Int->Int->Int->List aA->List aA->List Pce->Int->Int->Int->Value->Value->zzI->Int->Int->List Edg->Prop
 |0,_,_,_,_,_,_,_,_,_,_,_,_,_,_,_,_,_,_,_=>False
 |n+1,O,cJ,cI,cH,cG,S,V,Z,eF,eE,eD,eC,L,J,G,u,r,f,dZ=>bAy (j3 F I n) I O cJ cI cH cG S V Z eF eE eD eC L J G u r f dZ
def aIj (F:Nat) (Q:List Edg->Prop) (L:zzI) (cJ cI:ByteArray) (cH cG O S:Int) (V Z:List aA) (eE:List Pce) (eD eC J:Int) (I G:Value) (u:zzI) (r f:Int) (dZ:List Edg):Prop:=j3 F (fun L cJ cI cH cG O S V Z eE eD eC J I G u r f dZ=>aJ1 Q L cJ cI cH cG O S V Z eE eD eC J I G u r f dZ) F L cJ cI cH cG O S V Z eE eD eC J I G u r f dZ
def aQp (F:Nat) (l:zzI) (V S:ByteArray) (O L J I:Int) (G u:List aA) (ps:List Pce) (r f:Int) (Q:List Edg->Prop):Prop:=bAz l V S O L J I G u ps r f Q (aIj F Q)
theorem lC (n:Int):dP (thV n):=by
 unfold thV;cases decide (n<0) with
 |true=>exact .inr rfl
 |false=>exact .inl ⟨n,rfl⟩
theorem aBc {a b:Int} (u: -1<=a) (hb: -1<=b):fS (thV a) (thV b)=(a==b):=by
 unfold thV
 by_cases r:a<0
 ·obtain rfl:a= -1:=XY
  by_cases f:b<0
  ·obtain rfl:b= -1:=XY;rfl
  ·rw[KG f,KS r];have:((-1:Int)==b)=false:=by simp;omega
   rw[this];rfl
 ·by_cases f:b<0
  ·rw[KG r,KS f];have:(a==b)=false:=by simp;omega
   rw[this];rfl
  ·rw[KG r,KG f];rfl
theorem aD2 (a:Int):iV (thV a)=decide (0<=a):=by
 unfold thV
 by_cases f:a<0
 ·rw[KS f,KG XY];rfl
 ·rw[KG f,KS XY];rfl
theorem aHz {a:Int} (r: -1<=a):lR (thV a)=a:=by
 unfold lR;rw[aD2]
 by_cases f:a<0
 ·rw[KG XY,QJ];omega
 ·rw[KS XY,QX];unfold thV;rw[KG f];rfl
def alF (mk:Int->Int->Int->Int->Edg):Int->Int->Int->List (Int×Int×Int)->List Edg
 |_,_,_,[]=>[]
 |b,one,f,(n,a,c)::r=>cond ((a==one)&&(c==f)) (alF mk b one f r) ((cond (one==f) [] [mk b n one f])++alF mk n a c r)
def kK (f:Int->Int×Int) (l:zzI):List (Int×Int×Int):=(List.range l.length).map fun i=>(l.getD i default,cond (decide (i+1<l.length)) (f (l.getD i default)) (-1, -1))
theorem bFI (f:Int->Int×Int) (l:zzI) (i:Nat) (h:i<l.length):(kK f l).drop i=(l.getD i default,cond (decide (i+1<l.length)) (f (l.getD i default)) (-1, -1))::(kK f l).drop (i+1):=by
 unfold kK;rw[List.drop_eq_getElem_cons (by simpa using h)];simp
theorem bC1 (mk:Int->Int->Int->Int->Edg):∀(r:List (Int×Int×Int)) (b one f:Int),(alF mk b one f r).length<=r.length:=by
 intro r
 induction r with
 |nil=>intros;exact JX _
 |cons x r u=>
  intro b one f;obtain⟨n,a,c⟩:=x;unfold alF;cases (a==one)&&(c==f) with
  |true=>
   have:=u b one f;rw[QX,QT];omega
  |false=>
   have:=u n a c;rw[QJ,QH,QT];cases one==f with
   |true=>rw[QX,JZ];omega
   |false=>rw[QJ,QD];omega
theorem bC0 (l:zzI) (f:Int->Int×Int) (hf:∀n, -1<=(f n).1/\ -1<=(f n).2) (mk:Int->Int->Int->Int->Edg) (Q:List Edg->Prop) (W:Nat->Int->Int->Int->Int->List Edg->Prop)
  (V:∀n (i:Nat) b one r m a c,i<l.length-> -1<=one-> -1<=r-> -1<=a-> -1<=c->m.length<=i->(a,c)=cond (decide (i+1<l.length)) (f (l.getD i default)) (-1, -1)->
   cond ((a==one)&&(c==r)) (W n ((i+1:Nat):Int) b one r m) (cond (one==r) (W n ((i+1:Nat):Int) (l.getD i default) a c m) (W n ((i+1:Nat):Int) (l.getD i default) a c (m++[mk b (l.getD i default) one r])))->W (n+1) i b one r m)
  (Z:∀n b one r m,Q m->W (n+1) l.length b one r m):
  ∀(n i:Nat) (b one r:Int) (m:List Edg),i<=l.length->l.length<n+i-> -1<=one-> -1<=r->m.length<=i->Q (m++alF mk b one r ((kK f l).drop i))->W n i b one r m:=by
 intro n
 induction n with
 |zero=>intros;omega
 |succ n J=>
  intro i b one r m hi hn S O hm u
  by_cases h:i<l.length
  ·rw[bFI f l i h] at u;obtain⟨a,c,I⟩:∃a c,(a,c)=cond (decide (i+1<l.length)) (f (l.getD i default)) (-1, -1):=⟨_,_,rfl⟩;have G: -1<=a/\ -1<=c:=by
    cases L:decide (i+1<l.length) with
    |true=>
     rw[L,QX] at I;have:=hf (l.getD i default);rw[<- I] at this;exact this
    |false=>
     rw[L,QJ] at I;cases I;exact⟨Int.le_refl _,Int.le_refl _⟩
   rw[<- I] at u;refine V n i b one r m a c h S O G.1 G.2 hm I ?_;unfold alF at u;cases hb:(a==one)&&(c==r) with
   |true=>
    rw[hb,QX] at u;exact J (i+1) b one r m XY XY S O XY u
   |false=>
    rw[hb,QJ] at u;cases ho:one==r with
    |true=>
     rw[ho,QX,List.nil_append] at u;exact J (i+1) _ a c m XY XY G.1 G.2 XY u
    |false=>
     rw[ho,QJ,<- KP] at u;exact J (i+1) _ a c _ XY XY G.1 G.2 (by rw[QH,QD];omega) u
  ·obtain rfl:i=l.length:=XY;refine Z n b one r m ?_;have e:(kK f l).drop l.length=[]:=by unfold kK;simp
   rw[e] at u;unfold alF at u;rw[KJ] at u;exact u
def pW (z b n one f:Int):Edg:=Edg.mk (gV b z n z one f).1 (gV b z n z one f).2.1 (gV b z n z one f).2.2.1 (gV b z n z one f).2.2.2.1 (gV b z n z one f).2.2.2.2.1 (gV b z n z one f).2.2.2.2.2
def sd1 (ps:List Pce) (y n:Int):Int×Int:=(lab ps n y,lab ps n (aB (y-1)))
def aMv (l:zzI) (V S:ByteArray) (O L J I:Int) (G u:List aA) (ps:List Pce) (r f:Int):Prop:=l.length<=2000000/\ps.length<=2000000/\∀p∈ps,p.Rects.length<=2000000
def aMI (l:zzI) (V S:ByteArray) (O L J I:Int) (G u:List aA) (ps:List Pce) (r f:Int):List Edg:=alF (pW f) 0 (-1) (-1) (kK (sd1 ps r) l)
theorem bL8 (l:zzI) (c0 c1:ByteArray) (c2 c3 c4 Z:Int) (V S:List aA) (ps:List Pce) (L J:Int) (h:aMv l c0 c1 c2 c3 c4 Z V S ps L J):∃F,∀Q:List Edg->Prop,Q (aMI l c0 c1 c2 c3 c4 Z V S ps L J)->aQq F l c0 c1 c2 c3 c4 Z V S ps L J Q:=by
 obtain⟨h1,h2⟩:=h;refine⟨l.length+1,fun Q hQ=>?_⟩;show aIk (l.length+1) Q l c0 c1 c2 c3 c4 Z V S ps L J 0 (thV (-1)) (thV (-1)) l (l.length:Int) 0 [];unfold aIk;refine bC0 l (sd1 ps L) (fun n=>⟨yM _ _ _,yM _ _ _⟩) (pW J) Q (fun n i b one f m=>j4 (l.length+1) _ n l c0 c1 c2 c3 c4 Z V S ps L J b (thV one) (thV f) l (l.length:Int) i m) (fun n i b one f m a c hi ho ht ha hc hm O hw=>?_) (fun n b one f m hm=>?_) (l.length+1) 0 0 (-1) (-1) [] XY XY XY XY XU hQ
 ·show cond (decide ((i:Int)<(l.length:Int))) _ _;rw[bN XY,QX];refine⟨⟨XY,XY⟩,?_⟩;rw[QV,cO hi XY];have aOo:(m.length+1)*48<=140737488355328:=XY;have e1:=aBc ha ho;have e2:=aBc hc ht;have e3:=aBc ho ht;have tail:∀(A C:Value),A=thV a->C=thV c->
    (((dP A/\dP (thV one))/\(fS A (thV one)=true->dP C/\dP (thV f)))/\cond (fS A (thV one)&&fS C (thV f))
     (j4 (l.length+1) (fun t0 cJ cI cH cG eI eH eG eF eE eD eC t8 t9 I G u r dZ=>aJ2 Q t0 cJ cI cH cG eI eH eG eF eE eD eC t8 t9 I G u r dZ) n l c0 c1 c2 c3 c4 Z V S ps L J b (thV one) (thV f) l (l.length:Int) ((i+1:Nat):Int) m)
     (((dP (thV one)/\dP (thV f))/\((!(fS (thV one) (thV f)))=true->((dP (thV one)/\ "sheetmetal/cut.solid"= "sheetmetal/cut.solid")/\((iV (thV one))=false->dP (thV f)/\ "sheetmetal/cut.solid"= "sheetmetal/cut.solid"))))/\cond ((!(fS (thV one) (thV f)))&&((iV (thV one))||(iV (thV f))))
      (((nU (thV one))/\((nU (thV f))/\((m.length+1)*48<=140737488355328)))/\j4 (l.length+1) (fun t0 cJ cI cH cG eI eH eG eF eE eD eC t8 t9 I G u r dZ=>aJ2 Q t0 cJ cI cH cG eI eH eG eF eE eD eC t8 t9 I G u r dZ) n l c0 c1 c2 c3 c4 Z V S ps L J (l.getD i default) A C l (l.length:Int) ((i+1:Nat):Int) (m++[pW J b (l.getD i default) (lR (thV one)) (lR (thV f))]))
      (j4 (l.length+1) (fun t0 cJ cI cH cG eI eH eG eF eE eD eC t8 t9 I G u r dZ=>aJ2 Q t0 cJ cI cH cG eI eH eG eF eE eD eC t8 t9 I G u r dZ) n l c0 c1 c2 c3 c4 Z V S ps L J (l.getD i default) A C l (l.length:Int) ((i+1:Nat):Int) m))):=by
   rintro A C rfl rfl
   refine⟨⟨⟨lC _,lC _⟩,fun _=>⟨lC _,lC _⟩⟩,?_⟩;rw[e1,e2];cases hb:(a==one)&&(c==f) with
   |true=>
    rw[hb,QX] at hw;exact hw
   |false=>
    rw[hb,QJ] at hw;refine⟨⟨⟨lC _,lC _⟩,fun _=>⟨⟨lC _,rfl⟩,fun _=>⟨lC _,rfl⟩⟩⟩,?_⟩;rw[e3,aD2,aD2];cases ho':one==f with
    |true=>
     rw[ho',QX] at hw;exact hw
    |false=>
     rw[ho',QJ] at hw;have hne:one≠f:=by simpa using ho'
     have hsol:(decide (0<=one)||decide (0<=f))=true:=by
      rw[Bool.or_eq_true,decide_eq_true_iff,decide_eq_true_iff];omega
     rw[hsol];refine⟨⟨lC _,lC _,aOo⟩,?_⟩;rw[aHz ho,aHz ht];exact hw
  cases hd:decide (i+1<l.length) with
  |true=>
   have hd':=JC hd;rw[hd,QX] at O;rw[bN XY,QX];refine⟨⟨h2,h2⟩,?_⟩;cases O;exact tail _ _ rfl rfl
  |false=>
   have hd':=JR hd;rw[hd,QJ] at O;rw[bV XY,QJ];cases O;exact tail _ _ rfl rfl
 ·show cond (decide ((l.length:Int)<(l.length:Int))) _ _;rw[bV XY,QJ];exact hm
def pV (z b n one f:Int):Edg:=Edg.mk (gV z b z n one f).1 (gV z b z n one f).2.1 (gV z b z n one f).2.2.1 (gV z b z n one f).2.2.2.1 (gV z b z n one f).2.2.2.2.1 (gV z b z n one f).2.2.2.2.2
def sd2 (ps:List Pce) (y n:Int):Int×Int:=(lab ps y n,lab ps (aB (y-1)) n)
def aMu (l:zzI) (V S:ByteArray) (O L J I:Int) (G u:List aA) (ps:List Pce) (r f:Int):Prop:=l.length<=2000000/\ps.length<=2000000/\∀p∈ps,p.Rects.length<=2000000
def aMH (l:zzI) (V S:ByteArray) (O L J I:Int) (G u:List aA) (ps:List Pce) (r f:Int):List Edg:=alF (pV f) 0 (-1) (-1) (kK (sd2 ps r) l)
theorem bL7 (l:zzI) (c0 c1:ByteArray) (c2 c3 c4 Z:Int) (V S:List aA) (ps:List Pce) (L J:Int) (h:aMu l c0 c1 c2 c3 c4 Z V S ps L J):∃F,∀Q:List Edg->Prop,Q (aMH l c0 c1 c2 c3 c4 Z V S ps L J)->aQp F l c0 c1 c2 c3 c4 Z V S ps L J Q:=by
 obtain⟨h1,h2⟩:=h;refine⟨l.length+1,fun Q hQ=>?_⟩;show aIj (l.length+1) Q l c0 c1 c2 c3 c4 Z V S ps L J 0 (thV (-1)) (thV (-1)) l (l.length:Int) 0 [];unfold aIj;refine bC0 l (sd2 ps L) (fun n=>⟨yM _ _ _,yM _ _ _⟩) (pV J) Q (fun n i b one f m=>j3 (l.length+1) _ n l c0 c1 c2 c3 c4 Z V S ps L J b (thV one) (thV f) l (l.length:Int) i m) (fun n i b one f m a c hi ho ht ha hc hm O hw=>?_) (fun n b one f m hm=>?_) (l.length+1) 0 0 (-1) (-1) [] XY XY XY XY XU hQ
 ·show cond (decide ((i:Int)<(l.length:Int))) _ _;rw[bN XY,QX];refine⟨⟨XY,XY⟩,?_⟩;rw[QV,cO hi XY];have aOo:(m.length+1)*48<=140737488355328:=XY;have e1:=aBc ha ho;have e2:=aBc hc ht;have e3:=aBc ho ht;have tail:∀(A C:Value),A=thV a->C=thV c->
    (((dP A/\dP (thV one))/\(fS A (thV one)=true->dP C/\dP (thV f)))/\cond (fS A (thV one)&&fS C (thV f))
     (j3 (l.length+1) (fun t0 cJ cI cH cG eI eH eG eF eE eD eC t8 t9 I G u r dZ=>aJ1 Q t0 cJ cI cH cG eI eH eG eF eE eD eC t8 t9 I G u r dZ) n l c0 c1 c2 c3 c4 Z V S ps L J b (thV one) (thV f) l (l.length:Int) ((i+1:Nat):Int) m)
     (((dP (thV one)/\dP (thV f))/\((!(fS (thV one) (thV f)))=true->((dP (thV one)/\ "sheetmetal/cut.solid"= "sheetmetal/cut.solid")/\((iV (thV one))=false->dP (thV f)/\ "sheetmetal/cut.solid"= "sheetmetal/cut.solid"))))/\cond ((!(fS (thV one) (thV f)))&&((iV (thV one))||(iV (thV f))))
      (((nU (thV one))/\((nU (thV f))/\((m.length+1)*48<=140737488355328)))/\j3 (l.length+1) (fun t0 cJ cI cH cG eI eH eG eF eE eD eC t8 t9 I G u r dZ=>aJ1 Q t0 cJ cI cH cG eI eH eG eF eE eD eC t8 t9 I G u r dZ) n l c0 c1 c2 c3 c4 Z V S ps L J (l.getD i default) A C l (l.length:Int) ((i+1:Nat):Int) (m++[pV J b (l.getD i default) (lR (thV one)) (lR (thV f))]))
      (j3 (l.length+1) (fun t0 cJ cI cH cG eI eH eG eF eE eD eC t8 t9 I G u r dZ=>aJ1 Q t0 cJ cI cH cG eI eH eG eF eE eD eC t8 t9 I G u r dZ) n l c0 c1 c2 c3 c4 Z V S ps L J (l.getD i default) A C l (l.length:Int) ((i+1:Nat):Int) m))):=by
   rintro A C rfl rfl
   refine⟨⟨⟨lC _,lC _⟩,fun _=>⟨lC _,lC _⟩⟩,?_⟩;rw[e1,e2];cases hb:(a==one)&&(c==f) with
   |true=>
    rw[hb,QX] at hw;exact hw
   |false=>
    rw[hb,QJ] at hw;refine⟨⟨⟨lC _,lC _⟩,fun _=>⟨⟨lC _,rfl⟩,fun _=>⟨lC _,rfl⟩⟩⟩,?_⟩;rw[e3,aD2,aD2];cases ho':one==f with
    |true=>
     rw[ho',QX] at hw;exact hw
    |false=>
     rw[ho',QJ] at hw;have hne:one≠f:=by simpa using ho'
     have hsol:(decide (0<=one)||decide (0<=f))=true:=by
      rw[Bool.or_eq_true,decide_eq_true_iff,decide_eq_true_iff];omega
     rw[hsol];refine⟨⟨lC _,lC _,aOo⟩,?_⟩;rw[aHz ho,aHz ht];exact hw
  cases hd:decide (i+1<l.length) with
  |true=>
   have hd':=JC hd;rw[hd,QX] at O;rw[bN XY,QX];refine⟨⟨h2,h2⟩,?_⟩;cases O;exact tail _ _ rfl rfl
  |false=>
   have hd':=JR hd;rw[hd,QJ] at O;rw[bV XY,QJ];cases O;exact tail _ _ rfl rfl
 ·show cond (decide ((l.length:Int)<(l.length:Int))) _ _;rw[bV XY,QJ];exact hm
end
end Go.Proofs.YtjjbojomlfgjlaaGreatDoor
namespace Go.Proofs
open Go.Proofs.Tryz
open Go.Shelf
def bOF:Go.Shelf.Ren:=⟨fun|122=>148|215=>186|n=>n,fun|3=>3|4=>4|n=>n,fun|n=>n⟩
theorem bOG:Go.Proofs.Lays.n122 prog bOF:={
 mixed:=XW
 f122:=func148.trans (congrArg some XW)
 f215:=func186.trans (congrArg some XW)
 t3:=underlying3
 a3:=isAgg3
 z3:=sizeOf3
 v3:=zeroValue3
 t4:=underlying4
 a4:=isAgg4
 z4:=sizeOf4
 v4:=zeroValue4}
open Go.RowKit in
theorem cmp_Compare_int (x y:Int) (w:World):
  Calls prog 148 #[.int .i64 x,.int .i64 y] w fun e w'=>e=.returned (.int .i64 (Lib.compareInt x y))/\w'=w:=Any.cmp_Compare_int bOG x y w
def bNx:Go.Shelf.Ren:=⟨fun|20=>149|n=>n,fun|22=>45|3=>3|4=>4|0=>0|n=>n,fun|n=>n⟩
theorem aWF:Go.Proofs.Lays2.n20 prog bNx:={
 mixed:=XW
 f20:=func149.trans (congrArg some XW)
 t0:=underlying0
 a0:=isAgg0
 z0:=sizeOf0
 v0:=zeroValue0
 t3:=underlying3
 a3:=isAgg3
 z3:=sizeOf3
 v3:=zeroValue3
 t4:=underlying4
 a4:=isAgg4
 z4:=sizeOf4
 v4:=zeroValue4
 t22:=underlying45
 a22:=isAgg45
 z22:=sizeOf45
 v22:=zeroValue45
 i3:=by kernel_rfl}
open Go.RowKit Go.Lib Go.Sort in
theorem slices_Compact_int (blk off cap:Nat) (f:List Int) (w:World) (G:Holds (Value.int .i64) w blk off f.toArray) (u:f.length<=9223372036854775807) (r:f.length<=cap):
  Calls prog 149 #[.slice (some ⟨blk,off,none⟩) f.length cap] w fun e w'=>e=.returned (.slice (some ⟨blk,off,none⟩) (Lib.compact f).length cap)/\∃q,w'=putRow (Value.int .i64) (Sort.ahead w q) blk off (Lib.compact f++List.replicate (f.length-(Lib.compact f).length) 0).toArray:=Any.slices_Compact_int aWF blk off cap f w G u r
open Go.RowKit Go.Lib Go.Sort in
theorem slices_Compact_int_empty (a:Option Addr) (cap:Nat) (w:World):
  Calls prog 149 #[.slice a 0 cap] w fun e w'=>e=.returned (.slice a 0 cap)/\w'=w:=Any.slices_Compact_int_empty aWF a cap w
def bNs:Go.Shelf.Ren:=⟨fun|6=>147|15=>172|14=>185|28=>211|29=>212|20=>222|21=>223|22=>224|23=>225|24=>226|25=>227|26=>228|27=>229|46=>251|47=>239|48=>240|49=>252|50=>253|57=>265|n=>n,fun|22=>45|24=>3|25=>213|3=>3|39=>247|0=>0|53=>292|55=>264|4=>4|46=>286|45=>285|50=>197|5=>5|9=>9|66=>308|70=>312|76=>322|77=>71|n=>n,fun|n=>n⟩
theorem bNt:Go.Proofs.SlLaysF.n6 prog bNs:={
 mixed:=XW
 f6:=⟨f147.name,by decide,func147.trans (congrArg some XW)⟩
 f14:=⟨f185.name,by decide,func185.trans (congrArg some XW)⟩
 f15:=func172.trans (congrArg some XW)
 f20:=⟨f222.name,by decide,func222.trans (congrArg some XW)⟩
 f21:=⟨f223.name,by decide,func223.trans (congrArg some XW)⟩
 f22:=⟨Tryz.f224.name,by decide,func224.trans (congrArg some XW)⟩
 f23:=⟨Tryz.f225.name,by decide,func225.trans (congrArg some XW)⟩
 f24:=⟨f226.name,by decide,func226.trans (congrArg some XW)⟩
 f25:=⟨f227.name,by decide,func227.trans (congrArg some XW)⟩
 f26:=⟨f228.name,by decide,func228.trans (congrArg some XW)⟩
 f27:=⟨f229.name,by decide,func229.trans (congrArg some XW)⟩
 f28:=func211.trans (congrArg some XW)
 f29:=func212.trans (congrArg some XW)
 f46:=⟨f251.name,by decide,func251.trans (congrArg some XW)⟩
 f47:=func239.trans (congrArg some XW)
 f48:=func240.trans (congrArg some XW)
 f49:=⟨f252.name,by decide,func252.trans (congrArg some XW)⟩
 f50:=⟨f253.name,by decide,func253.trans (congrArg some XW)⟩
 f57:=⟨f265.name,by decide,func265.trans (congrArg some XW)⟩
 t0:=underlying0
 a0:=isAgg0
 z0:=sizeOf0
 v0:=zeroValue0
 t3:=underlying3
 a3:=isAgg3
 z3:=sizeOf3
 v3:=zeroValue3
 t4:=underlying4
 a4:=isAgg4
 z4:=sizeOf4
 v4:=zeroValue4
 t5:=underlying5
 a5:=isAgg5
 z5:=sizeOf5
 v5:=zeroValue5
 t9:=underlying9
 a9:=isAgg9
 z9:=sizeOf9
 v9:=zeroValue9
 t22:=underlying45
 a22:=isAgg45
 z22:=sizeOf45
 v22:=zeroValue45
 a24:=isAgg3
 z24:=sizeOf3
 t25:=underlying213
 a25:=isAgg213
 z25:=sizeOf213
 v25:=zeroValue213
 t39:=underlying247
 a39:=isAgg247
 z39:=sizeOf247
 v39:=zeroValue247
 t45:=underlying285
 a45:=isAgg285
 z45:=sizeOf285
 v45:=zeroValue285
 t46:=underlying286
 a46:=isAgg286
 z46:=sizeOf286
 v46:=zeroValue286
 t50:=underlying197
 a50:=isAgg197
 z50:=sizeOf197
 v50:=zeroValue197
 t53:=underlying292
 a53:=isAgg292
 z53:=sizeOf292
 v53:=zeroValue292
 t55:=underlying264
 a55:=isAgg264
 z55:=sizeOf264
 v55:=zeroValue264
 t66:=underlying308
 a66:=isAgg308
 z66:=sizeOf308
 v66:=zeroValue308
 t70:=underlying312
 a70:=isAgg312
 z70:=sizeOf312
 v70:=zeroValue312
 t76:=underlying322
 a76:=isAgg322
 z76:=sizeOf322
 v76:=zeroValue322
 t77:=underlying71
 a77:=isAgg71
 z77:=sizeOf71
 v77:=zeroValue71}
def bNu:Go.Shelf.Ren:=⟨fun|6=>147|15=>172|14=>185|28=>211|29=>212|20=>222|21=>223|22=>224|23=>225|24=>226|25=>227|26=>228|27=>229|46=>251|47=>239|48=>240|49=>252|50=>253|57=>265|n=>n,fun|22=>45|24=>3|25=>213|3=>3|39=>247|0=>0|53=>292|55=>264|4=>4|46=>286|45=>285|50=>197|5=>5|9=>9|66=>308|70=>312|76=>322|77=>71|n=>n,fun|n=>n⟩
theorem bNv:Go.Proofs.SlLaysF0.n6 prog bNu:={
 mixed:=XW
 f6:=⟨f147.name,by decide,func147.trans (congrArg some XW)⟩
 f14:=⟨f185.name,by decide,func185.trans (congrArg some XW)⟩
 f15:=func172.trans (congrArg some XW)
 f20:=⟨f222.name,by decide,func222.trans (congrArg some XW)⟩
 f21:=⟨f223.name,by decide,func223.trans (congrArg some XW)⟩
 f22:=⟨Tryz.f224.name,by decide,func224.trans (congrArg some XW)⟩
 f23:=⟨Tryz.f225.name,by decide,func225.trans (congrArg some XW)⟩
 f24:=⟨f226.name,by decide,func226.trans (congrArg some XW)⟩
 f25:=⟨f227.name,by decide,func227.trans (congrArg some XW)⟩
 f26:=⟨f228.name,by decide,func228.trans (congrArg some XW)⟩
 f27:=⟨f229.name,by decide,func229.trans (congrArg some XW)⟩
 f28:=func211.trans (congrArg some XW)
 f29:=func212.trans (congrArg some XW)
 f46:=⟨f251.name,by decide,func251.trans (congrArg some XW)⟩
 f47:=func239.trans (congrArg some XW)
 f48:=func240.trans (congrArg some XW)
 f49:=⟨f252.name,by decide,func252.trans (congrArg some XW)⟩
 f50:=⟨f253.name,by decide,func253.trans (congrArg some XW)⟩
 f57:=⟨f265.name,by decide,func265.trans (congrArg some XW)⟩
 t0:=underlying0
 a0:=isAgg0
 z0:=sizeOf0
 v0:=zeroValue0
 t3:=underlying3
 a3:=isAgg3
 z3:=sizeOf3
 v3:=zeroValue3
 t4:=underlying4
 a4:=isAgg4
 z4:=sizeOf4
 v4:=zeroValue4
 t5:=underlying5
 a5:=isAgg5
 z5:=sizeOf5
 v5:=zeroValue5
 t9:=underlying9
 a9:=isAgg9
 z9:=sizeOf9
 v9:=zeroValue9
 t22:=underlying45
 a22:=isAgg45
 z22:=sizeOf45
 v22:=zeroValue45
 t25:=underlying213
 a25:=isAgg213
 z25:=sizeOf213
 v25:=zeroValue213
 t39:=underlying247
 a39:=isAgg247
 z39:=sizeOf247
 v39:=zeroValue247
 t45:=underlying285
 a45:=isAgg285
 z45:=sizeOf285
 v45:=zeroValue285
 t46:=underlying286
 a46:=isAgg286
 z46:=sizeOf286
 v46:=zeroValue286
 t50:=underlying197
 a50:=isAgg197
 z50:=sizeOf197
 v50:=zeroValue197
 t53:=underlying292
 a53:=isAgg292
 z53:=sizeOf292
 v53:=zeroValue292
 t55:=underlying264
 a55:=isAgg264
 z55:=sizeOf264
 v55:=zeroValue264
 t66:=underlying308
 a66:=isAgg308
 z66:=sizeOf308
 v66:=zeroValue308
 t70:=underlying312
 a70:=isAgg312
 z70:=sizeOf312
 v70:=zeroValue312
 t76:=underlying322
 a76:=isAgg322
 z76:=sizeOf322
 v76:=zeroValue322
 t77:=underlying71
 a77:=isAgg71
 z77:=sizeOf71
 v77:=zeroValue71}
open Go.RowKit Go.Lib Go.Sort in
theorem slices_SortFunc_none {α:Type} [Inhabited α] (p:Option Addr) (cap:Nat) (fv:Value) (w:World):
  Calls prog 147 #[.slice p 0 cap,fv] w fun e w'=>e=.returned (.tuple #[])/\w'=w:=AnyF.slices_SortFunc_none bNv p cap fv w
open Go.RowKit Go.Lib Go.Sort in
theorem slices_SortFunc_total {α:Type} [Inhabited α] (enc:α->Value) (Z:OneCell enc) (r:α->α->Int) (S:SWO (ltOf r)) (g:Nat) (I:Array Value) (blk off cap:Nat) (d:Array α) (w:World) (eg:∀f w,(callFunc g f).run prog w=.ok (.enter g f) w) (u:CmpLays1 prog g I enc r blk off d.size w) (V:Holds enc w blk off d) (G:blk<w.heap.size) (J:d.size<4611686018427387904) (O:∀x y,(ltOf r) x y=false->(ltOf r) y x=false->x=y):
  Calls prog 147 #[.slice (some ⟨blk,off,none⟩) d.size cap,.func (.func g) #[] I] w fun e w'=>
   e=.returned (.tuple #[])/\∃n L,w'=sortWorld enc w blk off n (d.toList.mergeSort fun x y=>!(ltOf r) y x).toArray L:=Any.slices_SortFunc_total bNt enc Z r S g I blk off cap d w eg u V G J O
end Go.Proofs
namespace Go.Proofs.YtjjbojomlfgjlaaGreatDoor
open Go.Proofs.Tryz
open Go.Vm Go.RowKit
set_option linter.unusedVariables false
noncomputable section
def asc (l:zzI):Prop:=l.Pairwise (· < ·)
def eT (l:zzI):zzI:=Lib.compact (l.mergeSort fun x y=>decide (x<=y))
theorem bCQ:∀(a b:zzI),asc a->asc b->(∀x,x∈a↔x∈b)->a=b:=by
 intro a
 induction a with
 |nil=>
  intro b _ _ h;cases b with
  |nil=>rfl
  |cons y b=>exact absurd ((h y).2 (JJ ..)) XU
 |cons x a O=>
  intro b S hb h;cases b with
  |nil=>exact absurd ((h x).1 (JJ ..)) XU
  |cons y b=>
   have u:=List.pairwise_cons.1 S;have r:=List.pairwise_cons.1 hb;have L:x=y:=by
    have J:=(h x).1 (JJ ..);have I:=(h y).2 (JJ ..);rcases List.mem_cons.1 J with J|J
    ·exact J
    ·rcases List.mem_cons.1 I with I|I
     ·exact I.symm
     ·have:=r.1 x J;have:=u.1 y I;omega
   subst L;congr 1;refine O b u.2 r.2 fun z=>?_
   constructor
   ·intro G;rcases List.mem_cons.1 ((h z).1 (QE _ G)) with e|f
    ·have:=u.1 z G;omega
    ·exact f
   ·intro G;rcases List.mem_cons.1 ((h z).2 (QE _ G)) with e|f
    ·have:=r.1 z G;omega
    ·exact f
theorem bT5 (f:zzI) (h:f.Pairwise (·<=·)):asc (Lib.compact f):=by
 unfold asc Lib.compact Lib.compactUpTo;rw[List.pairwise_map];have hp:(List.range f.length).Pairwise (· < ·):=List.pairwise_lt_range;refine List.Pairwise.imp_of_mem ?_ (hp.filter _);intro i j hi L O;obtain⟨G,J⟩:=List.mem_filter.1 L;have r:j<f.length:=JD.1 G;have u:=JC J;have e:∀k (u:k<f.length),f.toArray[k]! =f[k]:=fun k u=>by simp[u]
 rcases u with rfl|u
 ·omega
 ·rw[e j r,e (j-1) XY] at u;rw[e i XY,e j r];have V:f[j-1]<=f[j]:=List.pairwise_iff_getElem.1 h (j-1) j XY r XY;have S:f[i]<=f[j-1]:=by
   by_cases I:i=j-1
   ·subst I;exact Int.le_refl _
   ·exact List.pairwise_iff_getElem.1 h i (j-1) XY XY XY
  omega
theorem bT4 (f:zzI) (x:Int):x∈Lib.compact f↔x∈f:=by
 have e:∀k (r:k<f.length),f.toArray[k]! =f[k]:=fun k r=>by simp[r]
 unfold Lib.compact Lib.compactUpTo;rw[KY];constructor
 ·rintro ⟨i,hi,rfl⟩
  have u:=JD.1 (List.mem_filter.1 hi).1;rw[e i u];exact QN u
 ·intro hx;obtain⟨i,hi,rfl⟩:=List.getElem_of_mem hx;have G:∀i (hi:i<f.length),∃a∈(List.range f.length).filter (Lib.keeps f.toArray),f.toArray[a]! =f[i]:=by
   intro i
   induction i with
   |zero=>exact fun hi=>⟨0,List.mem_filter.2 ⟨JD.2 hi,by simp[Lib.keeps]⟩,e 0 hi⟩
   |succ i J=>
    intro hi
    by_cases r:Lib.keeps f.toArray (i+1)=true
    ·exact⟨i+1,List.mem_filter.2 ⟨JD.2 hi,r⟩,e _ hi⟩
    ·have I:f.toArray[i+1]! =f.toArray[i]!:=by
      unfold Lib.keeps at r;rw[JN] at r;have:=not_or.1 r;simpa using this.2
     obtain⟨a,O,L⟩:=J XY;refine⟨a,O,?_⟩;rw[L,<- e i XY,<- I,e _ hi]
  exact G i hi
theorem aBj (l:zzI):asc (eT l):=by
 unfold eT;refine bT5 _ ?_;have:=List.pairwise_mergeSort (le:=fun x y:Int=>decide (x<=y)) (fun a b c r f=>by simp at*;omega) (fun a b=>by simp;omega) l;exact this.imp (fun h=>by simpa using h)
theorem aBh (l:zzI) (x:Int):x∈eT l↔x∈l:=by
 unfold eT;rw[bT4,List.mem_mergeSort]
theorem aBi (l:zzI):(eT l).length<=l.length:=by
 unfold eT;rw[<- List.length_mergeSort (le:=fun x y:Int=>decide (x<=y)) l];unfold Lib.compact Lib.compactUpTo;rw[KO];refine KU (List.length_filter_le _ _) ?_;simp
def rY:Nat->Nat->Nat->Canon UU:=fun o b r=>cond (Nat.beq b 0) ⟨[1,3,4,15,16,17],[1],[(.tmp 3,81,.int),(.tmp 4,82,.int)],[],[]⟩ (cond (Nat.beq b 2) ⟨[1,3,4,15,16,17,22,23,24],[1],[(.tmp 3,81,.int),(.tmp 4,82,.int)],[],[]⟩ (cond (Nat.beq b 4) ⟨[1,3,4,9,54,55,56],[1,82],[(.tmp 3,81,.int),(.tmp 9,83,.edge)],[],[]⟩ (cond (Nat.beq b 6) ⟨[1,4,9,67,68,69],[1],[(.tmp 4,81,.int),(.tmp 9,82,.edge),(.tmp 67,83,.int)],[],[]⟩ (⟨[],[],[],[],[]⟩))))
def aZg (S O:ByteArray) (L J I G:Int) (u r:List aA) (f:List Pce) (Q:List Edg->Prop) (V:List Pce->Int->Int->ByteArray->ByteArray->Int->Int->Int->Int->List aA->List aA->List Pce->zzI->zzI->Prop):Prop:=V f (f.length:Int) 0 S O L J I G u r f ([]) ([])
def aZf (rec:List Pce->Int->Int->ByteArray->ByteArray->Int->Int->Int->Int->List aA->List aA->List Pce->zzI->zzI->Prop) (x0:List Pce->Int->Int->ByteArray->ByteArray->Int->Int->Int->Int->List aA->List aA->List Pce->zzI->zzI->Prop) (r:List Pce) (u f:Int) (O S:ByteArray) (V Z aD aE:Int) (aF J:List aA) (L:List Pce) (G I:zzI) (i1:List Pce->Int->Int->List aA->Int->Int->ByteArray->ByteArray->Int->Int->Int->Int->List aA->List aA->List Pce->zzI->zzI->Prop):Prop:=cond (decide (f<u)) ((let e0:=(r.getD f.toNat default);((0<=f/\f<r.length)/\i1 r u f e0.Rects (e0.Rects.length:Int) 0 O S V Z aD aE aF J L G I))) (x0 r u f O S V Z aD aE aF J L G I)
def aZi (Q:List Edg->Prop) (t15:List Pce) (t16 t17:Int) (J L:ByteArray) (O S aD Z:Int) (V G:List aA) (I:List Pce) (r f:zzI) (u:Int->Int->ByteArray->ByteArray->Int->Int->Int->Int->List aA->List aA->List Pce->zzI->zzI->List Edg->Prop):Prop:=(((r.length<=2000000)/\(f.length<=2000000))/\u ((eT f).length:Int) 0 J L O S aD Z V G I (eT f) (eT r) ([]))
def aZe (S:List Pce->Int->Int->List aA->Int->Int->ByteArray->ByteArray->Int->Int->Int->Int->List aA->List aA->List Pce->zzI->zzI->Prop) (x0:List Pce->Int->Int->List aA->Int->Int->ByteArray->ByteArray->Int->Int->Int->Int->List aA->List aA->List Pce->zzI->zzI->Prop) (J:List Pce) (I G:Int) (r:List aA) (u f:Int) (aJ aI:ByteArray) (aH aG aD aE:Int) (aF V:List aA) (Z:List Pce) (L O:zzI):Prop:=cond (decide (f<u)) ((let e0:=(r.getD f.toNat default);((0<=f/\f<r.length)/\(((L.length+([e0.X,aB (e0.X+e0.W)]).length)*8<=140737488355328)/\(((O.length+([e0.Y,aB (e0.Y+e0.H)]).length)*8<=140737488355328)/\S J I G r u (aB (f+1)) aJ aI aH aG aD aE aF V Z (L++([e0.X,aB (e0.X+e0.W)])) (O++([e0.Y,aB (e0.Y+e0.H)]))))))) (x0 J I G r u f aJ aI aH aG aD aE aF V Z L O)
def bQD (G:List Pce->Int->Int->ByteArray->ByteArray->Int->Int->Int->Int->List aA->List aA->List Pce->zzI->zzI->Prop) (x0:List Pce->Int->Int->ByteArray->ByteArray->Int->Int->Int->Int->List aA->List aA->List Pce->zzI->zzI->Prop) (u:List Pce) (r f:Int) (t22:List aA) (t23 t24:Int) (S V:ByteArray) (Z aG aD aE:Int) (aF L:List aA) (O:List Pce) (I J:zzI):Prop:=G u r (aB (f+1)) S V Z aG aD aE aF L O I J
def aZd (rec:Int->Int->ByteArray->ByteArray->Int->Int->Int->Int->List aA->List aA->List Pce->zzI->zzI->List Edg->Prop) (x0:Int->Int->ByteArray->ByteArray->Int->Int->Int->Int->List aA->List aA->List Pce->zzI->zzI->List Edg->Prop) (u f:Int) (L O:ByteArray) (S V aD aE:Int) (Z I:List aA) (J:List Pce) (r G:zzI) (fZ:List Edg):Prop:=cond (decide (f<u)) (((0<=f/\f<r.length)/\(let r0:=(aMI G L O S V aD aE Z I J (r.getD f.toNat default) (r.getD f.toNat default));(((aMv G L O S V aD aE Z I J (r.getD f.toNat default) (r.getD f.toNat default))/\((fZ.length+r0.length)*48<=140737488355328))/\rec u (aB (f+1)) L O S V aD aE Z I J r G (fZ++r0))))) (x0 u f L O S V aD aE Z I J r G fZ)
def aZh (Q:List Edg->Prop) (t55 t56:Int) (L O:ByteArray) (S V aD aE:Int) (Z I:List aA) (J:List Pce) (G f:zzI) (u:List Edg) (r:Int->Int->ByteArray->ByteArray->Int->Int->Int->Int->List aA->List aA->List Pce->zzI->List Edg->zzI->Prop):Prop:=r (f.length:Int) 0 L O S V aD aE Z I J G u f
def aZc (rec:Int->Int->ByteArray->ByteArray->Int->Int->Int->Int->List aA->List aA->List Pce->zzI->List Edg->zzI->Prop) (x0:Int->Int->ByteArray->ByteArray->Int->Int->Int->Int->List aA->List aA->List Pce->zzI->List Edg->zzI->Prop) (u f:Int) (L O:ByteArray) (S V aD aE:Int) (Z I:List aA) (J:List Pce) (G:zzI) (dI:List Edg) (r:zzI):Prop:=cond (decide (f<u)) (((0<=f/\f<r.length)/\(let r0:=(aMH G L O S V aD aE Z I J (r.getD f.toNat default) (r.getD f.toNat default));(((aMu G L O S V aD aE Z I J (r.getD f.toNat default) (r.getD f.toNat default))/\((dI.length+r0.length)*48<=140737488355328))/\rec u (aB (f+1)) L O S V aD aE Z I J G (dI++r0) r)))) (x0 u f L O S V aD aE Z I J G dI r)
def bQC (Q:List Edg->Prop) (u r:Int) (O S:ByteArray) (V Z aD aE:Int) (aF J:List aA) (L:List Pce) (I:zzI) (f:List Edg) (G:zzI):Prop:=Q f
def aGa (F:Nat) (L:List Pce->Int->Int->List aA->Int->Int->ByteArray->ByteArray->Int->Int->Int->Int->List aA->List aA->List Pce->zzI->zzI->Prop):Nat->List Pce->Int->Int->List aA->Int->Int->ByteArray->ByteArray->Int->Int->Int->Int->List aA->List aA->List Pce->zzI->zzI->Prop
 |0,_,_,_,_,_,_,_,_,_,_,_,_,_,_,_,_,_=>False
 |n+1,J,I,G,u,r,f,aJ,aI,aH,aG,aD,aE,aF,V,Z,O,S=>aZe (aGa F L n) L J I G u r f aJ aI aH aG aD aE aF V Z O S
def aNY (F:Nat) (rec:List Pce->Int->Int->ByteArray->ByteArray->Int->Int->Int->Int->List aA->List aA->List Pce->zzI->zzI->Prop) (x0:List Pce->Int->Int->ByteArray->ByteArray->Int->Int->Int->Int->List aA->List aA->List Pce->zzI->zzI->Prop) (J:List Pce) (I G:Int) (u:List aA) (r f:Int) (Z aI:ByteArray) (aH aG aD aE:Int) (aF S:List aA) (V:List Pce) (L O:zzI):Prop:=aGa F (fun J I G u r f Z aI aH aG aD aE aF S V L O=>bQD rec x0 J I G u r f Z aI aH aG aD aE aF S V L O) F J I G u r f Z aI aH aG aD aE aF S V L O
def aG9 (F:Nat) (u:Int->Int->ByteArray->ByteArray->Int->Int->Int->Int->List aA->List aA->List Pce->zzI->List Edg->zzI->Prop):Nat->Int->Int->ByteArray->ByteArray->Int->Int->Int->Int->List aA->List aA->List Pce->zzI->List Edg->zzI->Prop
 |0,_,_,_,_,_,_,_,_,_,_,_,_,_,_=>False
 |n+1,r,f,S,V,Z,aG,aD,aE,aF,L,O,I,J,G=>aZc (aG9 F u n) u r f S V Z aG aD aE aF L O I J G
def aIV (F:Nat) (Q:List Edg->Prop) (r f:Int) (O S:ByteArray) (V Z aD aE:Int) (aF J:List aA) (L:List Pce) (G:zzI) (I:List Edg) (u:zzI):Prop:=aG9 F (fun r f O S V Z aD aE aF J L G I u=>bQC Q r f O S V Z aD aE aF J L G I u) F r f O S V Z aD aE aF J L G I u
def aDR (F:Nat) (u:Int->Int->ByteArray->ByteArray->Int->Int->Int->Int->List aA->List aA->List Pce->zzI->zzI->List Edg->Prop):Nat->Int->Int->ByteArray->ByteArray->Int->Int->Int->Int->List aA->List aA->List Pce->zzI->zzI->List Edg->Prop
 |0,_,_,_,_,_,_,_,_,_,_,_,_,_,_=>False
 |n+1,r,f,S,V,Z,aG,aD,aE,aF,L,O,J,I,G=>aZd (aDR F u n) u r f S V Z aG aD aE aF L O J I G
def aNX (F:Nat) (Q:List Edg->Prop) (r f:Int) (O S:ByteArray) (V Z aD aE:Int) (aF J:List aA) (L:List Pce) (I G:zzI) (u:List Edg):Prop:=aDR F (fun r f O S V Z aD aE aF J L I G u=>aZh Q r f O S V Z aD aE aF J L I G u (aIV F Q)) F r f O S V Z aD aE aF J L I G u
def xF (F:Nat) (f:List Pce->Int->Int->ByteArray->ByteArray->Int->Int->Int->Int->List aA->List aA->List Pce->zzI->zzI->Prop):Nat->List Pce->Int->Int->ByteArray->ByteArray->Int->Int->Int->Int->List aA->List aA->List Pce->zzI->zzI->Prop
 |0,_,_,_,_,_,_,_,_,_,_,_,_,_,_=>False
 |n+1,G,u,r,S,V,Z,aG,aD,aE,aF,L,O,I,J=>aZf (xF F f n) f G u r S V Z aG aD aE aF L O I J (aNY F (xF F f n) f)
def aIW (F:Nat) (Q:List Edg->Prop) (u:List Pce) (r f:Int) (O S:ByteArray) (V Z aD aE:Int) (aF J:List aA) (L:List Pce) (G I:zzI):Prop:=xF F (fun u r f O S V Z aD aE aF J L G I=>aZi Q u r f O S V Z aD aE aF J L G I (aNX F Q)) F u r f O S V Z aD aE aF J L G I
def aQY (F:Nat) (S O:ByteArray) (L J I G:Int) (u r:List aA) (f:List Pce) (Q:List Edg->Prop):Prop:=aZg S O L J I G u r f Q (aIW F Q)
def oV (s:zzI×zzI) (r:aA):zzI×zzI:=(s.1++[r.X,aB (r.X+r.W)],s.2++[r.Y,aB (r.Y+r.H)])
def iO (s:zzI×zzI) (p:Pce):zzI×zzI:=p.Rects.foldl oV s
def vC (ps:List Pce) (xs:zzI) (y:Int):List Edg:=alF (pW y) 0 (-1) (-1) (kK (sd1 ps y) xs)
def vB (ps:List Pce) (ys:zzI) (x:Int):List Edg:=alF (pV x) 0 (-1) (-1) (kK (sd2 ps x) ys)
def fK (ps:List Pce):List Edg:=
 ((eT (ps.foldl iO ([],[])).2).foldl (fun m y=>m++vC ps (eT (ps.foldl iO ([],[])).1) y) []) |> (eT (ps.foldl iO ([],[])).1).foldl (fun m x=>m++vB ps (eT (ps.foldl iO ([],[])).2) x)
def aCe (ps:List Pce):Prop:=ps.length<=100/\∀p∈ps,p.Rects.length<=100
theorem bB1 (s:zzI×zzI):∀(l:List aA) (s:zzI×zzI),(l.foldl oV s).1.length=s.1.length+2*l.length/\(l.foldl oV s).2.length=s.2.length+2*l.length:=by
 intro l
 induction l with
 |nil=>intro s;simp
 |cons r l f=>
  intro s;obtain⟨G,u⟩:=f (oV s r);rw[QI,G,u];simp only[oV,QH,QT,JZ];omega
theorem aQu (f:Int->Int×Int) (l:zzI):(kK f l).length=l.length:=by unfold kK;simp
theorem aP8 (ps:List Pce) (xs:zzI) (y:Int):(vC ps xs y).length<=xs.length:=by
 have:=bC1 (pW y) (kK (sd1 ps y) xs) 0 (-1) (-1);rw[aQu] at this;exact this
theorem aP7 (ps:List Pce) (ys:zzI) (x:Int):(vB ps ys x).length<=ys.length:=by
 have:=bC1 (pV x) (kK (sd2 ps x) ys) 0 (-1) (-1);rw[aQu] at this;exact this
def aHj (S O:ByteArray) (L J I G:Int) (u r:List aA) (f:List Pce):Prop:=aCe f
def aHM (S O:ByteArray) (L J I G:Int) (u r:List aA) (f:List Pce):List Edg:=fK f
theorem bLB (S O:ByteArray) (L J I G:Int) (u r:List aA) (f:List Pce) (h:aHj S O L J I G u r f):∃F,∀Q:List Edg->Prop,Q (aHM S O L J I G u r f)->aQY F S O L J I G u r f Q:=by
 obtain⟨h1,h2⟩:=h;obtain⟨F,hF⟩:∃F:Nat,100000<F:=⟨100001,XY⟩;refine⟨F,fun Q hQ=>?_⟩;have hps:f.length<=2000000/\∀p∈f,p.Rects.length<=2000000:=⟨XY,fun p hp=>by have:=h2 p hp;omega⟩;show aIW F Q f (f.length:Int) 0 S O L J I G u r f [] [];unfold aIW;refine qV f iO (fun i s=>s.1.length<=200*i/\s.2.length<=200*i) (fun s=>Q (((eT s.2).foldl (fun m y=>m++vC f (eT s.1) y) []) |> (eT s.1).foldl (fun m x=>m++vB f (eT s.2) x)))
  (fun n i s=>xF F _ n f (f.length:Int) i S O L J I G u r f s.1 s.2) (fun i s hi hs=>?_) (fun n i s hi hs V=>?_) (fun n s hs Z=>?_) F 0 ([],[]) XY XY XU hQ
 ·have hl:=h2 _ (fJ hi);obtain⟨e1,e2⟩:=bB1 s (f.getD i default).Rects s;unfold iO;omega
 ·show cond (decide ((i:Int)<(f.length:Int))) _ _;rw[bN XY,QX];refine⟨⟨XY,XY⟩,?_⟩;rw[QV];have hl:=h2 _ (fJ hi);generalize f.getD i default=p at V hl;unfold aNY;refine qV p.Rects oV (fun j t=>t.1.length=s.1.length+2*j/\t.2.length=s.2.length+2*j) (fun t=>xF F _ n f (f.length:Int) ((i+1:Nat):Int) S O L J I G u r f t.1 t.2)
   (fun m j t=>aGa F _ m f (f.length:Int) i p.Rects (p.Rects.length:Int) j S O L J I G u r f t.1 t.2) (fun j t hj ht=>?_) (fun m j t hj ht hw'=>?_) (fun m t ht Z=>?_) F 0 s XY XY XU V
  ·simp only[oV,QH,QT,JZ];omega
  ·show cond (decide ((j:Int)<(p.Rects.length:Int))) _ _;rw[bN XY,QX];refine⟨⟨XY,XY⟩,?_,?_,?_⟩
   ·simp only[QT,JZ];omega
   ·simp only[QT,JZ];omega
   ·rw[QV,cO hj XY];exact hw'
  ·show cond (decide ((p.Rects.length:Int)<(p.Rects.length:Int))) _ _;rw[bV XY,QJ];show xF _ _ _ _ _ (aB ((i:Int)+1)) _ _ _ _ _ _ _ _ _ _ _;rw[cO hi XY];exact Z
 ·show cond (decide ((f.length:Int)<(f.length:Int))) _ _;rw[bV XY,QJ];obtain⟨s1,s2⟩:=hs;have hx:=aBi s.1;have hy:=aBi s.2;refine⟨⟨XY,XY⟩,?_⟩;generalize eT s.1=xs at hx Z ⊢;generalize eT s.2=ys at hy Z ⊢;unfold aNX;refine qV ys (fun m y=>m++vC f xs y) (fun i m=>m.length<=i*20000) (fun m=>Q (xs.foldl (fun m x=>m++vB f ys x) m)) (fun n i m=>aDR F _ n (ys.length:Int) i S O L J I G u r f ys xs m) (fun i m hi hm=>?_) (fun n i m hi hm V=>?_) (fun n m hm hq2=>?_) F 0 [] XY XY XU Z
  ·have:=aP8 f xs (ys.getD i default);rw[QH];omega
  ·show cond (decide ((i:Int)<(ys.length:Int))) _ _;rw[bN XY,QX];refine⟨⟨XY,XY⟩,⟨⟨XY,hps⟩,?_⟩,?_⟩
   ·have:=aP8 f xs (ys.getD i default);rw[QV];have rQ:i<=20000:=XY;show (m.length+(vC f xs (ys.getD i default)).length)*48<=_;omega
   ·rw[QV,cO hi XY];exact V
  ·show cond (decide ((ys.length:Int)<(ys.length:Int))) _ _;rw[bV XY,QJ];show aIV F Q (xs.length:Int) 0 S O L J I G u r f ys m xs;unfold aIV;refine qV xs (fun m x=>m++vB f ys x) (fun i k=>k.length<=m.length+i*20000) Q (fun n i k=>aG9 F _ n (xs.length:Int) i S O L J I G u r f ys k xs) (fun i k hi hk=>?_) (fun n i k hi hk V=>?_) (fun n k hk hq3=>?_) F 0 m XY XY XU hq2
   ·have:=aP7 f ys (xs.getD i default);rw[QH];omega
   ·show cond (decide ((i:Int)<(xs.length:Int))) _ _;rw[bN XY,QX];refine⟨⟨XY,XY⟩,⟨⟨XY,hps⟩,?_⟩,?_⟩
    ·have:=aP7 f ys (xs.getD i default);rw[QV];show (k.length+(vB f ys (xs.getD i default)).length)*48<=_;omega
    ·rw[QV,cO hi XY];exact V
   ·show cond (decide ((xs.length:Int)<(xs.length:Int))) _ _;rw[bV XY,QJ];exact hq3
def rI (S O:ByteArray) (L J I G:Int) (u r:List aA) (f:List Pce):Prop:=(aHn S O L J I G u r f)/\(cond ((jK S O L J I G u r f) !=0) (True) ((aHj S O L J I G u r f)))
def dK (S O:ByteArray) (L J I G:Int) (u r:List aA) (f:List Pce):(List Edg)×Int:=cond ((jK S O L J I G u r f) !=0) (([],(jK S O L J I G u r f))) (((aHM S O L J I G u r f),0))
def aBG:Nat->Nat->Nat->Canon UU:=fun o b r=>cond (Nat.beq b 0) ⟨[4,6,22,23,24],[4,6],[(.cell 6 0,39,.bool),(.cell 6 2,40,.bool),(.cell 6 3,41,.int),(.cell 6 4,42,.bool),(.cell 6 1,43,.bools)],[],[43]⟩ (⟨[],[],[],[],[]⟩)
def aZb (Z V:ByteArray) (S O L J:Int) (I G:List aA) (f:List Pce) (r:Int) (Q:List Bool->zzB->List Bool->zzI->List Bool->Prop) (u:List Pce->Int->Int->List Bool->List Bool->zzI->List Bool->zzB->Prop):Prop:=((0<=r/\r=r/\r*1<=140737488355328)/\((0<=(f.length:Int)/\(f.length:Int)=(f.length:Int)/\(f.length:Int)*1<=140737488355328)/\((0<=(f.length:Int)/\(f.length:Int)=(f.length:Int)/\(f.length:Int)*8<=140737488355328)/\((0<=(f.length:Int)/\(f.length:Int)=(f.length:Int)/\(f.length:Int)*1<=140737488355328)/\u f (f.length:Int) 0 (List.replicate r.toNat (false:Bool)) (List.replicate ((f.length:Int).toNat) (false:Bool)) (List.replicate ((f.length:Int).toNat) (0:Int)) (List.replicate ((f.length:Int).toNat) (false:Bool)) ([])))))
def aZa (I:List Pce->Int->Int->List Bool->List Bool->zzI->List Bool->zzB->Prop) (V:List Pce->Int->Int->List Bool->List Bool->zzI->List Bool->zzB->Prop) (r:List Pce) (u f:Int) (J L:List Bool) (O:zzI) (S:List Bool) (G:zzB):Prop:=cond (decide (f<u)) ((let e0:=(r.getD f.toNat default);((0<=f/\f<r.length)/\((0<=(e0.Cuts.length:Int)/\(e0.Cuts.length:Int)=(e0.Cuts.length:Int)/\(e0.Cuts.length:Int)*1<=140737488355328)/\(((G.length+1)*24<=140737488355328)/\I r u (aB (f+1)) J L O S (G++[(List.replicate ((e0.Cuts.length:Int).toNat) (false:Bool))])))))) (V r u f J L O S G)
def bQB (Q:List Bool->zzB->List Bool->zzI->List Bool->Prop) (O:List Pce) (L J:Int) (f r:List Bool) (u:zzI) (G:List Bool) (I:zzB):Prop:=Q f I r u G
def aG8 (F:Nat) (G:List Pce->Int->Int->List Bool->List Bool->zzI->List Bool->zzB->Prop):Nat->List Pce->Int->Int->List Bool->List Bool->zzI->List Bool->zzB->Prop
 |0,_,_,_,_,_,_,_,_=>False
 |n+1,u,r,f,I,J,L,O,S=>aZa (aG8 F G n) G u r f I J L O S
def aNW (F:Nat) (Q:List Bool->zzB->List Bool->zzI->List Bool->Prop) (u:List Pce) (r f:Int) (G I:List Bool) (J:zzI) (L:List Bool) (O:zzB):Prop:=aG8 F (fun u r f G I J L O=>bQB Q u r f G I J L O) F u r f G I J L O
def aQX (F:Nat) (S O:ByteArray) (L J I G:Int) (u r:List aA) (f:List Pce) (V:Int) (Q:List Bool->zzB->List Bool->zzI->List Bool->Prop):Prop:=aZb S O L J I G u r f V Q (aNW F Q)
def aAC (p:Pce):List Bool:=List.replicate p.Cuts.length false
def aDv (V S:ByteArray) (O L J I:Int) (G u:List aA) (f:List Pce) (r:Int):Prop:=0<=r/\r<=1000000000000/\f.length<=2000000/\∀p∈f,p.Cuts.length<=2000000
def jR (V S:ByteArray) (O L J I:Int) (G u:List aA) (f:List Pce) (r:Int):List Bool×zzB×List Bool×zzI×List Bool:=
 (List.replicate r.toNat false,f.map aAC,List.replicate f.length false,List.replicate f.length 0,List.replicate f.length false)
theorem bLA (V S:ByteArray) (O L J I:Int) (G u:List aA) (f:List Pce) (r:Int) (h:aDv V S O L J I G u f r):∃F,∀Q:List Bool->zzB->List Bool->zzI->List Bool->Prop,Q ((jR V S O L J I G u f r).1) ((jR V S O L J I G u f r).2.1) ((jR V S O L J I G u f r).2.2.1) ((jR V S O L J I G u f r).2.2.2.1) ((jR V S O L J I G u f r).2.2.2.2)->aQX F V S O L J I G u f r Q:=by
 obtain⟨h1,h2,h3,h4⟩:=h;refine⟨f.length+1,fun Q hQ=>?_⟩;refine⟨⟨h1,rfl,XY⟩,⟨XY,rfl,XY⟩,⟨XY,rfl,XY⟩,⟨XY,rfl,XY⟩,?_⟩;rw[QV];unfold aNW;refine aA1 f aAC (fun m=>Q (List.replicate r.toNat false) m (List.replicate f.length false) (List.replicate f.length 0) (List.replicate f.length false)) (fun n i m=>aG8 (f.length+1) _ n f (f.length:Int) i (List.replicate r.toNat false) (List.replicate f.length false) (List.replicate f.length 0) (List.replicate f.length false) m) (fun n i m hm hi Z=>?_) (fun n m hq=>?_) (f.length+1) 0 [] rfl XY XY hQ
 ·show cond (decide ((i:Int)<(f.length:Int))) _ _;rw[bN XY,QX,QV,cO hi XY];have:=h4 _ (fJ hi);refine⟨⟨XY,XY⟩,⟨XY,rfl,XY⟩,XY,?_⟩;rw[QV];exact Z
 ·show cond (decide ((f.length:Int)<(f.length:Int))) _ _;rw[bV XY,QJ];exact hq
def aEA (S O:ByteArray) (L J I G:Int) (u r:List aA) (f:List Pce):Prop:=(rI S O L J I G u r f)/\(cond (((dK S O L J I G u r f).2) !=0) (True) ((aDv S O L J I G u r f (((dK S O L J I G u r f).1).length:Int))))
def kE (S O:ByteArray) (L J I G:Int) (u r:List aA) (f:List Pce):(List Bool)×(zzB)×(List Bool)×(zzI)×(List Bool)×Int:=cond (((dK S O L J I G u r f).2) !=0) (([],[],[],[],[],(dK S O L J I G u r f).2)) (((jR S O L J I G u r f (((dK S O L J I G u r f).1).length:Int)).1,(jR S O L J I G u r f (((dK S O L J I G u r f).1).length:Int)).2.1,(jR S O L J I G u r f (((dK S O L J I G u r f).1).length:Int)).2.2.1,(jR S O L J I G u r f (((dK S O L J I G u r f).1).length:Int)).2.2.2.1,(jR S O L J I G u r f (((dK S O L J I G u r f).1).length:Int)).2.2.2.2,0))
def aBA:Nat->Nat->Nat->Canon UU:=fun o b r=>cond (Nat.beq b 0) ⟨[3,6,47,48,49],[3],[],[],[]⟩ (⟨[],[],[],[],[]⟩)
def aZD (I:List Bool) (J:zzB) (G:List Bool) (r:zzI) (u:List Bool) (z0 z1:ByteArray) (z2 z3 z4 Z:Int) (V S:List aA) (f:List Pce) (O:Int) (Q:Bool->Prop) (L:Bool->List Pce->Int->Int->List Bool->zzB->List Bool->zzI->List Bool->Prop):Prop:=cond ((((((I.length:Int) !=O)||((J.length:Int) !=(f.length:Int)))||((G.length:Int) !=(f.length:Int)))||((r.length:Int) !=(f.length:Int)))||((u.length:Int) !=(f.length:Int))) (Q false) (L false f (f.length:Int) 0 I J G r u)
def aZC (S:Bool->List Pce->Int->Int->List Bool->zzB->List Bool->zzI->List Bool->Prop) (x0:Bool->List Pce->Int->Int->List Bool->zzB->List Bool->zzI->List Bool->Prop) (Z:Bool->List Pce->Int->Int->List Bool->zzB->List Bool->zzI->List Bool->Prop) (V:Bool) (r:List Pce) (u f:Int) (O:List Bool) (G:zzB) (L:List Bool) (J:zzI) (I:List Bool):Prop:=cond (decide (f<u)) ((let e0:=(r.getD f.toNat default);((0<=f/\f<r.length)/\(let e1:=(G.getD f.toNat default);((0<=f/\f<G.length)/\cond ((e1.length:Int) !=(e0.Cuts.length:Int)) (x0 false r u f O G L J I) (S V r u (aB (f+1)) O G L J I)))))) (Z V r u f O G L J I)
def bPm (Q:Bool->Prop) (f:Bool) (G:List Pce) (u r:Int) (O:List Bool) (S:zzB) (L:List Bool) (J:zzI) (I:List Bool):Prop:=Q f
def bPl (Q:Bool->Prop) (G:Bool) (u:List Pce) (r f:Int) (O:List Bool) (S:zzB) (L:List Bool) (J:zzI) (I:List Bool):Prop:=Q true
def aGZ (F:Nat) (I:Bool->List Pce->Int->Int->List Bool->zzB->List Bool->zzI->List Bool->Prop) (G:Bool->List Pce->Int->Int->List Bool->zzB->List Bool->zzI->List Bool->Prop):Nat->Bool->List Pce->Int->Int->List Bool->zzB->List Bool->zzI->List Bool->Prop
 |0,_,_,_,_,_,_,_,_,_=>False
 |n+1,J,u,r,f,V,Z,S,O,L=>aZC (aGZ F I G n) I G J u r f V Z S O L
def aNQ (F:Nat) (Q:Bool->Prop) (G:Bool) (u:List Pce) (r f:Int) (O:List Bool) (S:zzB) (L:List Bool) (J:zzI) (I:List Bool):Prop:=aGZ F (fun G u r f O S L J I=>bPm Q G u r f O S L J I) (fun G u r f O S L J I=>bPl Q G u r f O S L J I) F G u r f O S L J I
def aQN (F:Nat) (G:List Bool) (I:zzB) (u:List Bool) (f:zzI) (r:List Bool) (z0 z1:ByteArray) (z2 Z V S:Int) (O L:List aA) (J:List Pce) (a2:Int) (Q:Bool->Prop):Prop:=aZD G I u f r z0 z1 z2 Z V S O L J a2 Q (aNQ F Q)
def aBC:Nat->Nat->Nat->Canon UU:=fun o b r=>cond (Nat.beq b 0) ⟨[2,3,6,9,10,11],[3],[],[],[]⟩ (⟨[],[],[],[],[]⟩)
def aZK (G:List Bool) (I:zzB) (u:List Bool) (f:zzI) (r:List Bool) (J:List Edg) (O:Int) (Q:Bool->Prop) (L:Int->Bool->List Edg->Int->Int->List Bool->zzB->List Bool->zzI->List Bool->Prop):Prop:=L O false J (J.length:Int) 0 G I u f r
def aZJ (V:Int->Bool->List Edg->Int->Int->List Bool->zzB->List Bool->zzI->List Bool->Prop) (x0:Int->Bool->List Edg->Int->Int->List Bool->zzB->List Bool->zzI->List Bool->Prop) (x1:Int->Bool->List Edg->Int->Int->List Bool->zzB->List Bool->zzI->List Bool->Prop) (I:Int) (Z:Bool) (u:List Edg) (r f:Int) (G:List Bool) (S:zzB) (O:List Bool) (L:zzI) (J:List Bool):Prop:=cond (decide (f<r)) ((let e0:=(u.getD f.toNat default);((0<=f/\f<u.length)/\(let r1:=(aBv e0.qaq e0.qau e0.qar e0.qav e0.A e0.B I);(let e2:=(G.getD f.toNat default);((r1=true->0<=f/\f<G.length)/\cond (r1&&(!e2)) (x0 I false u r f G S O L J) (V I Z u r (aB (f+1)) G S O L J))))))) (x1 I Z u r f G S O L J)
def bPq (Q:Bool->Prop) (I:Int) (f:Bool) (G:List Edg) (u r:Int) (S:List Bool) (V:zzB) (O:List Bool) (L:zzI) (J:List Bool):Prop:=Q f
def bPp (Q:Bool->Prop) (I:Int) (G:Bool) (u:List Edg) (r f:Int) (S:List Bool) (V:zzB) (O:List Bool) (L:zzI) (J:List Bool):Prop:=Q true
def aG1 (F:Nat) (G:Int->Bool->List Edg->Int->Int->List Bool->zzB->List Bool->zzI->List Bool->Prop) (u:Int->Bool->List Edg->Int->Int->List Bool->zzB->List Bool->zzI->List Bool->Prop):Nat->Int->Bool->List Edg->Int->Int->List Bool->zzB->List Bool->zzI->List Bool->Prop
 |0,_,_,_,_,_,_,_,_,_,_=>False
 |n+1,L,J,I,r,f,Z,bP,V,S,O=>aZJ (aG1 F G u n) G u L J I r f Z bP V S O
def aIP (F:Nat) (Q:Bool->Prop) (I:Int) (G:Bool) (u:List Edg) (r f:Int) (S:List Bool) (V:zzB) (O:List Bool) (L:zzI) (J:List Bool):Prop:=aG1 F (fun I G u r f S V O L J=>bPq Q I G u r f S V O L J) (fun I G u r f S V O L J=>bPp Q I G u r f S V O L J) F I G u r f S V O L J
def aQP (F:Nat) (G:List Bool) (I:zzB) (u:List Bool) (f:zzI) (r:List Bool) (L:List Edg) (J:Int) (Q:Bool->Prop):Prop:=aZK G I u f r L J Q (aIP F Q)
def aB2:Nat->Nat->Nat->Canon UU:=fun o b r=>cond (Nat.beq b 0) ⟨[0,1,4,7,8],[],[],[],[]⟩ (⟨[],[],[],[],[]⟩)
def bAv (f:List Bool) (u:Bool) (Q:Int->Prop) (r:List Bool->Bool->Int->Int->Int->Prop):Prop:=r f u 0 (f.length:Int) 0
def bAu (G:List Bool->Bool->Int->Int->Int->Prop) (L:List Bool->Bool->Int->Int->Int->Prop) (J:List Bool->Bool->Int->Int->Int->Prop) (r:List Bool) (t1:Bool) (I u f:Int):Prop:=cond (decide (f<u)) ((let e0:=(r.getD f.toNat default);((0<=f/\f<r.length)/\cond (t1==e0) (L r t1 f u f) (G r t1 I u (aB (f+1)))))) (J r t1 I u f)
def bQ7 (Q:Int->Prop) (G:List Bool) (t1:Bool) (f u r:Int):Prop:=Q f
def bQ6 (Q:Int->Prop) (G:List Bool) (t1:Bool) (u r f:Int):Prop:=Q (-1)
def aHB (F:Nat) (r:List Bool->Bool->Int->Int->Int->Prop) (f:List Bool->Bool->Int->Int->Int->Prop):Nat->List Bool->Bool->Int->Int->Int->Prop
 |0,_,_,_,_,_=>False
 |n+1,L,J,I,G,u=>bAu (aHB F r f n) r f L J I G u
def aIi (F:Nat) (Q:Int->Prop) (G:List Bool) (t1:Bool) (u r f:Int):Prop:=aHB F (fun G t1 u r f=>bQ7 Q G t1 u r f) (fun G t1 u r f=>bQ6 Q G t1 u r f) F G t1 u r f
def aQo (F:Nat) (r:List Bool) (f:Bool) (Q:Int->Prop):Prop:=bAv r f Q (aIi F Q)
def aBH:Nat->Nat->Nat->Canon UU:=fun o b r=>cond (Nat.beq b 0) ⟨[3,9,10,11],[3],[],[],[]⟩ (⟨[],[],[],[],[]⟩)
def aZk (O L:ByteArray) (J I:Int) (f G u:List aA) (Q:Bool->Prop) (r:List aA->Int->Int->Int->Int->Int->Int->Prop):Prop:=r f (f.length:Int) 0 0 0 0 0
def aZj (u:List aA->Int->Int->Int->Int->Int->Int->Prop) (S:List aA->Int->Int->Int->Int->Int->Int->Prop) (G:List aA) (r f I J L O:Int):Prop:=cond (decide (f<r)) ((let e0:=(G.getD f.toNat default);((0<=f/\f<G.length)/\cond (!(kL e0.X e0.Y e0.W e0.H)) (u G r (aB (f+1)) I J L O) (cond (L==0) (u G r (aB (f+1)) e0.X e0.Y e0.W e0.H) ((let Z:=aB ((ma (aB (I+L)) (aB (e0.X+e0.W)))-(mi I e0.X));(let V:=aB ((ma (aB (J+O)) (aB (e0.Y+e0.H)))-(mi J e0.Y));u G r (aB (f+1)) (mi I e0.X) (mi J e0.Y) Z V))))))) (S G r f I J L O)
def bQE (Q:Bool->Prop) (I:List aA) (G u J L r f:Int):Prop:=Q (decide ((mi r f)<7200))
def aGb (F:Nat) (u:List aA->Int->Int->Int->Int->Int->Int->Prop):Nat->List aA->Int->Int->Int->Int->Int->Int->Prop
 |0,_,_,_,_,_,_,_=>False
 |n+1,G,r,f,L,O,J,I=>aZj (aGb F u n) u G r f L O J I
def aIX (F:Nat) (Q:Bool->Prop) (u:List aA) (r f J L I G:Int):Prop:=aGb F (fun u r f J L I G=>bQE Q u r f J L I G) F u r f J L I G
def aQZ (F:Nat) (J I:ByteArray) (G u:Int) (L r f:List aA) (Q:Bool->Prop):Prop:=aZk J I G u L r f Q (aIX F Q)
def aMD (O L J I G u r f:Int):Bool:=(sK G u r f O L J I)
def aBZ:Nat->Nat->Nat->Canon UU:=fun o b r=>cond (Nat.beq b 0) ⟨[0,1,4,7,8],[],[],[],[]⟩ (⟨[],[],[],[],[]⟩)
def bAp (l:List aA) (G u r f:Int) (Q:Int->Prop) (I:List aA->Int->Int->Int->Int->Int->Int->Int->Prop):Prop:=I l G u r f 0 (l.length:Int) 0
def bAo (O:List aA->Int->Int->Int->Int->Int->Int->Int->Prop) (Z:List aA->Int->Int->Int->Int->Int->Int->Int->Prop) (V:List aA->Int->Int->Int->Int->Int->Int->Int->Prop) (r:List aA) (G I J L S u f:Int):Prop:=cond (decide (f<u)) ((let e0:=(r.getD f.toNat default);(let r1:=(aMD e0.X e0.Y e0.W e0.H G I J L);((0<=f/\f<r.length)/\cond r1 (Z r G I J L f u f) (O r G I J L S u (aB (f+1))))))) (V r G I J L S u f)
def bQ5 (Q:Int->Prop) (G:List aA) (I J L O f u r:Int):Prop:=Q f
def bQ4 (Q:Int->Prop) (G:List aA) (I J L O u r f:Int):Prop:=Q (-1)
def aGz (F:Nat) (r:List aA->Int->Int->Int->Int->Int->Int->Int->Prop) (f:List aA->Int->Int->Int->Int->Int->Int->Int->Prop):Nat->List aA->Int->Int->Int->Int->Int->Int->Int->Prop
 |0,_,_,_,_,_,_,_,_=>False
 |n+1,J,L,O,S,V,I,G,u=>bAo (aGz F r f n) r f J L O S V I G u
def aIg (F:Nat) (Q:Int->Prop) (G:List aA) (I J L O u r f:Int):Prop:=aGz F (fun G I J L O u r f=>bQ5 Q G I J L O u r f) (fun G I J L O u r f=>bQ4 Q G I J L O u r f) F G I J L O u r f
def aQl (F:Nat) (l:List aA) (G u r f:Int) (Q:Int->Prop):Prop:=bAp l G u r f Q (aIg F Q)
def yQ (f:zzB) (ps:List Pce):Bool:=(List.range ps.length).any fun i=>((f.getD i default).length:Int) !=((ps.getD i default).Cuts.length:Int)
def lX (I:List Bool) (f:zzB) (G:List Bool) (r:zzI) (u:List Bool) (ps:List Pce) (J:Int):Bool:=
 cond ((((((I.length:Int) !=J)||((f.length:Int) !=(ps.length:Int)))||((G.length:Int) !=(ps.length:Int)))||((r.length:Int) !=(ps.length:Int)))||((u.length:Int) !=(ps.length:Int))) false (!(yQ f ps))
def aMi (I:List Bool) (J:zzB) (G:List Bool) (r:zzI) (u:List Bool) (z0 z1:ByteArray) (z2 Z V S:Int) (O L:List aA) (f:List Pce) (a2:Int):Prop:=f.length<=2000000
def aHK (G:List Bool) (I:zzB) (u:List Bool) (f:zzI) (r:List Bool) (z0 z1:ByteArray) (z2 z3 Z V:Int) (S O:List aA) (J:List Pce) (L:Int):Bool:=lX G I u f r J L
theorem bKo (J:List Bool) (r:zzB) (I:List Bool) (u:zzI) (G:List Bool) (z0 z1:ByteArray) (z2 z3 z4 Z:Int) (V S:List aA) (f:List Pce) (O:Int) (h:aMi J r I u G z0 z1 z2 z3 z4 Z V S f O):∃F,∀Q:Bool->Prop,Q (aHK J r I u G z0 z1 z2 z3 z4 Z V S f O)->aQN F J r I u G z0 z1 z2 z3 z4 Z V S f O Q:=by
 have hl:f.length<=2000000:=h;refine⟨f.length+1,fun Q L=>?_⟩;unfold aHK lX at L;show cond _ _ _;cases hb:(((((J.length:Int) !=O)||((r.length:Int) !=(f.length:Int)))||((I.length:Int) !=(f.length:Int)))||((u.length:Int) !=(f.length:Int)))||((G.length:Int) !=(f.length:Int)) with
 |true=>
  rw[hb] at L;exact L
 |false=>
  rw[hb,QJ] at L;rw[QJ];have hh:r.length=f.length:=by
   simp only[QC,bne_eq_false_iff_eq] at hb;have:=hb.1.1.1.2;omega
  unfold aNQ;refine kP f.length (fun i=>((r.getD i default).length:Int) !=((f.getD i default).Cuts.length:Int)) (Q false) (Q true) (fun n i=>aGZ (f.length+1) _ _ n false f (f.length:Int) i J r I u G) (fun n i hi hx hw=>?_) (fun n hy=>?_) (f.length+1) XY (fun q=>?_) (fun q=>?_)
  ·show cond (decide ((i:Int)<(f.length:Int))) _ _;rw[bN XY,QX,QV,cO hi XY];refine⟨⟨XY,XY⟩,⟨XY,XY⟩,?_⟩;cases hb:((r.getD i default).length:Int) !=((f.getD i default).Cuts.length:Int) with
   |true=>exact hx hb
   |false=>exact hw hb
  ·show cond (decide ((f.length:Int)<(f.length:Int))) _ _;rw[bV XY,QJ];exact hy
  ·unfold yQ at L;rw[q] at L;exact L
  ·unfold yQ at L;rw[q] at L;exact L
def ofB (e:Edg) (p:Int):Bool:=aBv e.qaq e.qau e.qar e.qav e.A e.B p
def yH (f:List Bool) (es:List Edg) (p:Int) (i:Nat):Bool:=ofB (es.getD i default) p&&!(f.getD i default)
def yO (f:List Bool) (es:List Edg) (p:Int):Bool:=!((List.range es.length).any (yH f es p))
def aDr (f:List Bool) (J:zzB) (I:List Bool) (u:zzI) (G:List Bool) (r:List Edg) (L:Int):Prop:=r.length<=1000000000000/\f.length=r.length
def aBl (f:List Bool) (L:zzB) (J:List Bool) (G:zzI) (I:List Bool) (u:List Edg) (r:Int):Bool:=yO f u r
theorem bKr (r:List Bool) (J:zzB) (I:List Bool) (u:zzI) (G:List Bool) (f:List Edg) (L:Int) (h:aDr r J I u G f L):∃F,∀Q:Bool->Prop,Q (aBl r J I u G f L)->aQP F r J I u G f L Q:=by
 obtain⟨Z,hc⟩:=h;refine⟨f.length+1,fun Q O=>?_⟩;unfold aBl yO at O;show aIP (f.length+1) Q L false f (f.length:Int) 0 r J I u G;unfold aIP;refine kP f.length (yH r f L) (Q false) (Q true) (fun n i=>aG1 (f.length+1) _ _ n L false f (f.length:Int) i r J I u G) (fun n i hi hx S=>?_) (fun n hy=>?_) (f.length+1) XY (fun q=>?_) (fun q=>?_)
 ·show cond (decide ((i:Int)<(f.length:Int))) _ _;rw[bN XY,QX,QV];have V:aB ((i:Int)+1)=((i+1:Nat):Int):=by rw[dW XY XY];omega
  rw[V];refine⟨⟨XY,XY⟩,fun _=>⟨XY,XY⟩,?_⟩;show cond (yH r f L i) _ _;cases hb:yH r f L i with
  |true=>exact hx hb
  |false=>exact S hb
 ·show cond (decide ((f.length:Int)<(f.length:Int))) _ _;rw[bV XY,QJ];exact hy
 ·rw[q] at O;exact O
 ·rw[q] at O;exact O
def aHs (l:List Bool) (b:Bool):Prop:=l.length<=2000000
def aHX (l:List Bool) (b:Bool):Int:=qR (fun x=>b==x) l 0
theorem bL5 (f:List Bool) (r:Bool) (h:aHs f r):∃F,∀Q:Int->Prop,Q (aHX f r)->aQo F f r Q:=by
 refine⟨f.length+1,fun Q G=>?_⟩;show aIi (f.length+1) Q f r 0 (f.length:Int) 0;unfold aIi;exact aJT f (fun x=>r==x) h Q (fun n i=>aHB (f.length+1) (fun _ _ u _ _=>Q u) (fun _ _ _ _ _=>Q (-1)) n f r 0 f.length i) (fun n i=>rfl) (f.length+1) 0 XY XY G
def xY (s:Int×Int×Int×Int) (r:aA):Int×Int×Int×Int:=cond (!(kL r.X r.Y r.W r.H)) s (cond (s.2.2.1==0) (r.X,r.Y,r.W,r.H)
 (mi s.1 r.X,mi s.2.1 r.Y,aB ((ma (aB (s.1+s.2.2.1)) (aB (r.X+r.W)))-(mi s.1 r.X)),aB ((ma (aB (s.2.1+s.2.2.2)) (aB (r.Y+r.H)))-(mi s.2.1 r.Y))))
def aBy (l:List aA):Bool:=decide (mi (l.foldl xY (0,0,0,0)).2.2.1 (l.foldl xY (0,0,0,0)).2.2.2<7200)
def aDw (L J:ByteArray) (I G:Int) (f u r:List aA):Prop:=f.length<=2000000
def aHN (L J:ByteArray) (I G:Int) (f u r:List aA):Bool:=aBy f
theorem bLC (S O:ByteArray) (L J:Int) (f I G:List aA) (h:aDw S O L J f I G):∃F,∀Q:Bool->Prop,Q (aHN S O L J f I G)->aQZ F S O L J f I G Q:=by
 have hl:f.length<=2000000:=h;refine⟨f.length+1,fun Q hQ=>?_⟩;show aIX (f.length+1) Q f (f.length:Int) 0 0 0 0 0;unfold aIX;refine aCa f xY (fun s=>Q (decide (mi s.2.2.1 s.2.2.2<7200))) (fun n i s=>aGb (f.length+1) _ n f (f.length:Int) i s.1 s.2.1 s.2.2.1 s.2.2.2) (fun n i s hi u=>?_) (fun n s hq=>?_) (f.length+1) 0 (0,0,0,0) XY XY hQ
 ·show cond (decide ((i:Int)<(f.length:Int))) _ _;rw[bN XY,QX,QV,cO hi XY];refine⟨⟨XY,XY⟩,?_⟩;generalize f.getD i default=r at u ⊢;unfold xY at u;cases Z:!(kL r.X r.Y r.W r.H) with
  |true=>
   rw[Z] at u;exact u
  |false=>
   rw[Z,QJ] at u;rw[QJ];cases V:s.2.2.1==0 with
   |true=>
    rw[V] at u;exact u
   |false=>
    rw[V] at u;exact u
 ·show cond (decide ((f.length:Int)<(f.length:Int))) _ _;rw[bV XY,QJ];exact hq
def aFD (a b c d:Int) (r:aA):Bool:=aMD r.X r.Y r.W r.H a b c d
def aHp (l:List aA) (a b c d:Int):Prop:=l.length<=2000000
def aHU (l:List aA) (a b c d:Int):Int:=qR (aFD a b c d) l 0
theorem bL2 (l:List aA) (G u r f:Int) (h:aHp l G u r f):∃F,∀Q:Int->Prop,Q (aHU l G u r f)->aQl F l G u r f Q:=by
 refine⟨l.length+1,fun Q J=>?_⟩;show aIg (l.length+1) Q l G u r f 0 (l.length:Int) 0;unfold aIg;exact aJT l (aFD G u r f) h Q (fun n i=>aGz (l.length+1) (fun _ _ _ _ _ I _ _=>Q I) (fun _ _ _ _ _ _ _ _=>Q (-1)) n l G u r f 0 l.length i) (fun n i=>rfl) (l.length+1) 0 XY XY J
def yE (r:List Bool) (f:Bool):Prop:=(aHs r f)
def pO (r:List Bool) (f:Bool):Bool:=decide (0<=(aHX r f))
def yD (L:List Bool) (r:zzB) (u:List Bool) (J:zzI) (I:List Bool) (O:List Edg) (f G Z V S:Int):Prop:=(0<=f/\f<I.length)/\(cond (I.getD f.toNat default) (True) ((cond (decide (0<=G)) ((0<=f/\f<r.length)/\(0<=G/\G<(r.getD f.toNat default).length)) ((0<=f/\f<u.length)/\((!(u.getD f.toNat default))=true->((0<=f/\f<r.length)/\yE (r.getD f.toNat default) false))/\(((!(u.getD f.toNat default))&&(!(pO (r.getD f.toNat default) false)))=true->aDr L r u J I O f)))))
def sM (L:List Bool) (f:zzB) (I:List Bool) (J:zzI) (G:List Bool) (O:List Edg) (r u Z V S:Int):Bool:=cond (G.getD r.toNat default) (false) (cond (decide (0<=u)) (!((f.getD r.toNat default).getD u.toNat default)) ((((!(I.getD r.toNat default))&&(!(pO (f.getD r.toNat default) false)))&&(!(aBl L f I J G O r)))))
def aHw (l:List aA) (G u r f:Int):Prop:=(aHp l G u r f)
def aBw (l:List aA) (G u r f:Int):Bool:=decide (0<=(aHU l G u r f))
def aAt:Nat->Nat->Nat->Canon UU:=fun o b r=>cond (Nat.beq b 0) ⟨[0,4,49,50,51],[],[(.tmp 49,60,.rect)],[],[]⟩ (⟨[],[],[],[],[]⟩)
def aYO (I:List aA) (f r:Int) (Q:Bool->Prop) (G:List aA->Bool->Int->Int->List aA->Prop):Prop:=cond ((((decide (f<(-4194304)))||(decide (4194304<f)))||(decide (r<(-4194304))))||(decide (4194304<r))) (Q false) ((let u:=(([(aA.mk (aB (f-1)) (aB (r-1)) 1 1),(aA.mk f (aB (r-1)) 1 1),(aA.mk (aB (f-1)) r 1 1),(aA.mk f r 1 1)]).length:Int);G I false u 0 ([(aA.mk (aB (f-1)) (aB (r-1)) 1 1),(aA.mk f (aB (r-1)) 1 1),(aA.mk (aB (f-1)) r 1 1),(aA.mk f r 1 1)])))
def aYN (I:List aA->Bool->Int->Int->List aA->Prop) (O:List aA->Bool->Int->Int->List aA->Prop) (L:List aA->Bool->Int->Int->List aA->Prop) (G:List aA) (J:Bool) (u f:Int) (r:List aA):Prop:=cond (decide (f<u)) (((0<=f/\f<r.length)/\(let S:=(aBw G ((r.getD f.toNat default).X) ((r.getD f.toNat default).Y) ((r.getD f.toNat default).W) ((r.getD f.toNat default).H));((aHw G ((r.getD f.toNat default).X) ((r.getD f.toNat default).Y) ((r.getD f.toNat default).W) ((r.getD f.toNat default).H))/\cond (!S) (O G false u f r) (I G J u (aB (f+1)) r))))) (L G J u f r)
def bPZ (Q:Bool->Prop) (G:List aA) (f:Bool) (u r:Int) (I:List aA):Prop:=Q f
def bPY (Q:Bool->Prop) (G:List aA) (u:Bool) (r f:Int) (I:List aA):Prop:=Q true
def aGK (F:Nat) (G:List aA->Bool->Int->Int->List aA->Prop) (u:List aA->Bool->Int->Int->List aA->Prop):Nat->List aA->Bool->Int->Int->List aA->Prop
 |0,_,_,_,_,_=>False
 |n+1,J,I,r,f,L=>aYN (aGK F G u n) G u J I r f L
def aIC (F:Nat) (Q:Bool->Prop) (G:List aA) (u:Bool) (r f:Int) (I:List aA):Prop:=aGK F (fun G u r f I=>bPZ Q G u r f I) (fun G u r f I=>bPY Q G u r f I) F G u r f I
def aQB (F:Nat) (u:List aA) (f r:Int) (Q:Bool->Prop):Prop:=aYO u f r Q (aIC F Q)
def four (x y:Int):List aA:=[aA.mk (aB (x-1)) (aB (y-1)) 1 1,aA.mk x (aB (y-1)) 1 1,aA.mk (aB (x-1)) y 1 1,aA.mk x y 1 1]
def aCl (l:List aA) (q:aA):Bool:=aBw l q.X q.Y q.W q.H
def rH (l:List aA) (x y:Int):Bool:=cond ((((decide (x<(-4194304)))||(decide (4194304<x)))||(decide (y<(-4194304))))||(decide (4194304<y))) false (!((four x y).any fun q=>!(aCl l q)))
def aHf (l:List aA) (x y:Int):Prop:=l.length<=2000000
def j9 (l:List aA) (x y:Int):Bool:=rH l x y
theorem bKb (u:List aA) (f r:Int) (h:aHf u f r):∃F,∀Q:Bool->Prop,Q (j9 u f r)->aQB F u f r Q:=by
 have J:u.length<=2000000:=h;refine⟨5,fun Q G=>?_⟩;unfold j9 rH at G;show cond _ _ _;cases hb:(((decide (f<(-4194304)))||(decide (4194304<f)))||(decide (r<(-4194304))))||(decide (4194304<r)) with
 |true=>
  rw[hb] at G;exact G
 |false=>
  rw[hb,QJ] at G;rw[QJ];show aIC 5 Q u false 4 0 (four f r);have L:(four f r).length=4:=rfl;unfold aIC;refine mH (four f r) (fun q=>!(aCl u q)) (Q false) (Q true) (fun n i=>aGK 5 _ _ n u false 4 i (four f r)) (fun n i hi hx I=>?_) (fun n hy=>?_) 5 XY (fun q=>?_) (fun q=>?_)
  ·show cond (decide ((i:Int)<4)) _ _;rw[bN XY,QX,QV,cO hi XY];refine⟨⟨XY,XY⟩,h,?_⟩;show cond (!(aCl u ((four f r).getD i default))) _ _;cases hb:!(aCl u ((four f r).getD i default)) with
   |true=>exact hx hb
   |false=>exact I hb
  ·exact hy
  ·rw[q] at G;exact G
  ·rw[q] at G;exact G
def zM:Nat->Nat->Nat->Canon UU:=fun o b r=>cond (Nat.beq b 0) ⟨[2,4,7,8,9,95,96,97],[4,7,9],[],[],[]⟩ (cond (Nat.beq b 2) ⟨[4,7,8,9,106,107,108],[4,7,9],[],[],[]⟩ (⟨[],[],[],[],[]⟩))
def aYm (V:List Bool) (Z:zzB) (O:List Bool) (J:zzI) (L:List Bool) (z0 z1:ByteArray) (z2 z3 z4 z5:Int) (z6 z7:List aA) (G:List Pce) (a2:List Edg) (I u S r f:Int) (Q:Bool->Prop) (i0:List Edg->Bool->List Pce->Int->Int->List Bool->zzB->List Bool->zzI->List Bool->Int->Int->Int->Int->Int->Int->Int->Prop):Prop:=cond (decide (0<=u)) ((let e0:=(G.getD I.toNat default);((0<=I/\I<G.length)/\(let e1:=(e0.Cuts.getD u.toNat default);((0<=u/\u<e0.Cuts.length)/\Q ((((decide (e1.X<r))&&(decide (r<(aB (e1.X+e1.W)))))&&(decide (e1.Y<f)))&&(decide (f<(aB (e1.Y+e1.H)))))))))) (((((((decide (r<0))||(decide (z4<r)))||(decide (f<0)))||(decide (z5<f)))=false->aHf z6 r f)/\cond (((((decide (r<0))||(decide (z4<r)))||(decide (f<0)))||(decide (z5<f)))||(j9 z6 r f)) (Q false) (i0 a2 false G (G.length:Int) 0 V Z O J L I u S r f r f)))
def aYl (rec:List Edg->Bool->List Pce->Int->Int->List Bool->zzB->List Bool->zzI->List Bool->Int->Int->Int->Int->Int->Int->Int->Prop) (x0:List Edg->Bool->List Pce->Int->Int->List Bool->zzB->List Bool->zzI->List Bool->Int->Int->Int->Int->Int->Int->Int->Prop) (x1:List Edg->Bool->List Pce->Int->Int->List Bool->zzB->List Bool->zzI->List Bool->Int->Int->Int->Int->Int->Int->Int->Prop) (J:List Edg) (t8:Bool) (r:List Pce) (u f:Int) (Z:List Bool) (V:zzB) (L:List Bool) (O:zzI) (S:List Bool) (aX bE bG bH bW I G:Int):Prop:=cond (decide (f<u)) ((let e0:=(r.getD f.toNat default);((0<=f/\f<r.length)/\((aHf e0.Rects I G)/\cond (j9 e0.Rects I G) (x0 J false r u f Z V L O S aX bE bG bH bW I G) (rec J t8 r u (aB (f+1)) Z V L O S aX bE bG bH bW I G))))) (x1 J t8 r u f Z V L O S aX bE bG bH bW I G)
def aYo (Q:Bool->Prop) (I:List Edg) (f:Bool) (G:List Pce) (u r:Int) (V:List Bool) (S:zzB) (J:List Bool) (L:zzI) (O:List Bool) (aX bE bG bH Z aP aT:Int):Prop:=Q f
def aYn (Q:Bool->Prop) (f:List Edg) (r:Bool) (t95:List Pce) (t96 t97:Int) (O:List Bool) (L:zzB) (G:List Bool) (I:zzI) (J:List Bool) (aX bE Z V S aP aT:Int) (u:Bool->List Edg->Int->Int->List Bool->zzB->List Bool->zzI->List Bool->Int->Int->Int->Int->Int->Int->Int->Prop):Prop:=u r f (f.length:Int) 0 O L G I J aX bE Z V S aP aT
def aYk (rec:Bool->List Edg->Int->Int->List Bool->zzB->List Bool->zzI->List Bool->Int->Int->Int->Int->Int->Int->Int->Prop) (x0:Bool->List Edg->Int->Int->List Bool->zzB->List Bool->zzI->List Bool->Int->Int->Int->Int->Int->Int->Int->Prop) (x1:Bool->List Edg->Int->Int->List Bool->zzB->List Bool->zzI->List Bool->Int->Int->Int->Int->Int->Int->Int->Prop) (t8:Bool) (r:List Edg) (u f:Int) (G:List Bool) (Z:zzB) (O:List Bool) (S:zzI) (V:List Bool) (I bE bG bH bW L J:Int):Prop:=cond (decide (f<u)) ((let e0:=(r.getD f.toNat default);((0<=f/\f<r.length)/\(let r1:=(aBv e0.qaq e0.qau e0.qar e0.qav e0.A e0.B I);(let e2:=(G.getD f.toNat default);(let r3:=(aMG L J e0.qaq e0.qau e0.qar e0.qav);((r1=true->0<=f/\f<G.length)/\cond ((r1&&(!e2))&&(decide (r3<=7200))) (x0 true r u f G Z O S V I bE bG bH bW L J) (rec t8 r u (aB (f+1)) G Z O S V I bE bG bH bW L J)))))))) (x1 t8 r u f G Z O S V I bE bG bH bW L J)
def bPg (Q:Bool->Prop) (G:Bool) (u:List Edg) (r f:Int) (S:List Bool) (O:zzB) (I:List Bool) (J:zzI) (L:List Bool) (aX bE bG Z V aP aT:Int):Prop:=Q G
def bPf (Q:Bool->Prop) (G:Bool) (u:List Edg) (r f:Int) (S:List Bool) (O:zzB) (I:List Bool) (J:zzI) (L:List Bool) (aX bE bG Z V aP aT:Int):Prop:=Q false
def aGU (F:Nat) (I:Bool->List Edg->Int->Int->List Bool->zzB->List Bool->zzI->List Bool->Int->Int->Int->Int->Int->Int->Int->Prop) (G:Bool->List Edg->Int->Int->List Bool->zzB->List Bool->zzI->List Bool->Int->Int->Int->Int->Int->Int->Int->Prop):Nat->Bool->List Edg->Int->Int->List Bool->zzB->List Bool->zzI->List Bool->Int->Int->Int->Int->Int->Int->Int->Prop
 |0,_,_,_,_,_,_,_,_,_,_,_,_,_,_,_,_=>False
 |n+1,J,u,r,f,Z,V,L,O,S,aX,bE,bG,bH,bW,aP,aT=>aYk (aGU F I G n) I G J u r f Z V L O S aX bE bG bH bW aP aT
def aIM (F:Nat) (Q:Bool->Prop) (G:Bool) (u:List Edg) (r f:Int) (S:List Bool) (O:zzB) (I:List Bool) (J:zzI) (L:List Bool) (aX bE bG Z V aP aT:Int):Prop:=aGU F (fun G u r f S O I J L aX bE bG Z V aP aT=>bPg Q G u r f S O I J L aX bE bG Z V aP aT) (fun G u r f S O I J L aX bE bG Z V aP aT=>bPf Q G u r f S O I J L aX bE bG Z V aP aT) F G u r f S O I J L aX bE bG Z V aP aT
def aDI (F:Nat) (I:List Edg->Bool->List Pce->Int->Int->List Bool->zzB->List Bool->zzI->List Bool->Int->Int->Int->Int->Int->Int->Int->Prop) (G:List Edg->Bool->List Pce->Int->Int->List Bool->zzB->List Bool->zzI->List Bool->Int->Int->Int->Int->Int->Int->Int->Prop):Nat->List Edg->Bool->List Pce->Int->Int->List Bool->zzB->List Bool->zzI->List Bool->Int->Int->Int->Int->Int->Int->Int->Prop
 |0,_,_,_,_,_,_,_,_,_,_,_,_,_,_,_,_,_=>False
 |n+1,L,J,u,r,f,bX,Z,O,S,V,aX,bE,bG,bH,bW,aP,aT=>aYl (aDI F I G n) I G L J u r f bX Z O S V aX bE bG bH bW aP aT
def aNI (F:Nat) (Q:Bool->Prop) (I:List Edg) (G:Bool) (u:List Pce) (r f:Int) (V:List Bool) (S:zzB) (J:List Bool) (L:zzI) (O:List Bool) (aX bE bG bH Z aP aT:Int):Prop:=aDI F (fun I G u r f V S J L O aX bE bG bH Z aP aT=>aYo Q I G u r f V S J L O aX bE bG bH Z aP aT) (fun I G u r f V S J L O aX bE bG bH Z aP aT=>aYn Q I G u r f V S J L O aX bE bG bH Z aP aT (aIM F Q)) F I G u r f V S J L O aX bE bG bH Z aP aT
def aQK (F:Nat) (I:List Bool) (J:zzB) (u:List Bool) (f:zzI) (r:List Bool) (z0 z1:ByteArray) (z2 z3 Z V:Int) (S O:List aA) (L:List Pce) (a2:List Edg) (qb qn G qu qv:Int) (Q:Bool->Prop):Prop:=aYm I J u f r z0 z1 z2 z3 Z V S O L a2 qb qn G qu qv Q (aNI F Q)
def bPX (x y:Int) (e:Edg):Bool:=decide ((aMG x y e.qaq e.qau e.qar e.qav)<=7200)
def uM (f:List Bool) (es:List Edg) (p x y:Int) (i:Nat):Bool:=yH f es p i&&bPX x y (es.getD i default)
def aIt (w h:Int) (cl:List aA) (ps:List Pce) (es:List Edg) (f:List Bool) (p x y:Int):Bool:=
 cond (((((decide (x<0))||(decide (w<x)))||(decide (y<0)))||(decide (h<y)))||(rH cl x y)) false (cond (ps.any fun q=>rH q.Rects x y) false ((List.range es.length).any (uM f es p x y)))
def aNu (r:aA) (x y:Int):Bool:=(((decide (r.X<x))&&(decide (x<(aB (r.X+r.W)))))&&(decide (r.Y<y)))&&(decide (y<(aB (r.Y+r.H))))
def aC1 (w h:Int) (cl:List aA) (ps:List Pce) (es:List Edg) (f:List Bool) (p k x y:Int):Bool:=cond (decide (0<=k)) (aNu ((ps.getD p.toNat default).Cuts.getD k.toNat default) x y) (aIt w h cl ps es f p x y)
def aDq (u:List Bool) (Z:zzB) (S:List Bool) (L:zzI) (O:List Bool) (z0 z1:ByteArray) (z2 z3 z4 z5:Int) (J z7:List aA) (f:List Pce) (I:List Edg) (r G V qu qv:Int):Prop:=
 (0<=r/\r<f.length)/\(0<=G->G<(f.getD r.toNat default).Cuts.length)/\J.length<=2000000/\f.length<=2000000/\(∀p∈f,p.Rects.length<=2000000)/\I.length<=2000000/\u.length=I.length
def aD6 (f:List Bool) (qae:zzB) (qai:List Bool) (Z:zzI) (qaj:List Bool) (z0 z1:ByteArray) (z2 z3 I G:Int) (u z7:List aA) (r:List Pce) (V:List Edg) (S O qah L J:Int):Bool:=aC1 I G u r V f S O L J
theorem bKk (u:List Bool) (S:zzB) (L:List Bool) (I:zzI) (J:List Bool) (z0 z1:ByteArray) (z2 z3 z4 z5:Int) (z6 z7:List aA) (Z:List Pce) (G:List Edg) (qb qn O r f:Int) (h:aDq u S L I J z0 z1 z2 z3 z4 z5 z6 z7 Z G qb qn O r f):
  ∃F,∀Q:Bool->Prop,Q (aD6 u S L I J z0 z1 z2 z3 z4 z5 z6 z7 Z G qb qn O r f)->aQK F u S L I J z0 z1 z2 z3 z4 z5 z6 z7 Z G qb qn O r f Q:=by
 obtain⟨h1,h2,h3,h4,h5,h6,h7⟩:=h;obtain⟨F,hF⟩:∃F:Nat,4000000<F:=⟨4000001,XY⟩;refine⟨F,fun Q V=>?_⟩;unfold aD6 aC1 at V;show cond _ _ _;cases hh:decide (0<=qn) with
 |true=>
  rw[hh] at V;have hh':=JC hh;exact⟨h1,⟨hh',h2 hh'⟩,V⟩
 |false=>
  rw[hh,QJ] at V;rw[QJ];refine⟨fun _=>h3,?_⟩;unfold aIt at V;show cond _ _ _;cases hb:((((decide (r<0))||(decide (z4<r)))||(decide (f<0)))||(decide (z5<f)))||(rH z6 r f) with
  |true=>
   rw[hb] at V;rw[show (((((decide (r<0))||(decide (z4<r)))||(decide (f<0)))||(decide (z5<f)))||(j9 z6 r f))=true from hb];exact V
  |false=>
   rw[hb,QJ] at V;rw[show (((((decide (r<0))||(decide (z4<r)))||(decide (f<0)))||(decide (z5<f)))||(j9 z6 r f))=false from hb,QJ];unfold aNI;refine mH Z (fun q=>rH q.Rects r f) (Q false) (Q ((List.range G.length).any (uM u G qb r f))) (fun n i=>aDI F _ _ n G false Z (Z.length:Int) i u S L I J qb qn O r f r f) (fun n i hi hx hw=>?_) (fun n hy=>?_) F XY (fun q=>by rw[q] at V;exact V) (fun q=>by rw[q] at V;exact V)
   ·show cond (decide ((i:Int)<(Z.length:Int))) _ _;rw[bN XY,QX,QV,cO hi XY];refine⟨⟨XY,XY⟩,h5 _ (fJ hi),?_⟩;show cond (rH (Z.getD i default).Rects r f) _ _;cases hb:rH (Z.getD i default).Rects r f with
    |true=>exact hx hb
    |false=>exact hw hb
   ·show cond (decide ((Z.length:Int)<(Z.length:Int))) _ _;rw[bV XY,QJ];show aIM F Q false G (G.length:Int) 0 u S L I J qb qn O r f r f;unfold aIM;refine kP G.length (uM u G qb r f) (Q true) (Q false) (fun n i=>aGU F _ _ n false G (G.length:Int) i u S L I J qb qn O r f r f) (fun n i hi hx hw=>?_) (fun n hy2=>?_) F XY (fun q=>by rw[q] at hy;exact hy) (fun q=>by rw[q] at hy;exact hy)
    ·show cond (decide ((i:Int)<(G.length:Int))) _ _;rw[bN XY,QX,QV,cO hi XY];refine⟨⟨XY,XY⟩,fun _=>⟨XY,XY⟩,?_⟩;show cond (uM u G qb r f i) _ _;cases hb:uM u G qb r f i with
     |true=>exact hx hb
     |false=>exact hw hb
    ·show cond (decide ((G.length:Int)<(G.length:Int))) _ _;rw[bV XY,QJ];exact hy2
def pF:Nat->Nat->Nat->Canon UU:=fun o b r=>cond (Nat.beq o 109000&&Nat.beq b 0) ⟨[2,3,20,21,22,1000001,1000004,1000007,1000008],[4,7,8,109002,109003],[(.cell 109003 0,109035,.bool),(.cell 109003 2,109036,.bool),(.cell 109003 3,109037,.int),(.cell 109003 4,109038,.bool),(.cell 109003 1,109039,.bools)],[],[109039]⟩ (cond (Nat.beq o 0&&Nat.beq b 3) ⟨[1,8,10,151,152],[8,10],[(.cell 10 0,181,.bool),(.cell 10 1,182,.bools),(.cell 10 2,183,.bool),(.cell 10 3,184,.int),(.cell 10 4,185,.bool)],[],[182]⟩ (cond (Nat.beq o 0&&Nat.beq b 1) ⟨[1,4,7,8,10,133,134,135],[4,7,8,10],[(.cell 10 0,181,.bool),(.cell 10 1,182,.bools),(.cell 10 2,183,.bool),(.cell 10 3,184,.int),(.cell 10 4,185,.bool)],[],[182]⟩ (⟨[],[],[],[],[]⟩)))
def aZY (y0 y1:ByteArray) (y2 y3 y4 y5:Int) (y6 y7:List aA) (I:List Pce) (Z:List Edg) (r:List Bool) (O:zzB) (J:List Bool) (S:zzI) (L:List Bool) (u G f qu qv:Int) (Q:List Bool->zzB->List Bool->zzI->List Bool->Int->Prop) (i0:zzB->Int->Int->List Edg->ByteArray->ByteArray->Int->Int->Int->Int->List aA->List aA->List Pce->Int->Int->Int->Int->Int->List Bool->List Bool->zzI->List Bool->zzB->Prop):Prop:=(let r0:=(aHK r O J S L y0 y1 y2 y3 y4 y5 y6 y7 I (Z.length:Int));((aMi r O J S L y0 y1 y2 y3 y4 y5 y6 y7 I (Z.length:Int))/\cond (((!r0)||(decide (u<0)))||(decide ((I.length:Int)<=u))) (Q ([]) ([]) ([]) ([]) ([]) 1) (cond (decide (G<(-1))) (Q ([]) ([]) ([]) ([]) ([]) 1) ((let e1:=(I.getD u.toNat default);((0<=u/\u<I.length)/\cond (decide ((e1.Cuts.length:Int)<=G)) (Q ([]) ([]) ([]) ([]) ([]) 1) (cond (decide (f<0)) (Q ([]) ([]) ([]) ([]) ([]) 1) (cond (decide (4<f)) (Q ([]) ([]) ([]) ([]) ([]) 1) (cond (decide (0<=G)) (cond (f !=0) (Q ([]) ([]) ([]) ([]) ([]) 1) ((let r2:=(sM r O J S L Z u G f qu qv);((yD r O J S L Z u G f qu qv)/\cond (!r2) (Q ([]) ([]) ([]) ([]) ([]) 12) ((let V:=(I.getD u.toNat default);(let r4:=(aHN V.Name V.Material V.Gauge V.Grain V.Rects V.Cuts V.Forms);((((decide (G<0))&&(f==0))=true->((0<=u/\u<I.length)/\aDw V.Name V.Material V.Gauge V.Grain V.Rects V.Cuts V.Forms))/\cond (((decide (G<0))&&(f==0))&&r4) (Q ([]) ([]) ([]) ([]) ([]) 15) ((let r5:=(aD6 r O J S L y0 y1 y2 y3 y4 y5 y6 y7 I Z u G f qu qv);((aDq r O J S L y0 y1 y2 y3 y4 y5 y6 y7 I Z u G f qu qv)/\cond (!r5) (Q ([]) ([]) ([]) ([]) ([]) 14) (((r.length<=2000000)/\((J.length<=2000000)/\((S.length<=2000000)/\((L.length<=2000000)/\i0 O (O.length:Int) 0 Z y0 y1 y2 y3 y4 y5 y6 y7 I u G f qu qv r J S L ([]))))))))))))))))) ((let r6:=(sM r O J S L Z u G f qu qv);((yD r O J S L Z u G f qu qv)/\cond (!r6) (Q ([]) ([]) ([]) ([]) ([]) 12) ((let e7:=(I.getD u.toNat default);(let r8:=(aHN e7.Name e7.Material e7.Gauge e7.Grain e7.Rects e7.Cuts e7.Forms);((((decide (G<0))&&(f==0))=true->((0<=u/\u<I.length)/\aDw e7.Name e7.Material e7.Gauge e7.Grain e7.Rects e7.Cuts e7.Forms))/\cond (((decide (G<0))&&(f==0))&&r8) (Q ([]) ([]) ([]) ([]) ([]) 15) ((let r9:=(aD6 r O J S L y0 y1 y2 y3 y4 y5 y6 y7 I Z u G f qu qv);((aDq r O J S L y0 y1 y2 y3 y4 y5 y6 y7 I Z u G f qu qv)/\cond (!r9) (Q ([]) ([]) ([]) ([]) ([]) 14) (((r.length<=2000000)/\((J.length<=2000000)/\((S.length<=2000000)/\((L.length<=2000000)/\i0 O (O.length:Int) 0 Z y0 y1 y2 y3 y4 y5 y6 y7 I u G f qu qv r J S L ([])))))))))))))))))))))))))
def aZX (V:zzB->Int->Int->List Edg->ByteArray->ByteArray->Int->Int->Int->Int->List aA->List aA->List Pce->Int->Int->Int->Int->Int->List Bool->List Bool->zzI->List Bool->zzB->Prop) (x0:zzB->Int->Int->List Edg->ByteArray->ByteArray->Int->Int->Int->Int->List aA->List aA->List Pce->Int->Int->Int->Int->Int->List Bool->List Bool->zzI->List Bool->zzB->Prop) (r:zzB) (u f:Int) (I:List Edg) (bX bY:ByteArray) (cD cC bZ Z:Int) (iA hU:List aA) (gG:List Pce) (aX bE bG bH bW:Int) (S O:List Bool) (L:zzI) (J:List Bool) (G:zzB):Prop:=cond (decide (f<u)) ((let e0:=(r.getD f.toNat default);((0<=f/\f<r.length)/\((e0.length<=2000000)/\(((G.length+1)*24<=140737488355328)/\V r u (aB (f+1)) I bX bY cD cC bZ Z iA hU gG aX bE bG bH bW S O L J (G++[e0])))))) (x0 r u f I bX bY cD cC bZ Z iA hU gG aX bE bG bH bW S O L J G)
def aZ0 (Q:List Bool->zzB->List Bool->zzI->List Bool->Int->Prop) (t20:zzB) (t21 t22:Int) (u:List Edg) (bX bY:ByteArray) (cD cC bZ Z:Int) (iA hU:List aA) (S:List Pce) (f J V bH bW:Int) (O I:List Bool) (G:zzI) (L:List Bool) (r:zzB) (i1:List Edg->Int->Int->List Bool->zzB->List Bool->zzI->List Bool->Prop) (i2:List Edg->List Edg->Int->Int->ByteArray->ByteArray->Int->Int->Int->Int->List aA->List aA->List Pce->Int->Int->Int->Int->Int->List Bool->zzB->List Bool->zzI->List Bool->Prop):Prop:=cond (decide (0<=J)) (((0<=f/\f<r.length)/\((0<=J/\J<(r.getD f.toNat default).length)/\i1 u (S.length:Int) 0 O (r.set f.toNat ((r.getD f.toNat default).set J.toNat true)) I G L))) (((0<=f/\f<I.length)/\((0<=f/\f<G.length)/\i2 u u (u.length:Int) 0 bX bY cD cC bZ Z iA hU S f J V bH bW O r (I.set f.toNat true) (G.set f.toNat V) L)))
def aZW (O:List Edg->Int->Int->List Bool->zzB->List Bool->zzI->List Bool->Prop) (V:List Edg->Int->Int->List Bool->zzB->List Bool->zzI->List Bool->Prop) (t1:List Edg) (r f:Int) (L:List Bool) (J:zzB) (u:List Bool) (G:zzI) (I:List Bool):Prop:=cond (decide (f<r)) ((let S:=(aBl L J u G I t1 f);((aDr L J u G I t1 f)/\((S=true->((0<=f/\f<u.length)/\((u.getD f.toNat default)=true->0<=f/\f<G.length)))/\cond (S&&(!((u.getD f.toNat default)&&(decide (0<(G.getD f.toNat default)))))) (((0<=f/\f<I.length)/\O t1 r (aB (f+1)) L J u G (I.set f.toNat true))) (O t1 r (aB (f+1)) L J u G I))))) (V t1 r f L J u G I)
def bPs (Q:List Bool->zzB->List Bool->zzI->List Bool->Int->Prop) (t1:List Edg) (r f:Int) (G:List Bool) (u:zzB) (L:List Bool) (J:zzI) (I:List Bool):Prop:=Q G u L J I 0
def aZV (G:List Edg->List Edg->Int->Int->ByteArray->ByteArray->Int->Int->Int->Int->List aA->List aA->List Pce->Int->Int->Int->Int->Int->List Bool->zzB->List Bool->zzI->List Bool->Prop) (x0:List Edg->List Edg->Int->Int->ByteArray->ByteArray->Int->Int->Int->Int->List aA->List aA->List Pce->Int->Int->Int->Int->Int->List Bool->zzB->List Bool->zzI->List Bool->Prop) (t1 r:List Edg) (u f:Int) (bX bY:ByteArray) (cD cC bZ L:Int) (O S:List aA) (V:List Pce) (J bE bG bH bW:Int) (I:List Bool) (Z:zzB) (fR:List Bool) (fU:zzI) (gC:List Bool):Prop:=cond (decide (f<u)) ((let e0:=(r.getD f.toNat default);((0<=f/\f<r.length)/\(let r1:=(aBv e0.qaq e0.qau e0.qar e0.qav e0.A e0.B J);cond r1 (((0<=f/\f<I.length)/\G t1 r u (aB (f+1)) bX bY cD cC bZ L O S V J bE bG bH bW (I.set f.toNat true) Z fR fU gC)) (G t1 r u (aB (f+1)) bX bY cD cC bZ L O S V J bE bG bH bW I Z fR fU gC))))) (x0 t1 r u f bX bY cD cC bZ L O S V J bE bG bH bW I Z fR fU gC)
def aZZ (Q:List Bool->zzB->List Bool->zzI->List Bool->Int->Prop) (t1 u:List Edg) (r f:Int) (bX bY:ByteArray) (cD cC bZ Z:Int) (iA hU:List aA) (I:List Pce) (aX bE bG bH bW:Int) (L:List Bool) (J:zzB) (V:List Bool) (S:zzI) (O:List Bool) (G:List Edg->Int->Int->List Bool->zzB->List Bool->zzI->List Bool->Prop):Prop:=G t1 (I.length:Int) 0 L J V S O
def aG4 (F:Nat) (u:List Edg->Int->Int->List Bool->zzB->List Bool->zzI->List Bool->Prop):Nat->List Edg->Int->Int->List Bool->zzB->List Bool->zzI->List Bool->Prop
 |0,_,_,_,_,_,_,_,_=>False
 |n+1,G,r,f,J,I,S,O,L=>aZW (aG4 F u n) u G r f J I S O L
def aEK (F:Nat) (Q:List Bool->zzB->List Bool->zzI->List Bool->Int->Prop) (t1:List Edg) (r f:Int) (G:List Bool) (u:zzB) (L:List Bool) (J:zzI) (I:List Bool):Prop:=aG4 F (fun t1 r f G u L J I=>bPs Q t1 r f G u L J I) F t1 r f G u L J I
def aDO (F:Nat) (G:List Edg->List Edg->Int->Int->ByteArray->ByteArray->Int->Int->Int->Int->List aA->List aA->List Pce->Int->Int->Int->Int->Int->List Bool->zzB->List Bool->zzI->List Bool->Prop):Nat->List Edg->List Edg->Int->Int->ByteArray->ByteArray->Int->Int->Int->Int->List aA->List aA->List Pce->Int->Int->Int->Int->Int->List Bool->zzB->List Bool->zzI->List Bool->Prop
 |0,_,_,_,_,_,_,_,_,_,_,_,_,_,_,_,_,_,_,_,_,_,_,_=>False
 |n+1,I,u,r,f,bX,bY,cD,cC,bZ,J,L,O,S,aX,bE,bG,bH,bW,Z,V,fR,fU,gC=>aZV (aDO F G n) G I u r f bX bY cD cC bZ J L O S aX bE bG bH bW Z V fR fU gC
def aIR (F:Nat) (Q:List Bool->zzB->List Bool->zzI->List Bool->Int->Prop) (t1 u:List Edg) (r f:Int) (bX bY:ByteArray) (cD cC bZ G:Int) (I J:List aA) (L:List Pce) (aX bE bG bH bW:Int) (S:List Bool) (O:zzB) (fR:List Bool) (Z:zzI) (V:List Bool):Prop:=aDO F (fun t1 u r f bX bY cD cC bZ G I J L aX bE bG bH bW S O fR Z V=>aZZ Q t1 u r f bX bY cD cC bZ G I J L aX bE bG bH bW S O fR Z V (aEK F Q)) F t1 u r f bX bY cD cC bZ G I J L aX bE bG bH bW S O fR Z V
def aDP (F:Nat) (V:zzB->Int->Int->List Edg->ByteArray->ByteArray->Int->Int->Int->Int->List aA->List aA->List Pce->Int->Int->Int->Int->Int->List Bool->List Bool->zzI->List Bool->zzB->Prop):Nat->zzB->Int->Int->List Edg->ByteArray->ByteArray->Int->Int->Int->Int->List aA->List aA->List Pce->Int->Int->Int->Int->Int->List Bool->List Bool->zzI->List Bool->zzB->Prop
 |0,_,_,_,_,_,_,_,_,_,_,_,_,_,_,_,_,_,_,_,_,_,_,_=>False
 |n+1,u,r,f,G,bX,bY,cD,cC,bZ,Z,iA,hU,gG,aX,bE,bG,bH,bW,S,O,L,J,I=>aZX (aDP F V n) V u r f G bX bY cD cC bZ Z iA hU gG aX bE bG bH bW S O L J I
def aEL (F:Nat) (Q:List Bool->zzB->List Bool->zzI->List Bool->Int->Prop) (u:zzB) (r f:Int) (G:List Edg) (bX bY:ByteArray) (cD cC bZ V:Int) (Z hU:List aA) (gG:List Pce) (aX bE bG bH bW:Int) (S O:List Bool) (L:zzI) (J:List Bool) (I:zzB):Prop:=aDP F (fun u r f G bX bY cD cC bZ V Z hU gG aX bE bG bH bW S O L J I=>aZ0 Q u r f G bX bY cD cC bZ V Z hU gG aX bE bG bH bW S O L J I (aEK F Q) (aIR F Q)) F u r f G bX bY cD cC bZ V Z hU gG aX bE bG bH bW S O L J I
def aQT (F:Nat) (Z V:ByteArray) (S O L J:Int) (I G:List aA) (u:List Pce) (a1:List Edg) (r:List Bool) (qo:zzB) (qt:List Bool) (qm:zzI) (qq:List Bool) (qb qn f qu qv:Int) (Q:List Bool->zzB->List Bool->zzI->List Bool->Int->Prop):Prop:=aZY Z V S O L J I G u a1 r qo qt qm qq qb qn f qu qv Q (aEL F Q)
end
end Go.Proofs.YtjjbojomlfgjlaaGreatDoor
