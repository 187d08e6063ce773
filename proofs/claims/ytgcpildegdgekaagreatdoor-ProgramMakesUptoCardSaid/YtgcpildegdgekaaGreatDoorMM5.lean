/- Lemmas, walks and laws of this proof, part 5. Conditions: those that each names. -/
import Derived.Test.YtgcpildegdgekaaGreatDoorMM4
import Derived.Shelf.Small.Bits
import Derived.Shelf.Small.Wraps
import Derived.Ground.Names2Prog
import Derived.Shelf.Slices.Clone
import Derived.Shelf.Slices.CompactI
import Derived.Ground.SlsfProg
import Derived.Shelf.SlSortCmp.NoneTotal
import Derived.Test.YtgcpildegdgekaaGreatDoorProg
import Derived.Lib.OwnBridge
set_option maxRecDepth 100000
set_option linter.unusedVariables false
namespace Go.Proofs.YtgcpildegdgekaaGreatDoor
open Go.Proofs.Tryz
open Go.RowKit Go.Vm
noncomputable section
def ovP (a b:aA):Bool:=Kv a.X a.Y a.W a.H b.X b.Y b.W b.H
def nZ (R:List aA):Int×Int:=R.foldl (fun m r=>(mi m.1 r.X,mi m.2 r.Y)) ((R.getD 0 default).X,(R.getD 0 default).Y)
def Au (nm mt:ByteArray) (g gr:Int) (R C M:List aA):Int:=
 cond ((!(vn nm))||(!(vn mt))) 2 (cond (!(Ab g gr)) 1 (cond (((decide (12<(R.length:Int)))||(decide (12<(C.length:Int))))||(decide (12<(M.length:Int)))) 4
  (cond (((((R.length:Int)==0)||(!(kF R)))||(!(kF C)))||(!(kF M))) 1 (cond (((nZ R).1 !=0)||((nZ R).2 !=0)) 1
   (cond ((List.range R.length).any fun i=>(R.take i).any (ovP (R.getD i default))) 7 (cond (!(rM R)) 6 (Oc R C (C++M))))))))
def Uw (nm mt:ByteArray) (g gr:Int) (R C M:List aA):Prop:=True
def Ks (nm mt:ByteArray) (g gr:Int) (R C M:List aA):Int:=Au nm mt g gr R C M
theorem aR5 (S O:ByteArray) (L J:Int) (f G I:List aA) (h:Uw S O L J f G I):
  ∃F,∀Q:Int->Prop,Q (Ks S O L J f G I)->pw F S O L J f G I Q:=by
 refine⟨60,fun Q u=>?_⟩;unfold Ks Au at u;unfold pw ic;cases h1:((!(vn S))||(!(vn O)))
 ·rw[h1] at u;simp only[QK] at u ⊢;cases h2:!(Ab L J)
  ·rw[h2] at u;simp only[QK] at u ⊢;cases h3:(((decide (12<(f.length:Int)))||(decide (12<(G.length:Int))))||(decide (12<(I.length:Int))))
   ·rw[h3] at u;simp only[QK] at u ⊢;simp only[JG,JS] at h3;have l1:f.length<=12:=KI;have l2:G.length<=12:=KI;have l3:I.length<=12:=KI;refine⟨⟨fun _=>show _<=2000000 by omega,fun _=>show _<=2000000 by omega,fun _=>show _<=2000000 by omega⟩,?_⟩;cases h4:(((((f.length:Int)==0)||(!(kF f)))||(!(kF G)))||(!(kF I)))
    ·rw[h4] at u;simp only[QK] at u ⊢;have hpos:0<f.length:=by
      simp only[JG,JL] at h4;omega
     refine⟨⟨KI,KI⟩,⟨KI,KI⟩,?_⟩;unfold W9;unfold nZ at u;refine jl f (fun (m:Int×Int) r=>(mi m.1 r.X,mi m.2 r.Y)) (fun m=>ie Q (Wo 60 Q) m.1 m.2 f f.length f.length S O L J f G I) (fun n i m=>Kh 60 _ n m.1 m.2 f f.length i _ _ _ _ _ _ _) (fun n i m hi hw=>?_) (fun n m hq=>?_) 60 0 ((f.getD 0 default).X,(f.getD 0 default).Y) KI KI ?_
     ·show cond (decide ((i:Int)<(f.length:Int))) _ _;rw[dD KI,QY];refine⟨⟨KI,KI⟩,?_⟩;rw[QZ,dX hi KI];exact hw
     ·show cond (decide ((f.length:Int)<(f.length:Int))) _ _;rw[dB KI,QK];exact hq
     ·rw[List.drop_zero];generalize f.foldl (fun (m:Int×Int) r=>(mi m.1 r.X,mi m.2 r.Y)) ((f.getD 0 default).X,(f.getD 0 default).Y)=m at u ⊢;show cond ((m.1 !=0)||(m.2 !=0)) _ _;cases h5:((m.1 !=0)||(m.2 !=0))
      ·rw[h5] at u;simp only[QK] at u ⊢;unfold Wo;refine sQ f.length (fun i=>(f.take i).any (ovP (f.getD i default))) (Q 7) (cond (!(rM f)) (Q 6) (Q (Oc f G (G++I)))) (fun n i=>Es 60 _ _ n f f.length i S O L J f G I) (fun n i hi hx hw=>?_) (fun n V=>?_) 60 KI (fun q=>?_) (fun q=>?_)
       ·show cond (decide ((i:Int)<(f.length:Int))) _ _;rw[dD KI,QY];refine⟨⟨KI,KI⟩,⟨KI,KI⟩,?_⟩;rw[QZ];unfold W8;refine aIX (f.take i) (ovP (f.getD i default)) (by simp;omega) (fun m j=>Sm 60 _ _ m f f.length i (f.take i) ((f.take i).length:Int) j _ _ _ _ _ _ _ _ _ _ _) (fun _=>Q 7) (fun _=>Es 60 _ _ n f f.length (aB ((i:Int)+1)) S O L J f G I) (fun m j=>rfl) 60 (by simp;omega) (fun q j=>hx q) (fun q=>?_);rw[dX hi KI];exact hw q
       ·show cond (decide ((f.length:Int)<(f.length:Int))) _ _;rw[dB KI,QK];refine⟨⟨KI,KI⟩,?_⟩;cases Z:!(rM f)
        ·rw[Z] at V;exact⟨⟨KI,KI,KI⟩,V⟩
        ·rw[Z] at V;exact V
       ·rw[q] at u;exact u
       ·rw[q,QK] at u;cases Z:!(rM f)<;>rw[Z] at u<;>exact u
      ·rw[h5] at u;exact u
    ·rw[h4] at u;exact u
   ·rw[h3] at u;exact u
  ·rw[h2] at u;exact u
 ·rw[h1] at u;exact u
def Dg:CnT:=cnL [(0,⟨[1,2,10,11,12],[1],[],[],[]⟩),(2,⟨[1,5,6,37,38,39],[1],[],[],[]⟩)]
abbrev Cx:=Int->List aA->Int->Int->ByteArray->ByteArray->Int->Int->List aA->List aA->List aA->Prop
def aFh (L J:ByteArray) (I G:Int) (f u j:List aA) (Q:Int->Prop) (O:Cx):Prop:=O 0 f (f.length:Int) 0 L J I G f u j
def aFg (Z x0 x1:Cx):K4:=fun t2 j u f G I J L V O S=>cond (decide (f<u)) ((let e0:=(j.getD f.toNat default);((0<=f/\f<j.length)/\cond (!(lF e0.X e0.Y e0.W e0.H)) (x0 1 j u f G I J L V O S) (Z t2 j u (aB (f+1)) G I J L V O S)))) (x1 t2 j u f G I J L V O S)
def aFj (Q:Int->Prop):K4:=fun f G u j I J L O Z S V=>Q f
abbrev Cw:=Int->Int->List aA->Int->Int->ByteArray->ByteArray->Int->Int->List aA->List aA->List aA->Prop
def aFi (Q:Int->Prop) (S:Cw):K4:=fun t2 t10 t11 Z j u G I f J L=>cond ((f.length:Int)==0) ((let O:=(Ks j u G I f J L);((Uw j u G I f J L)/\Q O))) ((let e1:=(f.getD 0 default);((0<=(0:Int)/\(0:Int)<f.length)/\(let V:=(f.getD 0 default);((0<=(0:Int)/\(0:Int)<f.length)/\S e1.X V.Y f (f.length:Int) 0 j u G I f J L)))))
def aFf (G x0:Cw):Da:=fun J I j u f L O S V aF Z aV=>cond (decide (f<u)) ((let e0:=(j.getD f.toNat default);((0<=f/\f<j.length)/\G (mi J e0.X) (mi I e0.Y) j u (aB (f+1)) L O S V aF Z aV))) (x0 J I j u f L O S V aF Z aV)
def Sc (F:Nat) (f:Cw):Nat->Cw
 |0=>fun _ _ _ _ _ _ _ _ _ _ _ _=>False
 |n+1=>aFf (Sc F f n) f
def V6 (F:Nat) (Q:Int->Prop):Cw:=Sc F (fun j f _ _ _ J L O S I u G=>((Lv I j f)/\((Lv u j f)/\((Lv G j f)/\(let V:=(Ks J L O S (xR I j f) (xR u j f) (xR G j f));((Uw J L O S (xR I j f) (xR u j f) (xR G j f))/\Q V)))))) F
def Jw (F:Nat) (j f:Cx):Nat->Cx
 |0=>fun _ _ _ _ _ _ _ _ _ _ _=>False
 |n+1=>aFg (Jw F j f n) j f
def Wf (F:Nat) (Q:Int->Prop):Cx:=Jw F (aFj Q) (aFi Q (V6 F Q)) F
def aKu (F:Nat) (J I:ByteArray) (G u:Int) (L j f:List aA) (Q:Int->Prop):Prop:=aFh J I G u L j f Q (Wf F Q)
def mvS (nm mt:ByteArray) (g gr:Int) (R C M:List aA):Int:=
 cond (!(R.all iV)) 1 (cond ((R.length:Int)==0) (Au nm mt g gr R C M) (Au nm mt g gr (R.map (oW (nZ R).1 (nZ R).2)) (C.map (oW (nZ R).1 (nZ R).2)) (M.map (oW (nZ R).1 (nZ R).2))))
def R5 (nm mt:ByteArray) (g gr:Int) (R C M:List aA):Prop:=R.length<=2000000/\C.length<=2000000/\M.length<=2000000
def Fa (nm mt:ByteArray) (g gr:Int) (R C M:List aA):Int:=mvS nm mt g gr R C M
theorem aRT (S O:ByteArray) (L J:Int) (f I G:List aA) (h:R5 S O L J f I G):
  ∃F,∀Q:Int->Prop,Q (Fa S O L J f I G)->aKu F S O L J f I G Q:=by
 obtain⟨Z,h2,h3⟩:=h;refine⟨f.length+1,fun Q u=>?_⟩;unfold Fa mvS at u;show Wf (f.length+1) Q 0 f (f.length:Int) 0 S O L J f I G;unfold Wf;refine Ia f iV Z (fun n i=>Jw (f.length+1) _ _ n 0 f f.length i S O L J f I G) _ _ (fun n i=>rfl) (f.length+1) KI (fun q j=>?_) (fun q=>?_)
 ·rw[q] at u;exact u
 ·rw[q] at u;change Q (cond ((f.length:Int)==0) _ _) at u;show cond ((f.length:Int)==0) _ _;cases V:((f.length:Int)==0)
  ·rw[V] at u;simp only[QK] at u ⊢;have hpos:0<f.length:=by
    simp only[JL] at V;omega
   refine⟨⟨KI,KI⟩,⟨KI,KI⟩,?_⟩;unfold V6;unfold nZ at u;refine jl f (fun (m:Int×Int) r=>(mi m.1 r.X,mi m.2 r.Y)) (fun m=>Q (Au S O L J (f.map (oW m.1 m.2)) (I.map (oW m.1 m.2)) (G.map (oW m.1 m.2)))) (fun n i m=>Sc (f.length+1) _ n m.1 m.2 f f.length i S O L J f I G) (fun n i m hi hw=>?_) (fun n m hq=>?_) (f.length+1) 0 ((f.getD 0 default).X,(f.getD 0 default).Y) KI KI u
   ·show cond (decide ((i:Int)<(f.length:Int))) _ _;rw[dD KI,QY];refine⟨⟨KI,KI⟩,?_⟩;rw[QZ,dX hi KI];exact hw
   ·show cond (decide ((f.length:Int)<(f.length:Int))) _ _;rw[dB KI,QK];exact⟨Z,h2,h3,trivial,hq⟩
  ·rw[V] at u;exact⟨trivial,u⟩
def pZ:CnT:=cnL [(0,⟨[1,2,29,30,31],[1],[],[],[]⟩),(2,⟨[1,2,7,49,50,51],[1,7],[],[],[]⟩),(4,⟨[1,2,7,49,50,51,56,57,58],[1,7],[],[],[]⟩),(6,⟨[1,2,83,84,85],[1],[],[],[]⟩),(8,⟨[1,2,13,83,84,85,93,94,95],[1,13],[],[],[]⟩),(10,⟨[1,2,13,15,83,84,85,93,94,95,100,101,102],[1,13,15],[],[],[]⟩)]
abbrev oZ:=Int->List Pce->Int->Int->ByteArray->ByteArray->Int->Int->Int->Int->List aA->List aA->List Pce->Prop
def ft (y0 y1:ByteArray) (y2 y3 y4 y5:Int) (y6 y7:List aA) (y8:List Pce) (Q:Int->Prop) (j:oZ):Prop:=(let f:=(jX y0 y1 y2 y3 y4 y5 y6 y7);cond (f !=0) (Q f) (cond (decide (8<(y8.length:Int))) (Q 4) (j 0 y8 (y8.length:Int) 0 y0 y1 y2 y3 y4 y5 y6 y7 y8)))
def aFL (rec x0 x1:oZ):oZ:=fun t2 j u f J L O S aF V Z G I=>cond (decide (f<u)) ((let e0:=(j.getD f.toNat default);((0<=f/\f<j.length)/\(let r1:=(Fa e0.Name e0.Material e0.Gauge e0.Grain e0.Rects e0.Cuts e0.Forms);((R5 e0.Name e0.Material e0.Gauge e0.Grain e0.Rects e0.Cuts e0.Forms)/\cond (r1 !=0) (x0 r1 j u f J L O S aF V Z G I) (rec t2 j u (aB (f+1)) J L O S aF V Z G I)))))) (x1 t2 j u f J L O S aF V Z G I)
def fw (Q:Int->Prop):oZ:=fun f G u j L O S V aF Z aV I J=>Q f
abbrev zS:=Int->List Pce->Int->Int->ByteArray->ByteArray->Int->Int->Int->Int->List aA->List aA->List Pce->Int->Int->Int->Int->Prop
def fu (Q:Int->Prop) (I:zS):oZ:=fun G t29 t30 t31 L O S V u j Z J f=>I G f (f.length:Int) 0 L O S V u j Z J f 0 0 u j
abbrev Cu:=Int->List Pce->Int->Int->List aA->Int->Int->ByteArray->ByteArray->Int->Int->Int->Int->List aA->List aA->List Pce->Int->Int->Int->Int->Prop
def aFK (rec x0 x1:zS) (i2:Cu):zS:=fun G j u f Z aZ aY aX aF aW aV S V O L J I=>cond (decide (f<u)) ((let e0:=(j.getD f.toNat default);((0<=f/\f<j.length)/\i2 G j u f e0.Rects (e0.Rects.length:Int) 0 Z aZ aY aX aF aW aV S V O L J I))) (x0 G j u f Z aZ aY aX aF aW aV S V O L J I)
def Yl (Q:Int->Prop) (u:oZ):zS:=fun j t49 t50 t51 I J L O Z S V G f cK cP cZ dA=>u j f (f.length:Int) 0 I J L O Z S V G f
def Yk (Q:Int->Prop):zS:=fun f G u j Z aZ aY aX aF aW aV S V O L J I=>Q f
def aFJ (rec x0 x1:Cu):Cu:=fun t2 J I G j u f bA aZ aY aX aF aW L O bR cK Z V S=>cond (decide (f<u)) ((let e0:=(j.getD f.toNat default);((0<=f/\f<j.length)/\(let r1:=(tR e0.X e0.Y e0.W e0.H cK Z V S);((((!r1)=false->Fy e0.X e0.Y e0.W e0.H L)/\(((!r1)||(tS e0.X e0.Y e0.W e0.H L))=false->Fy e0.X e0.Y e0.W e0.H O))/\cond (((!r1)||(tS e0.X e0.Y e0.W e0.H L))||(tS e0.X e0.Y e0.W e0.H O)) (x0 13 J I G j u f bA aZ aY aX aF aW L O bR cK Z V S) (rec t2 J I G j u (aB (f+1)) bA aZ aY aX aF aW L O bR cK Z V S)))))) (x1 t2 J I G j u f bA aZ aY aX aF aW L O bR cK Z V S)
abbrev zR:=Int->List Pce->Int->Int->List Pce->Int->Int->ByteArray->ByteArray->Int->Int->Int->Int->List aA->List aA->List Pce->ByteArray->ByteArray->Int->Int->List aA->List aA->List aA->Prop
def aFI (rec x0 x1:oZ) (i4:zR):oZ:=fun I j u f L O S V aF Z aV J G=>cond (decide (f<u)) ((let e0:=(j.getD f.toNat default);((0<=f/\f<j.length)/\((0<=f/\f<=G.length)/\i4 I j u f (G.take f.toNat) ((G.take f.toNat).length:Int) 0 L O S V aF Z aV J G e0.Name e0.Material e0.Gauge e0.Grain e0.Rects e0.Cuts e0.Forms)))) (x0 I j u f L O S V aF Z aV J G)
abbrev Ct:=Int->List Pce->Int->Int->List Pce->Int->Int->List aA->Int->Int->ByteArray->ByteArray->Int->Int->Int->Int->List aA->List aA->List Pce->ByteArray->ByteArray->Int->Int->List aA->List aA->List aA->ByteArray->ByteArray->Int->Int->List aA->List aA->List aA->Prop
def aFH (rec x0 x1:zR) (i5:Ct):zR:=fun O J I G j u f bA aZ aY aX aF aW aV bV bR Z iL gX gW L S V=>cond (decide (f<u)) ((let e0:=(j.getD f.toNat default);((0<=f/\f<j.length)/\i5 O J I G j u f L (L.length:Int) 0 bA aZ aY aX aF aW aV bV bR Z iL gX gW L S V e0.Name e0.Material e0.Gauge e0.Grain e0.Rects e0.Cuts e0.Forms))) (x0 O J I G j u f bA aZ aY aX aF aW aV bV bR Z iL gX gW L S V)
def aFG (rec x0 x1:Ct):Ct:=fun t2 S O L J I G j u f bA aZ aY aX aF aW aV bV bR iM iL gX gW oE V Z Qb Qa Pz Py Cb Px Pw=>cond (decide (f<u)) ((let e0:=(j.getD f.toNat default);((0<=f/\f<j.length)/\((Fy e0.X e0.Y e0.W e0.H Cb)/\cond (tS e0.X e0.Y e0.W e0.H Cb) (x0 7 S O L J I G j u f bA aZ aY aX aF aW aV bV bR iM iL gX gW oE V Z Qb Qa Pz Py Cb Px Pw) (rec t2 S O L J I G j u (aB (f+1)) bA aZ aY aX aF aW aV bV bR iM iL gX gW oE V Z Qb Qa Pz Py Cb Px Pw))))) (x1 t2 S O L J I G j u f bA aZ aY aX aF aW aV bV bR iM iL gX gW oE V Z Qb Qa Pz Py Cb Px Pw)
def Rs (F:Nat) (j f:Cu):Nat->Cu
 |0=>fun _ _ _ _ _ _ _ _ _ _ _ _ _ _ _ _ _ _ _ _=>False
 |n+1=>aFJ (Rs F j f n) j f
def U8 (F:Nat) (rec x0 x1:zS):Cu:=Rs F (fun G u j f _ _ _ Z aZ aY aX aF aW aV S V O L J I=>x1 G u j f Z aZ aY aX aF aW aV S V O L J I) (fun G u j f _ _ _ Z aZ aY aX aF aW aV S V O L J I=>rec G u j (aB (f+1)) Z aZ aY aX aF aW aV S V O L J I) F
def Rr (F:Nat) (j f:Ct):Nat->Ct
 |0=>fun _ _ _ _ _ _ _ _ _ _ _ _ _ _ _ _ _ _ _ _ _ _ _ _ _ _ _ _ _ _ _ _ _=>False
 |n+1=>aFG (Rr F j f n) j f
def U6 (F:Nat) (rec x0 x1:zR):Ct:=Rr F (fun L J I G u j f _ _ _ bA aZ aY aX aF aW aV bV bR Z iL gX gW V O S _ _ _ _ _ _ _=>x1 L J I G u j f bA aZ aY aX aF aW aV bV bR Z iL gX gW V O S) (fun L J I G u j f _ _ _ bA aZ aY aX aF aW aV bV bR Z iL gX gW V O S _ _ _ _ _ _ _=>rec L J I G u j (aB (f+1)) bA aZ aY aX aF aW aV bV bR Z iL gX gW V O S) F
def El (F:Nat) (j f:zR):Nat->zR
 |0=>fun _ _ _ _ _ _ _ _ _ _ _ _ _ _ _ _ _ _ _ _ _ _ _=>False
 |n+1=>aFH (El F j f n) j f (U6 F (El F j f n) j f)
def U7 (F:Nat) (rec x0 x1:oZ):zR:=El F (fun G u j f _ _ _ L O S V aF Z aV I J _ _ _ _ _ _ _=>rec G u j (aB (f+1)) L O S V aF Z aV I J) (fun G u j f _ _ _ L O S V aF Z aV I J _ _ _ _ _ _ _=>x1 G u j f L O S V aF Z aV I J) F
def Em (F:Nat) (j f:oZ):Nat->oZ
 |0=>fun _ _ _ _ _ _ _ _ _ _ _ _ _=>False
 |n+1=>aFI (Em F j f n) j f (U7 F (Em F j f n) j f)
def yS (F:Nat) (Q:Int->Prop):oZ:=Em F (fun _ _ _ _ _ _ _ _ _ _ _ _ _=>Q 0) (fun f _ _ _ _ _ _ _ _ _ _ _ _=>Q f) F
def o6 (F:Nat) (j f:zS):Nat->zS
 |0=>fun _ _ _ _ _ _ _ _ _ _ _ _ _ _ _ _ _=>False
 |n+1=>aFK (o6 F j f n) j f (U8 F (o6 F j f n) j f)
def Gg (F:Nat) (Q:Int->Prop):zS:=o6 F (Yl Q (yS F Q)) (Yk Q) F
def Jp (F:Nat) (j f:oZ):Nat->oZ
 |0=>fun _ _ _ _ _ _ _ _ _ _ _ _ _=>False
 |n+1=>aFL (Jp F j f n) j f
def U9 (F:Nat) (Q:Int->Prop):oZ:=Jp F (fw Q) (fu Q (Gg F Q)) F
def po (F:Nat) (y0 y1:ByteArray) (y2 y3 y4 y5:Int) (y6 y7:List aA) (y8:List Pce) (Q:Int->Prop):Prop:=ft y0 y1 y2 y3 y4 y5 y6 y7 y8 Q (U9 F Q)
def zD {α:Type} (f:α->Int):List α->Int
 |[]=>0
 |x::l=>cond (f x !=0) (f x) (zD f l)
theorem aWi {α:Type} [Inhabited α] (l:List α) (f:α->Int) (X:Int->Prop) (Y:Prop) (W:Nat->Int->Prop)
  (J:∀n (i:Nat),i<l.length->((f (l.getD i default) !=0)=true->X (f (l.getD i default)))->((f (l.getD i default) !=0)=false->W n ((i+1:Nat):Int))->W (n+1) i)
  (u:∀n,Y->W (n+1) l.length):∀(n i:Nat),i<=l.length->l.length<n+i->((zD f (l.drop i) !=0)=true->X (zD f (l.drop i)))->((zD f (l.drop i) !=0)=false->Y)->W n i:=by
 intro n
 induction n with
 |zero=>omega
 |succ n I=>
  intro i O L G j
  by_cases h:i<l.length
  ·rw[nR l i h] at G j;grind [zD]
  ·obtain rfl:i=l.length:=KI;refine u n (j ?_);rw[KK];rfl
theorem mn {α:Type} [Inhabited α] (l:List α) (p:α->Bool):((List.range l.length).any fun i=>p (l.getD i default))=l.any p:=by
 rw[Bool.eq_iff_iff,KV,KV];constructor
 ·grind
 ·rintro ⟨x,f,hp⟩
  obtain⟨i,hi,rfl⟩:=List.mem_iff_getElem.1 f;refine⟨i,JH.2 hi,?_⟩;grind
theorem uB {α:Type} [Inhabited α] (l:List α) (p:α->Bool) (X Y:Prop) (W:Nat->Int->Prop) (j:∀n (i:Nat),i<l.length->(p (l.getD i default)=true->X)->(p (l.getD i default)=false->W n ((i+1:Nat):Int))->W (n+1) i)
  (f:∀n,Y->W (n+1) l.length) (n:Nat) (u:l.length<n) (I:l.any p=true->X) (G:l.any p=false->Y):W n 0:=
 sQ l.length (fun i=>p (l.getD i default)) X Y W j f n u (by grind) (by rw[mn];exact G)
theorem aLl {α:Type} [Inhabited α] (l:List α) (i j:Nat) (h:j<i):(l.take i).getD j default=l.getD j default:=by
 grind
theorem eF {α:Type} [Inhabited α] {l:List α} {j:Nat} (h:j<l.length):l.getD j default∈l:=by
 grind
def Xh (e:Int) (ps:List Pce) (f:Pce->Int) (bad:aA->Bool) (mt:aA->List aA->Bool):Int:=
 cond (e !=0) e (cond (decide (8<(ps.length:Int))) 4 (cond (zD f ps !=0) (zD f ps) (cond (ps.any fun p=>p.Rects.any bad) 13
  (cond ((List.range ps.length).any fun i=>(List.range i).any fun j=>(ps.getD i default).Rects.any fun r=>mt r (ps.getD j default).Rects) 7 0))))
def mtP (r:aA) (l:List aA):Bool:=tS r.X r.Y r.W r.H l
def uQ (w h:Int) (cl us:List aA) (r:aA):Bool:=((!(tR r.X r.Y r.W r.H 0 0 w h))||mtP r cl)||mtP r us
def Ga (p:Pce):Int:=Fa p.Name p.Material p.Gauge p.Grain p.Rects p.Cuts p.Forms
def Kx (ps:List Pce):Prop:=∀p∈ps,p.Rects.length<=2000000/\p.Cuts.length<=2000000/\p.Forms.length<=2000000
def Lq (nm mt:ByteArray) (g gr w h:Int) (cl us:List aA) (ps:List Pce):Prop:=cl.length<=2000000/\us.length<=2000000/\Kx ps
def jK (nm mt:ByteArray) (g gr w h:Int) (cl us:List aA) (ps:List Pce):Int:=Xh (jX nm mt g gr w h cl us) ps Ga (uQ w h cl us) mtP
section
variable {F:Nat} {Q:Int->Prop} (nm mt:ByteArray) (g gr w h:Int) (cl us:List aA) (ps:List Pce) (hF:2000000<F) (h8:ps.length<=8) (h6:cl.length<=2000000) (h7:us.length<=2000000) (hp:Kx ps)
include hF h8 hp
theorem cv3 (hX:((List.range ps.length).any fun i=>(List.range i).any fun j=>(ps.getD i default).Rects.any fun r=>mtP r (ps.getD j default).Rects)=true->Q 7)
  (Z:((List.range ps.length).any fun i=>(List.range i).any fun j=>(ps.getD i default).Rects.any fun r=>mtP r (ps.getD j default).Rects)=false->Q 0):yS F Q 0 ps ps.length 0 nm mt g gr w h cl us ps:=by
 unfold yS;refine sQ ps.length (fun i=>(List.range i).any fun j=>(ps.getD i default).Rects.any fun r=>mtP r (ps.getD j default).Rects) (Q 7) (Q 0) (fun n i=>Em F _ _ n 0 ps ps.length i nm mt g gr w h cl us ps) (fun n i hi S hw=>?_) (fun n I=>?_) F KI hX Z
 ·show cond (decide ((i:Int)<(ps.length:Int))) _ _;rw[dD KI,QY];refine⟨⟨KI,KI⟩,⟨KI,KI⟩,?_⟩;rw[QZ];have f:(ps.take i).length=i:=by grind
  rw[f];unfold U7;refine sQ i (fun j=>(ps.getD i default).Rects.any fun r=>mtP r (ps.getD j default).Rects) (Q 7) (Em F (fun _ _ _ _ _ _ _ _ _ _ _ _ _=>Q 0) (fun O _ _ _ _ _ _ _ _ _ _ _ _=>Q O) n 0 ps ps.length ((i+1:Nat):Int) nm mt g gr w h cl us ps) (fun m j=>El F _ _ m 0 ps ps.length i (ps.take i) i j nm mt g gr w h cl us ps _ _ _ _ _ _ _) (fun m j V u G=>?_) (fun m I=>?_) F KI S hw
  ·show cond (decide ((j:Int)<(i:Int))) _ _;rw[dD KI,QY];refine⟨⟨KI,KI⟩,?_⟩;rw[QZ,aLl ps i j V];unfold U6;have hR:=(hp _ (eF hi)).1;refine uB (ps.getD i default).Rects (fun r=>mtP r (ps.getD j default).Rects) (Q 7) (El F _ _ m 0 ps ps.length i (ps.take i) i ((j+1:Nat):Int) nm mt g gr w h cl us ps _ _ _ _ _ _ _) (fun k q=>Rr F _ _ k 0 ps ps.length i (ps.take i) i j (ps.getD i default).Rects (ps.getD i default).Rects.length q nm mt g gr w h cl us ps _ _ _ _ _ _ _ _ _ _ _ _ _ _) (fun k q hq J L=>?_) (fun k I=>?_) F KI u G
   ·show cond (decide ((q:Int)<((ps.getD i default).Rects.length:Int))) _ _;rw[dD KI,QY];refine⟨⟨KI,KI⟩,show (ps.getD j default).Rects.length<=2000000 from (hp _ (eF KI)).1,?_⟩;grind [dX,mtP]
   ·show cond (decide (((ps.getD i default).Rects.length:Int)<((ps.getD i default).Rects.length:Int))) _ _;grind [dX]
  ·show cond (decide ((i:Int)<(i:Int))) _ _;grind [dX]
 ·show cond (decide ((ps.length:Int)<(ps.length:Int))) _ _;grind
include h6 h7
theorem cv1 (L:(ps.any fun p=>p.Rects.any (uQ w h cl us))=true->Q 13) (J:(ps.any fun p=>p.Rects.any (uQ w h cl us))=false->yS F Q 0 ps ps.length 0 nm mt g gr w h cl us ps):
  Gg F Q 0 ps ps.length 0 nm mt g gr w h cl us ps 0 0 w h:=by
 unfold Gg;refine uB ps (fun p=>p.Rects.any (uQ w h cl us)) (Q 13) (yS F Q 0 ps ps.length 0 nm mt g gr w h cl us ps) (fun n i=>o6 F (Yl Q (yS F Q)) (Yk Q) n 0 ps ps.length i nm mt g gr w h cl us ps 0 0 w h) (fun n i hi G hw=>?_) (fun n u=>?_) F KI L J
 ·show cond (decide ((i:Int)<(ps.length:Int))) _ _;rw[dD KI,QY];refine⟨⟨KI,KI⟩,?_⟩;rw[QZ];unfold U8;have hR:=(hp _ (eF hi)).1;refine uB (ps.getD i default).Rects (uQ w h cl us) (Q 13) (o6 F (Yl Q (yS F Q)) (Yk Q) n 0 ps ps.length ((i+1:Nat):Int) nm mt g gr w h cl us ps 0 0 w h) (fun m j=>Rs F _ _ m 0 ps ps.length i (ps.getD i default).Rects (ps.getD i default).Rects.length j nm mt g gr w h cl us ps 0 0 w h) (fun m j I f O=>?_) (fun m u=>?_) F KI G hw
  ·show cond (decide ((j:Int)<((ps.getD i default).Rects.length:Int))) _ _;rw[dD KI,QY];refine⟨⟨KI,KI⟩,⟨fun _=>h6,fun _=>h7⟩,?_⟩;rw[QZ,dX I KI];show cond (uQ w h cl us ((ps.getD i default).Rects.getD j default)) _ _;cases hb:uQ w h cl us ((ps.getD i default).Rects.getD j default) with
   |true=>exact f hb
   |false=>grind
  ·show cond (decide (((ps.getD i default).Rects.length:Int)<((ps.getD i default).Rects.length:Int))) _ _;grind [dX]
 ·show cond (decide ((ps.length:Int)<(ps.length:Int))) _ _;rw[dB KI,QK];exact u
end
theorem aRI (y0 y1:ByteArray) (y2 y3 y4 y5:Int) (y6 y7:List aA) (y8:List Pce) (h:Lq y0 y1 y2 y3 y4 y5 y6 y7 y8):∃F,∀Q:Int->Prop,Q (jK y0 y1 y2 y3 y4 y5 y6 y7 y8)->po F y0 y1 y2 y3 y4 y5 y6 y7 y8 Q:=by
 obtain⟨h6,h7,hp⟩:=h;obtain⟨F,hF⟩:∃F:Nat,2000000<F:=⟨2000001,KI⟩;refine⟨F,fun Q f=>?_⟩;unfold jK Xh at f;unfold po ft;dsimp only;cases I:(jX y0 y1 y2 y3 y4 y5 y6 y7 !=0)
 ·rw[I] at f;simp only[QK] at f ⊢
  by_cases G:8<(y8.length:Int)
  ·grind
  rw[dB G] at f ⊢;simp only[QK] at f ⊢;have h8:y8.length<=8:=KI;unfold U9;refine aWi y8 Ga Q (Gg F Q 0 y8 y8.length 0 y0 y1 y2 y3 y4 y5 y6 y7 y8 0 0 y4 y5) (fun n i=>Jp F (fw Q) (fu Q (Gg F Q)) n 0 y8 y8.length i y0 y1 y2 y3 y4 y5 y6 y7 y8) (fun n i hi u hw=>?_) (fun n j=>?_) F 0 KI KI (fun q=>?_) (fun q=>?_)
  ·show cond (decide ((i:Int)<(y8.length:Int))) _ _;rw[dD KI,QY];refine⟨⟨KI,KI⟩,?_⟩;rw[QZ,dX hi KI];refine⟨hp _ (eF hi),?_⟩;show cond (Ga (y8.getD i default) !=0) _ _;cases hb:(Ga (y8.getD i default) !=0) with
   |true=>exact u hb
   |false=>grind
  ·show cond (decide ((y8.length:Int)<(y8.length:Int))) _ _;rw[dB KI,QK];exact j
  ·grind
  grind [cv1,cv3]
 grind
def bM (a0 a1 f:Int):Int×Int×Int×Int×Int×Int:=(a0,a1,f,0,0,0)
def bU (G u j f a1:Int):Int×Int:=cond (u==f) ((aB (j-a1),f)) ((j,aB (f-a1)))
def Tr (f j u G:Int):(List Opn):=[(Opn.mk ((bM 1 f j).1) ((bM 1 f j).2.1) ((bM 1 f j).2.2.1) ((bM 1 f j).2.2.2.1) ((bM 1 f j).2.2.2.2.1) ((bM 1 f j).2.2.2.2.2)),(Opn.mk ((bM 2 (aB (f+u)) j).1) ((bM 2 (aB (f+u)) j).2.1) ((bM 2 (aB (f+u)) j).2.2.1) ((bM 2 (aB (f+u)) j).2.2.2.1) ((bM 2 (aB (f+u)) j).2.2.2.2.1) ((bM 2 (aB (f+u)) j).2.2.2.2.2)),(Opn.mk ((bM 2 (aB (f+u)) (aB (j+G))).1) ((bM 2 (aB (f+u)) (aB (j+G))).2.1) ((bM 2 (aB (f+u)) (aB (j+G))).2.2.1) ((bM 2 (aB (f+u)) (aB (j+G))).2.2.2.1) ((bM 2 (aB (f+u)) (aB (j+G))).2.2.2.2.1) ((bM 2 (aB (f+u)) (aB (j+G))).2.2.2.2.2)),(Opn.mk ((bM 2 f (aB (j+G))).1) ((bM 2 f (aB (j+G))).2.1) ((bM 2 f (aB (j+G))).2.2.1) ((bM 2 f (aB (j+G))).2.2.2.1) ((bM 2 f (aB (j+G))).2.2.2.2.1) ((bM 2 f (aB (j+G))).2.2.2.2.2)),(Opn.mk ((bM 2 f j).1) ((bM 2 f j).2.1) ((bM 2 f j).2.2.1) ((bM 2 f j).2.2.2.1) ((bM 2 f j).2.2.2.2.1) ((bM 2 f j).2.2.2.2.2))]
def tP (f j u G:Int) (a1:Bool):(List Opn)×(List Opn):=cond a1 (cond ((mi 720 (aB (Int.tdiv (aB ((aB ((aB (u-f))+G))-j)) 2)))==0) (([(Opn.mk ((bM 1 f j).1) ((bM 1 f j).2.1) ((bM 1 f j).2.2.1) ((bM 1 f j).2.2.2.1) ((bM 1 f j).2.2.2.2.1) ((bM 1 f j).2.2.2.2.2)),(Opn.mk ((bM 2 ((bU f j u G (mi 720 (aB (Int.tdiv (aB ((aB ((aB (u-f))+G))-j)) 2)))).1) ((bU f j u G (mi 720 (aB (Int.tdiv (aB ((aB ((aB (u-f))+G))-j)) 2)))).2)).1) ((bM 2 ((bU f j u G (mi 720 (aB (Int.tdiv (aB ((aB ((aB (u-f))+G))-j)) 2)))).1) ((bU f j u G (mi 720 (aB (Int.tdiv (aB ((aB ((aB (u-f))+G))-j)) 2)))).2)).2.1) ((bM 2 ((bU f j u G (mi 720 (aB (Int.tdiv (aB ((aB ((aB (u-f))+G))-j)) 2)))).1) ((bU f j u G (mi 720 (aB (Int.tdiv (aB ((aB ((aB (u-f))+G))-j)) 2)))).2)).2.2.1) ((bM 2 ((bU f j u G (mi 720 (aB (Int.tdiv (aB ((aB ((aB (u-f))+G))-j)) 2)))).1) ((bU f j u G (mi 720 (aB (Int.tdiv (aB ((aB ((aB (u-f))+G))-j)) 2)))).2)).2.2.2.1) ((bM 2 ((bU f j u G (mi 720 (aB (Int.tdiv (aB ((aB ((aB (u-f))+G))-j)) 2)))).1) ((bU f j u G (mi 720 (aB (Int.tdiv (aB ((aB ((aB (u-f))+G))-j)) 2)))).2)).2.2.2.2.1) ((bM 2 ((bU f j u G (mi 720 (aB (Int.tdiv (aB ((aB ((aB (u-f))+G))-j)) 2)))).1) ((bU f j u G (mi 720 (aB (Int.tdiv (aB ((aB ((aB (u-f))+G))-j)) 2)))).2)).2.2.2.2.2))],[])) (([(Opn.mk ((bM 1 f j).1) ((bM 1 f j).2.1) ((bM 1 f j).2.2.1) ((bM 1 f j).2.2.2.1) ((bM 1 f j).2.2.2.2.1) ((bM 1 f j).2.2.2.2.2)),(Opn.mk ((bM 2 ((bU f j u G (mi 720 (aB (Int.tdiv (aB ((aB ((aB (u-f))+G))-j)) 2)))).1) ((bU f j u G (mi 720 (aB (Int.tdiv (aB ((aB ((aB (u-f))+G))-j)) 2)))).2)).1) ((bM 2 ((bU f j u G (mi 720 (aB (Int.tdiv (aB ((aB ((aB (u-f))+G))-j)) 2)))).1) ((bU f j u G (mi 720 (aB (Int.tdiv (aB ((aB ((aB (u-f))+G))-j)) 2)))).2)).2.1) ((bM 2 ((bU f j u G (mi 720 (aB (Int.tdiv (aB ((aB ((aB (u-f))+G))-j)) 2)))).1) ((bU f j u G (mi 720 (aB (Int.tdiv (aB ((aB ((aB (u-f))+G))-j)) 2)))).2)).2.2.1) ((bM 2 ((bU f j u G (mi 720 (aB (Int.tdiv (aB ((aB ((aB (u-f))+G))-j)) 2)))).1) ((bU f j u G (mi 720 (aB (Int.tdiv (aB ((aB ((aB (u-f))+G))-j)) 2)))).2)).2.2.2.1) ((bM 2 ((bU f j u G (mi 720 (aB (Int.tdiv (aB ((aB ((aB (u-f))+G))-j)) 2)))).1) ((bU f j u G (mi 720 (aB (Int.tdiv (aB ((aB ((aB (u-f))+G))-j)) 2)))).2)).2.2.2.2.1) ((bM 2 ((bU f j u G (mi 720 (aB (Int.tdiv (aB ((aB ((aB (u-f))+G))-j)) 2)))).1) ((bU f j u G (mi 720 (aB (Int.tdiv (aB ((aB ((aB (u-f))+G))-j)) 2)))).2)).2.2.2.2.2))],[(Opn.mk ((bM 1 ((bU f j u G (mi 720 (aB (Int.tdiv (aB ((aB ((aB (u-f))+G))-j)) 2)))).1) ((bU f j u G (mi 720 (aB (Int.tdiv (aB ((aB ((aB (u-f))+G))-j)) 2)))).2)).1) ((bM 1 ((bU f j u G (mi 720 (aB (Int.tdiv (aB ((aB ((aB (u-f))+G))-j)) 2)))).1) ((bU f j u G (mi 720 (aB (Int.tdiv (aB ((aB ((aB (u-f))+G))-j)) 2)))).2)).2.1) ((bM 1 ((bU f j u G (mi 720 (aB (Int.tdiv (aB ((aB ((aB (u-f))+G))-j)) 2)))).1) ((bU f j u G (mi 720 (aB (Int.tdiv (aB ((aB ((aB (u-f))+G))-j)) 2)))).2)).2.2.1) ((bM 1 ((bU f j u G (mi 720 (aB (Int.tdiv (aB ((aB ((aB (u-f))+G))-j)) 2)))).1) ((bU f j u G (mi 720 (aB (Int.tdiv (aB ((aB ((aB (u-f))+G))-j)) 2)))).2)).2.2.2.1) ((bM 1 ((bU f j u G (mi 720 (aB (Int.tdiv (aB ((aB ((aB (u-f))+G))-j)) 2)))).1) ((bU f j u G (mi 720 (aB (Int.tdiv (aB ((aB ((aB (u-f))+G))-j)) 2)))).2)).2.2.2.2.1) ((bM 1 ((bU f j u G (mi 720 (aB (Int.tdiv (aB ((aB ((aB (u-f))+G))-j)) 2)))).1) ((bU f j u G (mi 720 (aB (Int.tdiv (aB ((aB ((aB (u-f))+G))-j)) 2)))).2)).2.2.2.2.2)),(Opn.mk ((bM 4 u G).1) ((bM 4 u G).2.1) ((bM 4 u G).2.2.1) ((bM 4 u G).2.2.2.1) ((bM 4 u G).2.2.2.2.1) ((bM 4 u G).2.2.2.2.2))]))) (([(Opn.mk ((bM 1 f j).1) ((bM 1 f j).2.1) ((bM 1 f j).2.2.1) ((bM 1 f j).2.2.2.1) ((bM 1 f j).2.2.2.2.1) ((bM 1 f j).2.2.2.2.2)),(Opn.mk ((bM 2 ((bU f j u G 0).1) ((bU f j u G 0).2)).1) ((bM 2 ((bU f j u G 0).1) ((bU f j u G 0).2)).2.1) ((bM 2 ((bU f j u G 0).1) ((bU f j u G 0).2)).2.2.1) ((bM 2 ((bU f j u G 0).1) ((bU f j u G 0).2)).2.2.2.1) ((bM 2 ((bU f j u G 0).1) ((bU f j u G 0).2)).2.2.2.2.1) ((bM 2 ((bU f j u G 0).1) ((bU f j u G 0).2)).2.2.2.2.2))],[]))
def xX (J I G u f j a1:Int):Bool:=((f==a1)||(j==a1))
def N2 (I J G u j f:Int):Int:=ma (ma (ma (ma 0 (aB (G-I))) (aB (I-j))) (aB (u-J))) (aB (J-f))
def gH (G I j u a1 f:Int):Int×Int×Int×Int×Int×Int:=cond ((decide (a1<0))||((decide (0<=f))&&(decide (f<a1)))) ((G,I,j,u,f,a1)) ((G,I,j,u,a1,f))
def oM (a0:Value):Prop:=(dO a0)
def mC (a0:Value):Int:=cond (iG a0) (Kl a0) ((-1))
def b5:CnT:=cnL [(0,⟨[1,2,6,12,13,14],[],[],[],[]⟩),(2,⟨[1,2,6,7,12,13,14,20,21,22],[],[],[],[]⟩)]
abbrev bC9:=Int->Int->List Pce->Int->Int->Prop
def aGI (y0 y1:ByteArray) (y2 y3 y4 y5:Int) (y6 y7:List aA) (y8:List Pce) (a1 j:Int) (Q:Value->Prop) (f:bC9):Prop:=f a1 j y8 (y8.length:Int) 0
abbrev bCa:=Int->Int->Value->List Pce->Int->Int->Prop
abbrev bC5:=Int->Int->Int->List Pce->Int->Int->List aA->Int->Int->Prop
def aGH (L I:bC9) (O:bCa) (t1 G:Int) (j:List Pce) (u f:Int) (J:bC5):Prop:=cond (decide (f<u)) ((let e0:=(j.getD f.toNat default);((0<=f/\f<j.length)/\J t1 G f j u f e0.Rects (e0.Rects.length:Int) 0))) (I t1 G j u f)
def ia (Q:Value->Prop):bC9:=fun I G u j f=>Q (.iface 215 (.agg #[]))
def gz (Q:Value->Prop):bCa:=fun J I f G u j=>Q f
abbrev bCl:=Int->Int->Value->Int->List Pce->Int->Int->List aA->Int->Int->Prop
def aGG (V:bC5) (x0:bCl) (Z:bC5):bC5:=fun O L S J I G j u f=>cond (decide (f<u)) ((let e0:=(j.getD f.toNat default);((0<=f/\f<j.length)/\cond ((((decide (e0.X<=O))&&(decide (O<(aB (e0.X+e0.W)))))&&(decide (e0.Y<=L)))&&(decide (L<(aB (e0.Y+e0.H))))) (x0 O L (.iface 219 (.i S)) S J I G j u f) (V O L S J I G j u (aB (f+1)))))) (Z O L S J I G j u f)
def aWK (Z x0:bC9) (G:bCa):bCl:=fun L J I t7 u j f V S O=>G L J I u j f
def aWJ (G Z:bC9) (V:bCa):bC5:=fun J I t7 u j f S O L=>G J I u j (aB (f+1))
def Sf (F:Nat) (j:bCl) (f:bC5):Nat->bC5
 |0=>fun _ _ _ _ _ _ _ _ _=>False
 |n+1=>aGG (Sf F j f n) j f
def W5 (F:Nat) (f S:bC9) (O:bCa):bC5:=fun t1 Z V L J I G u j=>Sf F (aWK f S O) (aWJ f S O) F t1 Z V L J I G u j
def q7 (F:Nat) (j:bC9) (f:bCa):Nat->bC9
 |0,_,_,_,_,_=>False
 |n+1,L,J,I,G,u=>aGH (q7 F j f n) j f L J I G u (W5 F (q7 F j f n) j f)
def Wj (F:Nat) (Q:Value->Prop):bC9:=fun I G u j f=>q7 F (ia Q) (gz Q) F I G u j f
def aKz (F:Nat) (y0 y1:ByteArray) (y2 y3 y4 y5:Int) (y6 y7:List aA) (y8:List Pce) (a1 f:Int) (Q:Value->Prop):Prop:=aGI y0 y1 y2 y3 y4 y5 y6 y7 y8 a1 f Q (Wj F Q)
theorem aWj (len:Nat) (bad:Nat->Bool) (X:Nat->Prop) (Y:Prop) (W:Nat->Int->Prop) (L:∀n (i:Nat),i<len->(bad i=true->X i)->(bad i=false->W n ((i+1:Nat):Int))->W (n+1) i)
  (J:∀n,Y->W (n+1) len) (n:Nat) (hn:len<n) (S:∀i,i<len->bad i=true->(∀j,j<i->bad j=false)->X i) (O:(∀j,j<len->bad j=false)->Y):W n 0:=by
 have u:∀(n i:Nat),i<=len->len<n+i->(∀j,j<i->bad j=false)->W n i:=by
  intro n
  induction n with
  |zero=>intro i Z V;omega
  |succ n I=>
   intro i Z V hb
   by_cases h:i<len
   ·refine L n i h (fun q=>S i h q hb) (fun q=>I (i+1) KI KI fun j G=>?_);rcases Nat.lt_or_ge j i with f|f
    ·exact hb j f
    ·obtain rfl:j=i:=KI;exact q
   ·obtain rfl:i=len:=KI;exact J n (O hb)
 exact u n 0 (Nat.zero_le _) KI fun j G=>absurd G (Nat.not_lt_zero _)
theorem Bs {α σ:Type} [Inhabited α] (l:List α) (f:σ->α->σ) (I:Nat->σ->Prop) (Q:σ->Prop) (W:Nat->Int->σ->Prop) (L:∀i s,i<l.length->I i s->I (i+1) (f s (l.getD i default)))
  (G:∀n (i:Nat) s,i<l.length->I i s->W n ((i+1:Nat):Int) (f s (l.getD i default))->W (n+1) i s) (J:∀n s,I l.length s->Q s->W (n+1) l.length s):
  ∀(n i:Nat) (s:σ),i<=l.length->l.length<n+i->I i s->Q ((l.drop i).foldl f s)->W n i s:=by
 intro n
 induction n with
 |zero=>intro i s S O;omega
 |succ n u=>
  intro i s S O hi j
  by_cases h:i<l.length
  ·rw[nR l i h,JY] at j;exact G n i s h hi (u (i+1) _ KI KI (L i s h hi) j)
  ·obtain rfl:i=l.length:=KI;rw[KK] at j;exact J n s hi j
def onR (x y:Int) (r:aA):Bool:=(((decide (r.X<=x))&&(decide (x<(aB (r.X+r.W)))))&&(decide (r.Y<=y)))&&(decide (y<(aB (r.Y+r.H))))
def pI (x y:Int):List Pce->Nat->Int
 |[],_=> -1
 |p::r,i=>cond (p.Rects.any (onR x y)) i (pI x y r (i+1))
def lab (ps:List Pce) (x y:Int):Int:=pI x y ps 0
theorem aUa (x y:Int):∀(ps:List Pce) (k i:Nat),i<ps.length->(ps.getD i default).Rects.any (onR x y)=true->(∀j,j<i->(ps.getD j default).Rects.any (onR x y)=false)->pI x y ps k=((k+i:Nat):Int):=by
 intro ps
 induction ps with
 |nil=>intro k i h;exact absurd h (Nat.not_lt_zero _)
 |cons p r G=>
  intro k i hi hb u;unfold pI;cases i with
  |zero=>
   have f:p.Rects.any (onR x y)=true:=hb;rw[f];rfl
  |succ i=>
   have I:p.Rects.any (onR x y)=false:=u 0 KI;rw[I,QK,G (k+1) i (by simpa using hi) hb (fun j J=>u (j+1) KI)];congr 1;omega
theorem aDT (x y:Int):∀(ps:List Pce) (k:Nat),(∀j,j<ps.length->(ps.getD j default).Rects.any (onR x y)=false)->pI x y ps k= -1:=by
 intro ps
 induction ps with
 |nil=>intro k _;rfl
 |cons p r u=>
  intro k f;unfold pI;have I:p.Rects.any (onR x y)=false:=f 0 XQ;rw[I,QK];exact u (k+1) fun j G=>f (j+1) (by simpa using G)
theorem aU9 (x y:Int):∀(ps:List Pce) (k:Nat), -1<=pI x y ps k:=by
 intro ps
 induction ps with
 |nil=>intro k;exact Int.le_refl _
 |cons p r f=>
  intro k;unfold pI;cases p.Rects.any (onR x y) with
  |true=>rw[QY];omega
  |false=>exact f _
theorem Xj (ps:List Pce) (x y:Int): -1<=lab ps x y:=aU9 x y ps 0
def thV (n:Int):Value:=cond (decide (n<0)) (.iface 215 (.agg #[])) (.iface 219 (.int .i64 n))
theorem aLd {n:Int} (h:n<0):thV n=.iface 215 (.agg #[]):=by unfold thV;rw[JA h];rfl
theorem aLe (n:Nat):thV (n:Int)=.iface 219 (.int .i64 n):=by unfold thV;rw[JC KI];rfl
def tY (y0 y1:ByteArray) (y2 y3 y4 y5:Int) (y6 y7:List aA) (y8:List Pce) (a1 f:Int):Prop:=y8.length<=2000000/\∀p∈y8,p.Rects.length<=2000000
def rX (y0 y1:ByteArray) (y2 y3 y4 y5:Int) (y6 y7:List aA) (y8:List Pce) (a1 f:Int):Value:=thV (lab y8 a1 f)
theorem aR0 (y0 y1:ByteArray) (y2 y3 y4 y5:Int) (y6 y7:List aA) (y8:List Pce) (a1 f:Int) (h:tY y0 y1 y2 y3 y4 y5 y6 y7 y8 a1 f):∃F,∀Q:Value->Prop,Q (rX y0 y1 y2 y3 y4 y5 y6 y7 y8 a1 f)->aKz F y0 y1 y2 y3 y4 y5 y6 y7 y8 a1 f Q:=by
 obtain⟨h1,V⟩:=h;refine⟨2000000+1,fun Q j=>?_⟩;unfold rX lab at j;show Wj (2000000+1) Q a1 f y8 (y8.length:Int) 0;unfold Wj;refine aWj y8.length (fun i=>(y8.getD i default).Rects.any (onR a1 f)) (fun i=>Q (.iface 219 (.int .i64 i))) (Q (.iface 215 (.agg #[]))) (fun n i=>q7 (2000000+1) (ia Q) (gz Q) n a1 f y8 (y8.length:Int) i)
  (fun n i hi L hw=>?_) (fun n O=>?_) (2000000+1) KI (fun i hi hb u=>?_) (fun u=>?_)
 ·show cond (decide ((i:Int)<(y8.length:Int))) _ _;rw[dD KI,QY];refine⟨⟨KI,KI⟩,?_⟩;rw[QZ];generalize hp:y8.getD i default=p at L hw;have Z:p.Rects.length<=2000000:=V p (by rw[<- hp];exact eF hi);unfold W5;refine sQ p.Rects.length (fun k=>onR a1 f (p.Rects.getD k default)) (Q (.iface 219 (.int .i64 i))) (q7 (2000000+1) (ia Q) (gz Q) n a1 f y8 (y8.length:Int) ((i+1:Nat):Int)) (fun m k=>Sf (2000000+1) _ _ m a1 f i y8 (y8.length:Int) i p.Rects (p.Rects.length:Int) k)
   (fun m k S I J=>?_) (fun m G=>?_) (2000000+1) KI (fun q=>L (by rw[<- mn];exact q)) (fun q=>hw (by rw[<- mn];exact q))
  ·show cond (decide ((k:Int)<(p.Rects.length:Int))) _ _;rw[dD KI,QY];refine⟨⟨KI,KI⟩,?_⟩;rw[QZ,dX S KI];show cond (onR a1 f (p.Rects.getD k default)) _ _;cases hb:onR a1 f (p.Rects.getD k default) with
   |true=>exact I hb
   |false=>exact J hb
  ·show cond (decide ((p.Rects.length:Int)<(p.Rects.length:Int))) _ _;rw[dB KI,QK];show q7 _ _ _ _ _ _ _ _ (aB ((i:Int)+1));rw[dX hi KI];exact G
 ·show cond (decide ((y8.length:Int)<(y8.length:Int))) _ _;rw[dB KI,QK];exact O
 ·rw[aUa a1 f y8 0 i hi hb u,aLe,JD] at j;exact j
 ·rw[aDT a1 f y8 0 u,aLd KI] at j;exact j
def Vh (f:Int) (S O:ByteArray) (L J I G:Int) (u j:List aA) (ps:List Pce) (y0:Int):Prop:=(tY S O L J I G u j ps f y0)/\(tY S O L J I G u j ps f (aB (y0-1)))
def xW (f:Int) (S O:ByteArray) (L J I G:Int) (u j:List aA) (ps:List Pce) (y0:Int):Value×Value:=((rX S O L J I G u j ps f y0),(rX S O L J I G u j ps f (aB (y0-1))))
def Fi (j f y0:Int):Int×Int×Int×Int:=(j,y0,f,y0)
def Vg (f:Int) (S O:ByteArray) (L J I G:Int) (u j:List aA) (ps:List Pce) (y0:Int):Prop:=(tY S O L J I G u j ps y0 f)/\(tY S O L J I G u j ps (aB (y0-1)) f)
def xV (f:Int) (S O:ByteArray) (L J I G:Int) (u j:List aA) (ps:List Pce) (y0:Int):Value×Value:=((rX S O L J I G u j ps y0 f),(rX S O L J I G u j ps (aB (y0-1)) f))
def Fh (j f y0:Int):Int×Int×Int×Int:=(y0,j,y0,f)
def Je:CnT:=cnL [(0,⟨[0,1,2,7,8,9,10,19,20,21],[],[(.tmp 7,77,.edge)],[],[]⟩)]
abbrev bBx:=zzI->ByteArray->ByteArray->Int->Int->Int->Int->List aA->List aA->List Pce->Int->Int->Int->Value->Value->zzI->Int->Int->List Edg->Prop
def aGl (l:zzI) (V S:ByteArray) (O L J I:Int) (G u:List aA) (ps:List Pce) (y0 f:Int) (Q:List Edg->Prop) (j:bBx):Prop:=j l V S O L J I G u ps y0 f 0 (.iface 215 (.agg #[])) (.iface 215 (.agg #[])) l (l.length:Int) 0 ([])
def aGk (J x0:bBx):bBx:=fun t0 cM cW cU cQ V Z fN fM fL fB fK t8 j f G I u dQ=>cond (decide (u<I)) ((let e0:=(G.getD u.toNat default);((0<=u/\u<G.length)/\cond (decide ((aB (u+1))<(t0.length:Int))) ((let S:=(xW e0 cM cW cU cQ V Z fN fM fL fB);((Vh e0 cM cW cU cQ V Z fN fM fL fB)/\(((dO S.1/\dO j)/\((gB S.1 j)=true->dO S.2/\dO f))/\cond ((gB S.1 j)&&(gB S.2 f)) (J t0 cM cW cU cQ V Z fN fM fL fB fK t8 j f G I (aB (u+1)) dQ) ((((dO j/\dO f)/\((!(gB j f))=true->((dO j/\ "sheetmetal/cut.solid"= "sheetmetal/cut.solid")/\((iG j)=false->dO f/\ "sheetmetal/cut.solid"= "sheetmetal/cut.solid"))))/\cond ((!(gB j f))&&((iG j)||(iG f))) ((let r2:=(Fi t8 e0 fK);(let O:=(gH r2.1 r2.2.1 r2.2.2.1 r2.2.2.2 (mC j) (mC f));(((oM j)/\((oM f)/\((dQ.length+([(Edg.mk O.1 O.2.1 O.2.2.1 O.2.2.2.1 O.2.2.2.2.1 O.2.2.2.2.2)]).length)*48<=140737488355328)))/\J t0 cM cW cU cQ V Z fN fM fL fB fK e0 S.1 S.2 G I (aB (u+1)) (dQ++([(Edg.mk O.1 O.2.1 O.2.2.1 O.2.2.2.1 O.2.2.2.2.1 O.2.2.2.2.2)])))))) (J t0 cM cW cU cQ V Z fN fM fL fB fK e0 S.1 S.2 G I (aB (u+1)) dQ))))))) ((((dO (.iface 215 (.agg #[]))/\dO j)/\((gB (.iface 215 (.agg #[])) j)=true->dO (.iface 215 (.agg #[]))/\dO f))/\cond ((gB (.iface 215 (.agg #[])) j)&&(gB (.iface 215 (.agg #[])) f)) (J t0 cM cW cU cQ V Z fN fM fL fB fK t8 j f G I (aB (u+1)) dQ) ((((dO j/\dO f)/\((!(gB j f))=true->((dO j/\ "sheetmetal/cut.solid"= "sheetmetal/cut.solid")/\((iG j)=false->dO f/\ "sheetmetal/cut.solid"= "sheetmetal/cut.solid"))))/\cond ((!(gB j f))&&((iG j)||(iG f))) ((let r4:=(Fi t8 e0 fK);(let L:=(gH r4.1 r4.2.1 r4.2.2.1 r4.2.2.2 (mC j) (mC f));(((oM j)/\((oM f)/\((dQ.length+([(Edg.mk L.1 L.2.1 L.2.2.1 L.2.2.2.1 L.2.2.2.2.1 L.2.2.2.2.2)]).length)*48<=140737488355328)))/\J t0 cM cW cU cQ V Z fN fM fL fB fK e0 (.iface 215 (.agg #[])) (.iface 215 (.agg #[])) G I (aB (u+1)) (dQ++([(Edg.mk L.1 L.2.1 L.2.2.1 L.2.2.2.1 L.2.2.2.2.1 L.2.2.2.2.2)])))))) (J t0 cM cW cU cQ V Z fN fM fL fB fK e0 (.iface 215 (.agg #[])) (.iface 215 (.agg #[])) G I (aB (u+1)) dQ)))))))) (x0 t0 cM cW cU cQ V Z fN fM fL fB fK t8 j f G I u dQ)
def Zc (Q:List Edg->Prop):bBx:=fun O cM cW cU cQ S V Z fM fL fB fK L J I G u j f=>Q f
def s8 (F:Nat) (f:bBx):Nat->bBx
 |0=>fun _ _ _ _ _ _ _ _ _ _ _ _ _ _ _ _ _ _ _=>False
 |n+1=>aGk (s8 F f n) f
def Wu (F:Nat) (Q:List Edg->Prop):bBx:=fun L cM cW cU cQ O S V Z fL fB fK J I G u j f dQ=>s8 F (Zc Q) F L cM cW cU cQ O S V Z fL fB fK J I G u j f dQ
def aLN (F:Nat) (l:zzI) (S O:ByteArray) (L J I G:Int) (u j:List aA) (ps:List Pce) (y0 f:Int) (Q:List Edg->Prop):Prop:=aGl l S O L J I G u j ps y0 f Q (Wu F Q)
def Jd:CnT:=cnL [(0,⟨[0,1,2,7,8,9,10,19,20,21],[],[(.tmp 7,77,.edge)],[],[]⟩)]
def aGj (l:zzI) (V S:ByteArray) (O L J I:Int) (G u:List aA) (ps:List Pce) (y0 f:Int) (Q:List Edg->Prop) (j:bBx):Prop:=j l V S O L J I G u ps y0 f 0 (.iface 215 (.agg #[])) (.iface 215 (.agg #[])) l (l.length:Int) 0 ([])
def aGi (J x0:bBx):bBx:=fun t0 cM cW cU cQ V Z fN fM fL fB fK t8 j f G I u dQ=>cond (decide (u<I)) ((let e0:=(G.getD u.toNat default);((0<=u/\u<G.length)/\cond (decide ((aB (u+1))<(t0.length:Int))) ((let S:=(xV e0 cM cW cU cQ V Z fN fM fL fB);((Vg e0 cM cW cU cQ V Z fN fM fL fB)/\(((dO S.1/\dO j)/\((gB S.1 j)=true->dO S.2/\dO f))/\cond ((gB S.1 j)&&(gB S.2 f)) (J t0 cM cW cU cQ V Z fN fM fL fB fK t8 j f G I (aB (u+1)) dQ) ((((dO j/\dO f)/\((!(gB j f))=true->((dO j/\ "sheetmetal/cut.solid"= "sheetmetal/cut.solid")/\((iG j)=false->dO f/\ "sheetmetal/cut.solid"= "sheetmetal/cut.solid"))))/\cond ((!(gB j f))&&((iG j)||(iG f))) ((let r2:=(Fh t8 e0 fK);(let O:=(gH r2.1 r2.2.1 r2.2.2.1 r2.2.2.2 (mC j) (mC f));(((oM j)/\((oM f)/\((dQ.length+([(Edg.mk O.1 O.2.1 O.2.2.1 O.2.2.2.1 O.2.2.2.2.1 O.2.2.2.2.2)]).length)*48<=140737488355328)))/\J t0 cM cW cU cQ V Z fN fM fL fB fK e0 S.1 S.2 G I (aB (u+1)) (dQ++([(Edg.mk O.1 O.2.1 O.2.2.1 O.2.2.2.1 O.2.2.2.2.1 O.2.2.2.2.2)])))))) (J t0 cM cW cU cQ V Z fN fM fL fB fK e0 S.1 S.2 G I (aB (u+1)) dQ))))))) ((((dO (.iface 215 (.agg #[]))/\dO j)/\((gB (.iface 215 (.agg #[])) j)=true->dO (.iface 215 (.agg #[]))/\dO f))/\cond ((gB (.iface 215 (.agg #[])) j)&&(gB (.iface 215 (.agg #[])) f)) (J t0 cM cW cU cQ V Z fN fM fL fB fK t8 j f G I (aB (u+1)) dQ) ((((dO j/\dO f)/\((!(gB j f))=true->((dO j/\ "sheetmetal/cut.solid"= "sheetmetal/cut.solid")/\((iG j)=false->dO f/\ "sheetmetal/cut.solid"= "sheetmetal/cut.solid"))))/\cond ((!(gB j f))&&((iG j)||(iG f))) ((let r4:=(Fh t8 e0 fK);(let L:=(gH r4.1 r4.2.1 r4.2.2.1 r4.2.2.2 (mC j) (mC f));(((oM j)/\((oM f)/\((dQ.length+([(Edg.mk L.1 L.2.1 L.2.2.1 L.2.2.2.1 L.2.2.2.2.1 L.2.2.2.2.2)]).length)*48<=140737488355328)))/\J t0 cM cW cU cQ V Z fN fM fL fB fK e0 (.iface 215 (.agg #[])) (.iface 215 (.agg #[])) G I (aB (u+1)) (dQ++([(Edg.mk L.1 L.2.1 L.2.2.1 L.2.2.2.1 L.2.2.2.2.1 L.2.2.2.2.2)])))))) (J t0 cM cW cU cQ V Z fN fM fL fB fK e0 (.iface 215 (.agg #[])) (.iface 215 (.agg #[])) G I (aB (u+1)) dQ)))))))) (x0 t0 cM cW cU cQ V Z fN fM fL fB fK t8 j f G I u dQ)
def Zb (Q:List Edg->Prop):bBx:=fun O cM cW cU cQ S V Z fM fL fB fK L J I G u j f=>Q f
def s7 (F:Nat) (f:bBx):Nat->bBx
 |0=>fun _ _ _ _ _ _ _ _ _ _ _ _ _ _ _ _ _ _ _=>False
 |n+1=>aGi (s7 F f n) f
def Wt (F:Nat) (Q:List Edg->Prop):bBx:=fun L cM cW cU cQ O S V Z fL fB fK J I G u j f dQ=>s7 F (Zb Q) F L cM cW cU cQ O S V Z fL fB fK J I G u j f dQ
def aLM (F:Nat) (l:zzI) (S O:ByteArray) (L J I G:Int) (u j:List aA) (ps:List Pce) (y0 f:Int) (Q:List Edg->Prop):Prop:=aGj l S O L J I G u j ps y0 f Q (Wt F Q)
theorem lJ (n:Int):dO (thV n):=by
 unfold thV;cases decide (n<0) with
 |true=>exact .inr rfl
 |false=>exact .inl ⟨n,rfl⟩
theorem Et {a b:Int} (u: -1<=a) (hb: -1<=b):gB (thV a) (thV b)=(a==b):=by
 unfold thV
 by_cases j:a<0
 ·obtain rfl:a= -1:=KI
  by_cases f:b<0
  ·obtain rfl:b= -1:=KI;rfl
  ·rw[JC f,JA j];have:((-1:Int)==b)=false:=by grind
   rw[this];rfl
 ·by_cases f:b<0
  ·rw[JC j,JA f];have:(a==b)=false:=by grind
   rw[this];rfl
  ·rw[JC j,JC f];rfl
theorem Kk (a:Int):iG (thV a)=decide (0<=a):=by
 unfold thV
 by_cases f:a<0
 ·rw[JA f,JC KI];rfl
 ·rw[JC f,JA KI];rfl
theorem yj {a:Int} (j: -1<=a):mC (thV a)=a:=by
 unfold mC;rw[Kk]
 by_cases f:a<0
 ·grind
 ·rw[JA KI,QY];unfold thV;rw[JC f];rfl
def alF (mk:Int->Int->Int->Int->Edg):Int->Int->Int->List (Int×Int×Int)->List Edg
 |_,_,_,[]=>[]
 |b,one,f,(n,a,c)::r=>cond ((a==one)&&(c==f)) (alF mk b one f r) ((cond (one==f) [] [mk b n one f])++alF mk n a c r)
def gZ (f:Int->Int×Int) (l:zzI):List (Int×Int×Int):=(List.range l.length).map fun i=>(l.getD i default,cond (decide (i+1<l.length)) (f (l.getD i default)) (-1, -1))
theorem L8 (f:Int->Int×Int) (l:zzI) (i:Nat) (h:i<l.length):(gZ f l).drop i=(l.getD i default,cond (decide (i+1<l.length)) (f (l.getD i default)) (-1, -1))::(gZ f l).drop (i+1):=by
 grind [gZ,List.drop_eq_getElem_cons]
theorem aI2 (mk:Int->Int->Int->Int->Edg):∀(r:List (Int×Int×Int)) (b one f:Int),(alF mk b one f r).length<=r.length:=by
 intro r
 induction r with
 |nil=>intros;exact QP _
 |cons x r j=>
  grind [alF]
theorem aI1 (l:zzI) (f:Int->Int×Int) (hf:∀n, -1<=(f n).1/\ -1<=(f n).2) (mk:Int->Int->Int->Int->Edg) (Q:List Edg->Prop) (W:Nat->Int->Int->Int->Int->List Edg->Prop)
  (J:∀n (i:Nat) b one j m a c,i<l.length-> -1<=one-> -1<=j-> -1<=a-> -1<=c->m.length<=i->(a,c)=cond (decide (i+1<l.length)) (f (l.getD i default)) (-1, -1)->
   cond ((a==one)&&(c==j)) (W n ((i+1:Nat):Int) b one j m) (cond (one==j) (W n ((i+1:Nat):Int) (l.getD i default) a c m) (W n ((i+1:Nat):Int) (l.getD i default) a c (m++[mk b (l.getD i default) one j])))->W (n+1) i b one j m)
  (L:∀n b one j m,Q m->W (n+1) l.length b one j m):
  ∀(n i:Nat) (b one j:Int) (m:List Edg),i<=l.length->l.length<n+i-> -1<=one-> -1<=j->m.length<=i->Q (m++alF mk b one j ((gZ f l).drop i))->W n i b one j m:=by
 intro n
 induction n with
 |zero=>omega
 |succ n V=>
  intro i b one j m hi Z S O hm u
  by_cases h:i<l.length
  ·rw[L8 f l i h] at u;obtain⟨a,c,I⟩:∃a c,(a,c)=cond (decide (i+1<l.length)) (f (l.getD i default)) (-1, -1):=⟨_,_,rfl⟩;have G: -1<=a/\ -1<=c:=by
    grind
   rw[<- I] at u;refine J n i b one j m a c h S O G.1 G.2 hm I ?_;unfold alF at u;cases hb:(a==one)&&(c==j) with
   |true=>
    grind
   |false=>
    rw[hb,QK] at u;cases ho:one==j with
    |true=>
     grind
    |false=>
     rw[ho,QK,<- KZ] at u;grind [List.length_append,List.length_singleton]
  ·obtain rfl:i=l.length:=KI;refine L n b one j m ?_;have e:(gZ f l).drop l.length=[]:=by unfold gZ;simp
   grind [alF]
def kM (z b n one f:Int):Edg:=Edg.mk (gH b z n z one f).1 (gH b z n z one f).2.1 (gH b z n z one f).2.2.1 (gH b z n z one f).2.2.2.1 (gH b z n z one f).2.2.2.2.1 (gH b z n z one f).2.2.2.2.2
def tV (ps:List Pce) (y n:Int):Int×Int:=(lab ps n y,lab ps n (aB (y-1)))
def S2 (l:zzI) (S O:ByteArray) (L J I G:Int) (u j:List aA) (ps:List Pce) (y0 f:Int):Prop:=l.length<=2000000/\ps.length<=2000000/\∀p∈ps,p.Rects.length<=2000000
def N5 (l:zzI) (S O:ByteArray) (L J I G:Int) (u j:List aA) (ps:List Pce) (y0 f:Int):List Edg:=alF (kM f) 0 (-1) (-1) (gZ (tV ps y0) l)
theorem aRg (l:zzI) (Z V:ByteArray) (S O L J:Int) (I G:List aA) (ps:List Pce) (y0 j:Int) (h:S2 l Z V S O L J I G ps y0 j):∃F,∀Q:List Edg->Prop,Q (N5 l Z V S O L J I G ps y0 j)->aLN F l Z V S O L J I G ps y0 j Q:=by
 obtain⟨h1,h2⟩:=h;refine⟨l.length+1,fun Q hQ=>?_⟩;show Wu (l.length+1) Q l Z V S O L J I G ps y0 j 0 (thV (-1)) (thV (-1)) l (l.length:Int) 0 [];unfold Wu;refine aI1 l (tV ps y0) (fun n=>⟨Xj _ _ _,Xj _ _ _⟩) (kM j) Q (fun n i b one f m=>s8 (l.length+1) _ n l Z V S O L J I G ps y0 j b (thV one) (thV f) l (l.length:Int) i m) (fun n i b one f m a c hi ho ht ha hc hm u hw=>?_) (fun n b one f m hm=>?_) (l.length+1) 0 0 (-1) (-1) [] KI KI KI KI XQ hQ
 ·show cond (decide ((i:Int)<(l.length:Int))) _ _;rw[dD KI,QY];refine⟨⟨KI,KI⟩,?_⟩;rw[QZ,dX hi KI];have fa:(m.length+1)*48<=140737488355328:=KI;have e1:=Et ha ho;have e2:=Et hc ht;have e3:=Et ho ht;have tail:∀(A C:Value),A=thV a->C=thV c->
    (((dO A/\dO (thV one))/\(gB A (thV one)=true->dO C/\dO (thV f)))/\cond (gB A (thV one)&&gB C (thV f))
     (s8 (l.length+1) (Zc Q) n l Z V S O L J I G ps y0 j b (thV one) (thV f) l (l.length:Int) ((i+1:Nat):Int) m)
     (((dO (thV one)/\dO (thV f))/\((!(gB (thV one) (thV f)))=true->((dO (thV one)/\ "sheetmetal/cut.solid"= "sheetmetal/cut.solid")/\((iG (thV one))=false->dO (thV f)/\ "sheetmetal/cut.solid"= "sheetmetal/cut.solid"))))/\cond ((!(gB (thV one) (thV f)))&&((iG (thV one))||(iG (thV f))))
      (((oM (thV one))/\((oM (thV f))/\((m.length+1)*48<=140737488355328)))/\s8 (l.length+1) (Zc Q) n l Z V S O L J I G ps y0 j (l.getD i default) A C l (l.length:Int) ((i+1:Nat):Int) (m++[kM j b (l.getD i default) (mC (thV one)) (mC (thV f))]))
      (s8 (l.length+1) (Zc Q) n l Z V S O L J I G ps y0 j (l.getD i default) A C l (l.length:Int) ((i+1:Nat):Int) m))):=by
   rintro A C rfl rfl
   refine⟨⟨⟨lJ _,lJ _⟩,fun _=>⟨lJ _,lJ _⟩⟩,?_⟩;rw[e1,e2];cases hb:(a==one)&&(c==f) with
   |true=>
    grind
   |false=>
    rw[hb,QK] at hw;refine⟨⟨⟨lJ _,lJ _⟩,fun _=>⟨⟨lJ _,rfl⟩,fun _=>⟨lJ _,rfl⟩⟩⟩,?_⟩;rw[e3,Kk,Kk];cases ho':one==f with
    |true=>
     grind
    |false=>
     rw[ho',QK] at hw;have hne:one≠f:=by grind
     have hsol:(decide (0<=one)||decide (0<=f))=true:=by
      grind
     rw[hsol];refine⟨⟨lJ _,lJ _,fa⟩,?_⟩;grind [yj]
  cases hd:decide (i+1<l.length) with
  |true=>
   have hd':=JU hd;rw[hd,QY] at u;rw[dD KI,QY];refine⟨⟨h2,h2⟩,?_⟩;cases u;exact tail _ _ rfl rfl
  |false=>
   have hd':=KM hd;rw[hd,QK] at u;rw[dB KI,QK];cases u;exact tail _ _ rfl rfl
 ·show cond (decide ((l.length:Int)<(l.length:Int))) _ _;rw[dB KI,QK];exact hm
def kL (z b n one f:Int):Edg:=Edg.mk (gH z b z n one f).1 (gH z b z n one f).2.1 (gH z b z n one f).2.2.1 (gH z b z n one f).2.2.2.1 (gH z b z n one f).2.2.2.2.1 (gH z b z n one f).2.2.2.2.2
def tU (ps:List Pce) (y n:Int):Int×Int:=(lab ps y n,lab ps (aB (y-1)) n)
def S1 (l:zzI) (S O:ByteArray) (L J I G:Int) (u j:List aA) (ps:List Pce) (y0 f:Int):Prop:=l.length<=2000000/\ps.length<=2000000/\∀p∈ps,p.Rects.length<=2000000
def N4 (l:zzI) (S O:ByteArray) (L J I G:Int) (u j:List aA) (ps:List Pce) (y0 f:Int):List Edg:=alF (kL f) 0 (-1) (-1) (gZ (tU ps y0) l)
theorem aRf (l:zzI) (Z V:ByteArray) (S O L J:Int) (I G:List aA) (ps:List Pce) (y0 j:Int) (h:S1 l Z V S O L J I G ps y0 j):∃F,∀Q:List Edg->Prop,Q (N4 l Z V S O L J I G ps y0 j)->aLM F l Z V S O L J I G ps y0 j Q:=by
 obtain⟨h1,h2⟩:=h;refine⟨l.length+1,fun Q hQ=>?_⟩;show Wt (l.length+1) Q l Z V S O L J I G ps y0 j 0 (thV (-1)) (thV (-1)) l (l.length:Int) 0 [];unfold Wt;refine aI1 l (tU ps y0) (fun n=>⟨Xj _ _ _,Xj _ _ _⟩) (kL j) Q (fun n i b one f m=>s7 (l.length+1) _ n l Z V S O L J I G ps y0 j b (thV one) (thV f) l (l.length:Int) i m) (fun n i b one f m a c hi ho ht ha hc hm u hw=>?_) (fun n b one f m hm=>?_) (l.length+1) 0 0 (-1) (-1) [] KI KI KI KI XQ hQ
 ·show cond (decide ((i:Int)<(l.length:Int))) _ _;rw[dD KI,QY];refine⟨⟨KI,KI⟩,?_⟩;rw[QZ,dX hi KI];have fa:(m.length+1)*48<=140737488355328:=KI;have e1:=Et ha ho;have e2:=Et hc ht;have e3:=Et ho ht;have tail:∀(A C:Value),A=thV a->C=thV c->
    (((dO A/\dO (thV one))/\(gB A (thV one)=true->dO C/\dO (thV f)))/\cond (gB A (thV one)&&gB C (thV f))
     (s7 (l.length+1) (Zb Q) n l Z V S O L J I G ps y0 j b (thV one) (thV f) l (l.length:Int) ((i+1:Nat):Int) m)
     (((dO (thV one)/\dO (thV f))/\((!(gB (thV one) (thV f)))=true->((dO (thV one)/\ "sheetmetal/cut.solid"= "sheetmetal/cut.solid")/\((iG (thV one))=false->dO (thV f)/\ "sheetmetal/cut.solid"= "sheetmetal/cut.solid"))))/\cond ((!(gB (thV one) (thV f)))&&((iG (thV one))||(iG (thV f))))
      (((oM (thV one))/\((oM (thV f))/\((m.length+1)*48<=140737488355328)))/\s7 (l.length+1) (Zb Q) n l Z V S O L J I G ps y0 j (l.getD i default) A C l (l.length:Int) ((i+1:Nat):Int) (m++[kL j b (l.getD i default) (mC (thV one)) (mC (thV f))]))
      (s7 (l.length+1) (Zb Q) n l Z V S O L J I G ps y0 j (l.getD i default) A C l (l.length:Int) ((i+1:Nat):Int) m))):=by
   rintro A C rfl rfl
   refine⟨⟨⟨lJ _,lJ _⟩,fun _=>⟨lJ _,lJ _⟩⟩,?_⟩;rw[e1,e2];cases hb:(a==one)&&(c==f) with
   |true=>
    grind
   |false=>
    rw[hb,QK] at hw;refine⟨⟨⟨lJ _,lJ _⟩,fun _=>⟨⟨lJ _,rfl⟩,fun _=>⟨lJ _,rfl⟩⟩⟩,?_⟩;rw[e3,Kk,Kk];cases ho':one==f with
    |true=>
     grind
    |false=>
     rw[ho',QK] at hw;have hne:one≠f:=by grind
     have hsol:(decide (0<=one)||decide (0<=f))=true:=by
      grind
     rw[hsol];refine⟨⟨lJ _,lJ _,fa⟩,?_⟩;grind [yj]
  cases hd:decide (i+1<l.length) with
  |true=>
   have hd':=JU hd;rw[hd,QY] at u;rw[dD KI,QY];refine⟨⟨h2,h2⟩,?_⟩;cases u;exact tail _ _ rfl rfl
  |false=>
   have hd':=KM hd;rw[hd,QK] at u;rw[dB KI,QK];cases u;exact tail _ _ rfl rfl
 ·show cond (decide ((l.length:Int)<(l.length:Int))) _ _;rw[dB KI,QK];exact hm
end
end Go.Proofs.YtgcpildegdgekaaGreatDoor
namespace Go.Proofs
open Go.Proofs.Tryz
open Go.Shelf
def aU2:Go.Shelf.Ren:=⟨fun|122=>112|215=>153|n=>n,fun|3=>3|4=>4|n=>n,fun|n=>n⟩
theorem aU3:Go.Proofs.Lays.n122 prog aU2:=⟨KA,XJ func112,XJ func153,underlying3,isAgg3,sizeOf3,zeroValue3,underlying4,isAgg4,sizeOf4,zeroValue4⟩
open Go.RowKit in
theorem cmp_Compare_int (x y:Int) (w:World):
  Calls prog 112 #[.int .i64 x,.int .i64 y] w fun e w'=>e=.returned (.int .i64 (Lib.compareInt x y))/\w'=w:=Any.cmp_Compare_int aU3 x y w
def aUJ:Go.Shelf.Ren:=⟨fun|6=>132|15=>110|14=>171|28=>151|29=>152|20=>200|21=>201|22=>202|23=>203|24=>204|25=>205|26=>206|27=>207|46=>220|47=>175|48=>176|49=>221|50=>222|57=>225|n=>n,fun|22=>55|24=>3|25=>198|3=>3|39=>196|0=>0|53=>246|55=>248|4=>4|46=>240|45=>239|50=>160|5=>5|9=>9|66=>267|70=>271|76=>296|77=>126|n=>n,fun|n=>n⟩
theorem aUK:Go.Proofs.SlLaysF.n6 prog aUJ:=⟨KA,⟨f132.name,by decide,XJ func132⟩,⟨f171.name,by decide,XJ func171⟩,XJ func110,⟨f200.name,by decide,XJ func200⟩,⟨f201.name,by decide,XJ func201⟩,⟨f202.name,by decide,XJ func202⟩,⟨f203.name,by decide,XJ func203⟩,⟨f204.name,by decide,XJ func204⟩,⟨f205.name,by decide,XJ func205⟩,⟨f206.name,by decide,XJ func206⟩,⟨f207.name,by decide,XJ func207⟩,XJ func151,XJ func152,⟨f220.name,by decide,XJ func220⟩,XJ func175,XJ func176,⟨f221.name,by decide,XJ func221⟩,⟨f222.name,by decide,XJ func222⟩,⟨f225.name,by decide,XJ func225⟩,underlying0,isAgg0,sizeOf0,zeroValue0,underlying3,isAgg3,sizeOf3,zeroValue3,underlying4,isAgg4,sizeOf4,zeroValue4,underlying5,isAgg5,sizeOf5,zeroValue5,underlying9,isAgg9,sizeOf9,zeroValue9,underlying55,isAgg55,sizeOf55,zeroValue55,isAgg3,sizeOf3,underlying198,isAgg198,sizeOf198,zeroValue198,underlying196,isAgg196,sizeOf196,zeroValue196,underlying239,isAgg239,sizeOf239,zeroValue239,underlying240,isAgg240,sizeOf240,zeroValue240,underlying160,isAgg160,sizeOf160,zeroValue160,underlying246,isAgg246,sizeOf246,zeroValue246,underlying248,isAgg248,sizeOf248,zeroValue248,underlying267,isAgg267,sizeOf267,zeroValue267,underlying271,isAgg271,sizeOf271,zeroValue271,underlying296,isAgg296,sizeOf296,zeroValue296,underlying126,isAgg126,sizeOf126,zeroValue126⟩
def aUL:Go.Shelf.Ren:=⟨fun|6=>132|15=>110|14=>171|28=>151|29=>152|20=>200|21=>201|22=>202|23=>203|24=>204|25=>205|26=>206|27=>207|46=>220|47=>175|48=>176|49=>221|50=>222|57=>225|n=>n,fun|22=>55|24=>3|25=>198|3=>3|39=>196|0=>0|53=>246|55=>248|4=>4|46=>240|45=>239|50=>160|5=>5|9=>9|66=>267|70=>271|76=>296|77=>126|n=>n,fun|n=>n⟩
theorem aUM:Go.Proofs.SlLaysF0.n6 prog aUL:=⟨KA,⟨f132.name,by decide,XJ func132⟩,⟨f171.name,by decide,XJ func171⟩,XJ func110,⟨f200.name,by decide,XJ func200⟩,⟨f201.name,by decide,XJ func201⟩,⟨f202.name,by decide,XJ func202⟩,⟨f203.name,by decide,XJ func203⟩,⟨f204.name,by decide,XJ func204⟩,⟨f205.name,by decide,XJ func205⟩,⟨f206.name,by decide,XJ func206⟩,⟨f207.name,by decide,XJ func207⟩,XJ func151,XJ func152,⟨f220.name,by decide,XJ func220⟩,XJ func175,XJ func176,⟨f221.name,by decide,XJ func221⟩,⟨f222.name,by decide,XJ func222⟩,⟨f225.name,by decide,XJ func225⟩,underlying0,isAgg0,sizeOf0,zeroValue0,underlying3,isAgg3,sizeOf3,zeroValue3,underlying4,isAgg4,sizeOf4,zeroValue4,underlying5,isAgg5,sizeOf5,zeroValue5,underlying9,isAgg9,sizeOf9,zeroValue9,underlying55,isAgg55,sizeOf55,zeroValue55,underlying198,isAgg198,sizeOf198,zeroValue198,underlying196,isAgg196,sizeOf196,zeroValue196,underlying239,isAgg239,sizeOf239,zeroValue239,underlying240,isAgg240,sizeOf240,zeroValue240,underlying160,isAgg160,sizeOf160,zeroValue160,underlying246,isAgg246,sizeOf246,zeroValue246,underlying248,isAgg248,sizeOf248,zeroValue248,underlying267,isAgg267,sizeOf267,zeroValue267,underlying271,isAgg271,sizeOf271,zeroValue271,underlying296,isAgg296,sizeOf296,zeroValue296,underlying126,isAgg126,sizeOf126,zeroValue126⟩
open Go.RowKit Go.Lib Go.Sort in
theorem slices_SortFunc_none {α:Type} [Inhabited α] (p:Option Addr) (cap:Nat) (fv:Value) (w:World):
  Calls prog 132 #[.slice p 0 cap,fv] w fun e w'=>e=.returned (.tuple #[])/\w'=w:=AnyF.slices_SortFunc_none aUM p cap fv w
open Go.RowKit Go.Lib Go.Sort in
theorem slices_SortFunc_total {α:Type} [Inhabited α] (enc:α->Value) (S:OneCell enc) (j:α->α->Int) (O:SWO (ltOf j)) (g:Nat) (cb:Array Value) (blk off cap:Nat) (d:Array α) (w:World) (V:∀f w,(callFunc g f).run prog w=.ok (.enter g f) w) (u:CmpLays1 prog g cb enc j blk off d.size w) (hH:Holds enc w blk off d) (G:blk<w.heap.size) (I:d.size<4611686018427387904) (L:∀x y,(ltOf j) x y=false->(ltOf j) y x=false->x=y):
  Calls prog 132 #[.slice (some ⟨blk,off,none⟩) d.size cap,.func (.func g) #[] cb] w fun e w'=>
   e=.returned (.tuple #[])/\∃n J,w'=sortWorld enc w blk off n (d.toList.mergeSort fun x y=>!(ltOf j) y x).toArray J:=Any.slices_SortFunc_total aUK enc S j O g cb blk off cap d w V u hH G I L
end Go.Proofs
namespace Go.Proofs.YtgcpildegdgekaaGreatDoor
open Go.Proofs.Tryz
open Go.RowKit Go.Vm
noncomputable section
def uV:CnT:=cnL [(0,⟨[1,3,4,15,16,17],[1],[(.tmp 3,81,.int),(.tmp 4,82,.int)],[],[]⟩),(2,⟨[1,3,4,15,16,17,22,23,24],[1],[(.tmp 3,81,.int),(.tmp 4,82,.int)],[],[]⟩),(4,⟨[1,3,4,9,54,55,56],[1,82],[(.tmp 3,81,.int),(.tmp 9,83,.edge)],[],[]⟩),(6,⟨[1,4,9,67,68,69],[1],[(.tmp 4,81,.int),(.tmp 9,82,.edge),(.tmp 67,83,.int)],[],[]⟩)]
abbrev bCM:=List Pce->Int->Int->ByteArray->ByteArray->Int->Int->Int->Int->List aA->List aA->List Pce->zzI->zzI->Prop
def aGS (y0 y1:ByteArray) (y2 y3 y4 y5:Int) (y6 y7:List aA) (y8:List Pce) (Q:List Edg->Prop) (f:bCM):Prop:=f y8 (y8.length:Int) 0 y0 y1 y2 y3 y4 y5 y6 y7 y8 ([]) ([])
abbrev bCS:=List Pce->Int->Int->List aA->Int->Int->ByteArray->ByteArray->Int->Int->Int->Int->List aA->List aA->List Pce->zzI->zzI->Prop
def aGR (rec x0:bCM) (j:List Pce) (u f:Int) (O S:ByteArray) (V Z aF aW:Int) (aV J:List aA) (L:List Pce) (G I:zzI) (i1:bCS):Prop:=cond (decide (f<u)) ((let e0:=(j.getD f.toNat default);((0<=f/\f<j.length)/\i1 j u f e0.Rects (e0.Rects.length:Int) 0 O S V Z aF aW aV J L G I))) (x0 j u f O S V Z aF aW aV J L G I)
abbrev bCX:=Int->Int->ByteArray->ByteArray->Int->Int->Int->Int->List aA->List aA->List Pce->zzI->zzI->List Edg->Prop
def aGU (Q:List Edg->Prop) (t15:List Pce) (t16 t17:Int) (J L:ByteArray) (O S aF V:Int) (Z G:List aA) (I:List Pce) (j f:zzI) (u:bCX):Prop:=(((j.length<=2000000)/\(f.length<=2000000))/\u ((cY f).length:Int) 0 J L O S aF V Z G I (cY f) (cY j) ([]))
def aGQ (S x0:bCS):bCS:=fun J I G j u f bA aZ aY aX aF aW aV V Z L O=>cond (decide (f<u)) ((let e0:=(j.getD f.toNat default);((0<=f/\f<j.length)/\(((L.length+([e0.X,aB (e0.X+e0.W)]).length)*8<=140737488355328)/\(((O.length+([e0.Y,aB (e0.Y+e0.H)]).length)*8<=140737488355328)/\S J I G j u (aB (f+1)) bA aZ aY aX aF aW aV V Z (L++([e0.X,aB (e0.X+e0.W)])) (O++([e0.Y,aB (e0.Y+e0.H)]))))))) (x0 J I G j u f bA aZ aY aX aF aW aV V Z L O)
def aWN (G x0:bCM):bCS:=fun u j f t22 t23 t24 S V Z aX aF aW aV L O I J=>G u j (aB (f+1)) S V Z aX aF aW aV L O I J
def aGP (rec x0:bCX):bCX:=fun u f L O S V aF Z aV I J j G iZ=>cond (decide (f<u)) (((0<=f/\f<j.length)/\(let r0:=(N5 G L O S V aF Z aV I J (j.getD f.toNat default) (j.getD f.toNat default));(((S2 G L O S V aF Z aV I J (j.getD f.toNat default) (j.getD f.toNat default))/\((iZ.length+r0.length)*48<=140737488355328))/\rec u (aB (f+1)) L O S V aF Z aV I J j G (iZ++r0))))) (x0 u f L O S V aF Z aV I J j G iZ)
abbrev bCY:=Int->Int->ByteArray->ByteArray->Int->Int->Int->Int->List aA->List aA->List Pce->zzI->List Edg->zzI->Prop
def aGT (Q:List Edg->Prop) (t55 t56:Int) (L O:ByteArray) (S V aF Z:Int) (aV I:List aA) (J:List Pce) (G f:zzI) (j:List Edg) (u:bCY):Prop:=u (f.length:Int) 0 L O S V aF Z aV I J G j f
def aGO (rec x0:bCY):bCY:=fun u f L O S V aF Z aV I J G dY j=>cond (decide (f<u)) (((0<=f/\f<j.length)/\(let r0:=(N4 G L O S V aF Z aV I J (j.getD f.toNat default) (j.getD f.toNat default));(((S1 G L O S V aF Z aV I J (j.getD f.toNat default) (j.getD f.toNat default))/\((dY.length+r0.length)*48<=140737488355328))/\rec u (aB (f+1)) L O S V aF Z aV I J G (dY++r0) j)))) (x0 u f L O S V aF Z aV I J G dY j)
def aWM (Q:List Edg->Prop):bCY:=fun u j O S V Z aF aW aV J L I f G=>Q f
def Sl (F:Nat) (f:bCS):Nat->bCS
 |0=>fun _ _ _ _ _ _ _ _ _ _ _ _ _ _ _ _ _=>False
 |n+1=>aGQ (Sl F f n) f
def W7 (F:Nat) (L O:bCM):bCS:=fun J I G u j f bA aZ aY aX aF aW aV Z bR S V=>Sl F (aWN L O) F J I G u j f bA aZ aY aX aF aW aV Z bR S V
def Sk (F:Nat) (f:bCY):Nat->bCY
 |0=>fun _ _ _ _ _ _ _ _ _ _ _ _ _ _=>False
 |n+1=>aGO (Sk F f n) f
def Wm (F:Nat) (Q:List Edg->Prop):bCY:=fun j f O S V Z aF aW aV J L G I u=>Sk F (aWM Q) F j f O S V Z aF aW aV J L G I u
def Kg (F:Nat) (f:bCX):Nat->bCX
 |0=>fun _ _ _ _ _ _ _ _ _ _ _ _ _ _=>False
 |n+1=>aGP (Kg F f n) f
def W6 (F:Nat) (Q:List Edg->Prop):bCX:=fun j f O S V Z aF aW aV J L I G u=>Kg F (fun j f O S V Z aF aW aV J L I G u=>aGT Q j f O S V Z aF aW aV J L I G u (Wm F Q)) F j f O S V Z aF aW aV J L I G u
def xF (F:Nat) (f:bCM):Nat->bCM
 |0,_,_,_,_,_,_,_,_,_,_,_,_,_,_=>False
 |n+1,G,u,j,S,V,Z,aX,aF,aW,aV,L,O,I,J=>aGR (xF F f n) f G u j S V Z aX aF aW aV L O I J (W7 F (xF F f n) f)
def Wn (F:Nat) (Q:List Edg->Prop):bCM:=fun u j f O S V Z aF aW aV J L G I=>xF F (fun u j f O S V Z aF aW aV J L G I=>aGU Q u j f O S V Z aF aW aV J L G I (W6 F Q)) F u j f O S V Z aF aW aV J L G I
def aLD (F:Nat) (y0 y1:ByteArray) (y2 y3 y4 y5:Int) (y6 y7:List aA) (y8:List Pce) (Q:List Edg->Prop):Prop:=aGS y0 y1 y2 y3 y4 y5 y6 y7 y8 Q (Wn F Q)
def uH (s:zzI×zzI) (r:aA):zzI×zzI:=(s.1++[r.X,aB (r.X+r.W)],s.2++[r.Y,aB (r.Y+r.H)])
def gE (s:zzI×zzI) (p:Pce):zzI×zzI:=p.Rects.foldl uH s
def sR (ps:List Pce) (xs:zzI) (y:Int):List Edg:=alF (kM y) 0 (-1) (-1) (gZ (tV ps y) xs)
def qP (ps:List Pce) (ys:zzI) (x:Int):List Edg:=alF (kL x) 0 (-1) (-1) (gZ (tU ps x) ys)
def eQ (ps:List Pce):List Edg:=
 ((cY (ps.foldl gE ([],[])).2).foldl (fun m y=>m++sR ps (cY (ps.foldl gE ([],[])).1) y) []) |> (cY (ps.foldl gE ([],[])).1).foldl (fun m x=>m++qP ps (cY (ps.foldl gE ([],[])).2) x)
def aWo (ps:List Pce):Prop:=ps.length<=100/\∀p∈ps,p.Rects.length<=100
theorem aXp (s:zzI×zzI):∀(l:List aA) (s:zzI×zzI),(l.foldl uH s).1.length=s.1.length+2*l.length/\(l.foldl uH s).2.length=s.2.length+2*l.length:=by
 intro l
 induction l with
 |nil=>intro s;simp
 |cons r l f=>
  intro s;obtain⟨u,j⟩:=f (uH s r);rw[JY,u,j];simp only[uH,QM,QN,KW];omega
theorem Td (f:Int->Int×Int) (l:zzI):(gZ f l).length=l.length:=by unfold gZ;simp
theorem aHj (ps:List Pce) (xs:zzI) (y:Int):(sR ps xs y).length<=xs.length:=by
 have:=aI2 (kM y) (gZ (tV ps y) xs) 0 (-1) (-1);rw[Td] at this;exact this
theorem aHi (ps:List Pce) (ys:zzI) (x:Int):(qP ps ys x).length<=ys.length:=by
 have:=aI2 (kL x) (gZ (tU ps x) ys) 0 (-1) (-1);rw[Td] at this;exact this
def Uv (y0 y1:ByteArray) (y2 y3 y4 y5:Int) (y6 y7:List aA) (y8:List Pce):Prop:=aWo y8
def Tn (y0 y1:ByteArray) (y2 y3 y4 y5:Int) (y6 y7:List aA) (y8:List Pce):List Edg:=eQ y8
theorem aR4 (y0 y1:ByteArray) (y2 y3 y4 y5:Int) (y6 y7:List aA) (y8:List Pce) (h:Uv y0 y1 y2 y3 y4 y5 y6 y7 y8):∃F,∀Q:List Edg->Prop,Q (Tn y0 y1 y2 y3 y4 y5 y6 y7 y8)->aLD F y0 y1 y2 y3 y4 y5 y6 y7 y8 Q:=by
 obtain⟨h1,J⟩:=h;obtain⟨F,hF⟩:∃F:Nat,100000<F:=⟨100001,KI⟩;refine⟨F,fun Q hQ=>?_⟩;have G:y8.length<=2000000/\∀p∈y8,p.Rects.length<=2000000:=⟨KI,fun p hp=>by have:=J p hp;omega⟩;show Wn F Q y8 (y8.length:Int) 0 y0 y1 y2 y3 y4 y5 y6 y7 y8 [] [];unfold Wn;refine Bs y8 gE (fun i s=>s.1.length<=200*i/\s.2.length<=200*i) (fun s=>Q (((cY s.2).foldl (fun m y=>m++sR y8 (cY s.1) y) []) |> (cY s.1).foldl (fun m x=>m++qP y8 (cY s.2) x)))
  (fun n i s=>xF F _ n y8 (y8.length:Int) i y0 y1 y2 y3 y4 y5 y6 y7 y8 s.1 s.2) (fun i s hi I=>?_) (fun n i s hi I hw=>?_) (fun n s I u=>?_) F 0 ([],[]) KI KI XQ hQ
 ·have Z:=J _ (eF hi);obtain⟨e1,e2⟩:=aXp s (y8.getD i default).Rects s;unfold gE;omega
 ·show cond (decide ((i:Int)<(y8.length:Int))) _ _;rw[dD KI,QY];refine⟨⟨KI,KI⟩,?_⟩;rw[QZ];have Z:=J _ (eF hi);generalize y8.getD i default=p at hw Z;unfold W7;refine Bs p.Rects uH (fun j t=>t.1.length=s.1.length+2*j/\t.2.length=s.2.length+2*j) (fun t=>xF F _ n y8 (y8.length:Int) ((i+1:Nat):Int) y0 y1 y2 y3 y4 y5 y6 y7 y8 t.1 t.2)
   (fun m j t=>Sl F _ m y8 (y8.length:Int) i p.Rects (p.Rects.length:Int) j y0 y1 y2 y3 y4 y5 y6 y7 y8 t.1 t.2) (fun j t hj V=>?_) (fun m j t hj V L=>?_) (fun m t V u=>?_) F 0 s KI KI XQ hw
  ·simp only[uH,QM,QN,KW];omega
  ·show cond (decide ((j:Int)<(p.Rects.length:Int))) _ _;rw[dD KI,QY];refine⟨⟨KI,KI⟩,?_,?_,?_⟩
   ·simp only[QN,KW];omega
   ·simp only[QN,KW];omega
   ·rw[QZ,dX hj KI];exact L
  ·show cond (decide ((p.Rects.length:Int)<(p.Rects.length:Int))) _ _;rw[dB KI,QK];show xF _ _ _ _ _ (aB ((i:Int)+1)) _ _ _ _ _ _ _ _ _ _ _;rw[dX hi KI];exact u
 ·show cond (decide ((y8.length:Int)<(y8.length:Int))) _ _;rw[dB KI,QK];obtain⟨s1,s2⟩:=I;have hx:=Ey s.1;have hy:=Ey s.2;refine⟨⟨KI,KI⟩,?_⟩;generalize cY s.1=xs at hx u ⊢;generalize cY s.2=f at hy u ⊢;unfold W6;refine Bs f (fun m y=>m++sR y8 xs y) (fun i m=>m.length<=i*20000) (fun m=>Q (xs.foldl (fun m x=>m++qP y8 f x) m)) (fun n i m=>Kg F _ n (f.length:Int) i y0 y1 y2 y3 y4 y5 y6 y7 y8 f xs m) (fun i m hi hm=>?_) (fun n i m hi hm hw=>?_) (fun n m hm S=>?_) F 0 [] KI KI XQ u
  ·have:=aHj y8 xs (f.getD i default);rw[QM];omega
  ·show cond (decide ((i:Int)<(f.length:Int))) _ _;rw[dD KI,QY];refine⟨⟨KI,KI⟩,⟨⟨KI,G⟩,?_⟩,?_⟩
   ·have:=aHj y8 xs (f.getD i default);rw[QZ];have hi2:i<=20000:=KI;show (m.length+(sR y8 xs (f.getD i default)).length)*48<=_;omega
   ·rw[QZ,dX hi KI];exact hw
  ·show cond (decide ((f.length:Int)<(f.length:Int))) _ _;rw[dB KI,QK];show Wm F Q (xs.length:Int) 0 y0 y1 y2 y3 y4 y5 y6 y7 y8 f m xs;unfold Wm;refine Bs xs (fun m x=>m++qP y8 f x) (fun i k=>k.length<=m.length+i*20000) Q (fun n i k=>Sk F _ n (xs.length:Int) i y0 y1 y2 y3 y4 y5 y6 y7 y8 f k xs) (fun i k hi hk=>?_) (fun n i k hi hk hw=>?_) (fun n k hk O=>?_) F 0 m KI KI XQ S
   ·have:=aHi y8 f (xs.getD i default);rw[QM];omega
   ·show cond (decide ((i:Int)<(xs.length:Int))) _ _;rw[dD KI,QY];refine⟨⟨KI,KI⟩,⟨⟨KI,G⟩,?_⟩,?_⟩
    ·have:=aHi y8 f (xs.getD i default);rw[QZ];show (k.length+(qP y8 f (xs.getD i default)).length)*48<=_;omega
    ·rw[QZ,dX hi KI];exact hw
   ·show cond (decide ((xs.length:Int)<(xs.length:Int))) _ _;rw[dB KI,QK];exact O
def sD (y0 y1:ByteArray) (y2 y3 y4 y5:Int) (y6 y7:List aA) (y8:List Pce):Prop:=(Lq y0 y1 y2 y3 y4 y5 y6 y7 y8)/\(cond ((jK y0 y1 y2 y3 y4 y5 y6 y7 y8) !=0) (True) ((Uv y0 y1 y2 y3 y4 y5 y6 y7 y8)))
def dC (y0 y1:ByteArray) (y2 y3 y4 y5:Int) (y6 y7:List aA) (y8:List Pce):(List Edg)×Int:=cond ((jK y0 y1 y2 y3 y4 y5 y6 y7 y8) !=0) (([],(jK y0 y1 y2 y3 y4 y5 y6 y7 y8))) (((Tn y0 y1 y2 y3 y4 y5 y6 y7 y8),0))
def Ih:CnT:=cnL [(0,⟨[4,6,22,23,24],[4,6],[(.cell 6 0,39,.bool),(.cell 6 2,40,.bool),(.cell 6 3,41,.int),(.cell 6 4,42,.bool),(.cell 6 1,43,.bools)],[],[43]⟩)]
abbrev bCb:=List Bool->zzB->List Bool->zzI->List Bool->Prop
abbrev bC8:=List Pce->Int->Int->List Bool->List Bool->zzI->List Bool->zzB->Prop
def aEy (y0 y1:ByteArray) (y2 y3 y4 y5:Int) (y6 y7:List aA) (y8:List Pce) (a1:Int) (Q:bCb) (f:bC8):Prop:=((0<=a1/\a1=a1/\a1*1<=140737488355328)/\((0<=(y8.length:Int)/\(y8.length:Int)=(y8.length:Int)/\(y8.length:Int)*1<=140737488355328)/\((0<=(y8.length:Int)/\(y8.length:Int)=(y8.length:Int)/\(y8.length:Int)*8<=140737488355328)/\((0<=(y8.length:Int)/\(y8.length:Int)=(y8.length:Int)/\(y8.length:Int)*1<=140737488355328)/\f y8 (y8.length:Int) 0 (List.replicate a1.toNat (false:Bool)) (List.replicate ((y8.length:Int).toNat) (false:Bool)) (List.replicate ((y8.length:Int).toNat) (0:Int)) (List.replicate ((y8.length:Int).toNat) (false:Bool)) ([])))))
def aEx (I V:bC8):bC8:=fun j u f J L O S G=>cond (decide (f<u)) ((let e0:=(j.getD f.toNat default);((0<=f/\f<j.length)/\((0<=(e0.Cuts.length:Int)/\(e0.Cuts.length:Int)=(e0.Cuts.length:Int)/\(e0.Cuts.length:Int)*1<=140737488355328)/\(((G.length+1)*24<=140737488355328)/\I j u (aB (f+1)) J L O S (G++[(List.replicate ((e0.Cuts.length:Int).toNat) (false:Bool))])))))) (V j u f J L O S G)
def aVn (Q:bCb):bC8:=fun O L J f j u G I=>Q f I j u G
def Rp (F:Nat) (f:bC8):Nat->bC8
 |0=>fun _ _ _ _ _ _ _ _=>False
 |n+1=>aEx (Rp F f n) f
def U4 (F:Nat) (Q:bCb):bC8:=fun u j f G I J L O=>Rp F (aVn Q) F u j f G I J L O
def aKj (F:Nat) (y0 y1:ByteArray) (y2 y3 y4 y5:Int) (y6 y7:List aA) (y8:List Pce) (a1:Int) (Q:bCb):Prop:=aEy y0 y1 y2 y3 y4 y5 y6 y7 y8 a1 Q (U4 F Q)
theorem aT5 (x y w h:Int) (l:List aA):tS x y w h l=l.any (Mg x y w h):=Oi (Mg x y w h) l 0 KI
structure mZ (l:List aA) (s:List Bool×zzI):Prop where
 len:s.1.length=l.length
 cnt:s.2.length=s.1.count true
 mem:∀x∈s.2,0<=x/\x<l.length
theorem mZ.le {l:List aA} {s:List Bool×zzI} (h:mZ l s):s.2.length<=l.length:=by
 rw[h.cnt,<- h.len];exact List.count_le_length
theorem mZ.get {l:List aA} {s:List Bool×zzI} (h:mZ l s) {i:Nat} (hi:i<s.2.length):0<=s.2.getD i default/\s.2.getD i default<l.length:=h.mem _ (eF hi)
theorem mZ.add {l:List aA} {s:List Bool×zzI} (h:mZ l s) {k:Nat} (u:k<l.length) (hf:s.1.getD k default=false):mZ l (s.1.set k true,s.2++[(k:Int)]):=by
 have j:k<s.1.length:=by rw[h.len];exact u
 refine⟨by rw[KR];exact h.len,?_,fun x f=>?_⟩
 ·rw[QM,h.cnt,List.count_set (h:=j)];have e:s.1[k]=false:=by
   rw[List.getD_eq_getElem?_getD,JW j,Option.getD_some] at hf;exact hf
  rw[e];simp
 ·rcases QO.1 f with f|f
  ·exact h.mem x f
  ·obtain rfl:=JJ.1 f;exact⟨KI,KI⟩
theorem mZ.mF {l:List aA} {s:List Bool×zzI} (h:mZ l s) (a:Nat) {k:Nat} (f:k<l.length):mZ l (mF l a s k)/\s.2.length<=(Go.Proofs.YtgcpildegdgekaaGreatDoor.mF l a s k).2.length/\∀i,i<s.2.length->(Go.Proofs.YtgcpildegdgekaaGreatDoor.mF l a s k).2.getD i default=s.2.getD i default:=by
 unfold Go.Proofs.YtgcpildegdgekaaGreatDoor.mF;cases hf:s.1.getD k default with
 |true=>exact⟨h,QP _,fun _ _=>rfl⟩
 |false=>
  cases tL (l.getD a default) (l.getD k default) with
  |false=>exact⟨h,QP _,fun _ _=>rfl⟩
  |true=>
   refine⟨h.add f hf,XQ,fun i hi=>?_⟩;show (s.2++[(k:Int)]).getD i default=_;rw[List.getD_eq_getElem?_getD,KC hi,<- List.getD_eq_getElem?_getD]
theorem mZ.start {l:List aA} (h:1<=l.length):mZ l ((List.replicate l.length false).set 0 true,[0]):=by
 refine⟨XQ,?_,fun x f=>?_⟩
 ·rw[List.count_set (h:=by simp;omega)];simp;rw[List.count_eq_zero_of_not_mem];simp
 ·obtain rfl:=JJ.1 f;exact⟨KI,KI⟩
theorem aIT {α β:Type} [Inhabited α] (l:List α) (f:α->β) (Q:List β->Prop) (W:Nat->Int->List β->Prop) (I:∀n (i:Nat) (m:List β),m.length=i->i<l.length->W n ((i+1:Nat):Int) (m++[f (l.getD i default)])->W (n+1) i m)
  (J:∀n m,Q m->W (n+1) l.length m):∀(n i:Nat) (m:List β),m.length=i->i<=l.length->l.length<n+i->Q (m++(l.drop i).map f)->W n i m:=by
 intro n
 induction n with
 |zero=>intro i m u O L;omega
 |succ n G=>
  intro i m u O L j
  by_cases h:i<l.length
  ·rw[nR l i h,List.map_cons,List.append_cons] at j;exact I n i m u h (G (i+1) _ (by simp[u]) KI KI j)
  ·obtain rfl:i=l.length:=KI;rw[KK,List.map_nil,JP] at j;exact J n m j
def Ax (p:Pce):List Bool:=List.replicate p.Cuts.length false
def Lp (y0 y1:ByteArray) (y2 y3 y4 y5:Int) (y6 y7:List aA) (y8:List Pce) (a1:Int):Prop:=0<=a1/\a1<=1000000000000/\y8.length<=2000000/\∀p∈y8,p.Cuts.length<=2000000
def jW (y0 y1:ByteArray) (y2 y3 y4 y5:Int) (y6 y7:List aA) (y8:List Pce) (a1:Int):List Bool×zzB×List Bool×zzI×List Bool:=
 (List.replicate a1.toNat false,y8.map Ax,List.replicate y8.length false,List.replicate y8.length 0,List.replicate y8.length false)
theorem aRE (y0 y1:ByteArray) (y2 y3 y4 y5:Int) (y6 y7:List aA) (y8:List Pce) (a1:Int) (h:Lp y0 y1 y2 y3 y4 y5 y6 y7 y8 a1):∃F,∀Q:List Bool->zzB->List Bool->zzI->List Bool->Prop,Q ((jW y0 y1 y2 y3 y4 y5 y6 y7 y8 a1).1) ((jW y0 y1 y2 y3 y4 y5 y6 y7 y8 a1).2.1) ((jW y0 y1 y2 y3 y4 y5 y6 y7 y8 a1).2.2.1) ((jW y0 y1 y2 y3 y4 y5 y6 y7 y8 a1).2.2.2.1) ((jW y0 y1 y2 y3 y4 y5 y6 y7 y8 a1).2.2.2.2)->aKj F y0 y1 y2 y3 y4 y5 y6 y7 y8 a1 Q:=by
 obtain⟨G,J,I,u⟩:=h;refine⟨y8.length+1,fun Q j=>?_⟩;refine⟨⟨G,rfl,KI⟩,⟨KI,rfl,KI⟩,⟨KI,rfl,KI⟩,⟨KI,rfl,KI⟩,?_⟩;rw[QZ];unfold U4;refine aIT y8 Ax (fun m=>Q (List.replicate a1.toNat false) m (List.replicate y8.length false) (List.replicate y8.length 0) (List.replicate y8.length false)) (fun n i m=>Rp (y8.length+1) _ n y8 (y8.length:Int) i (List.replicate a1.toNat false) (List.replicate y8.length false) (List.replicate y8.length 0) (List.replicate y8.length false) m) (fun n i m hm hi hw=>?_) (fun n m f=>?_) (y8.length+1) 0 [] rfl KI KI j
 ·show cond (decide ((i:Int)<(y8.length:Int))) _ _;rw[dD KI,QY,QZ,dX hi KI];have:=u _ (eF hi);refine⟨⟨KI,KI⟩,⟨KI,rfl,KI⟩,KI,?_⟩;assumption
 ·show cond (decide ((y8.length:Int)<(y8.length:Int))) _ _;rw[dB KI,QK];exact f
def Ma (y0 y1:ByteArray) (y2 y3 y4 y5:Int) (y6 y7:List aA) (y8:List Pce):Prop:=(sD y0 y1 y2 y3 y4 y5 y6 y7 y8)/\(cond (((dC y0 y1 y2 y3 y4 y5 y6 y7 y8).2) !=0) (True) ((Lp y0 y1 y2 y3 y4 y5 y6 y7 y8 (((dC y0 y1 y2 y3 y4 y5 y6 y7 y8).1).length:Int))))
def kS (y0 y1:ByteArray) (y2 y3 y4 y5:Int) (y6 y7:List aA) (y8:List Pce):(List Bool)×(zzB)×(List Bool)×(zzI)×(List Bool)×Int:=cond (((dC y0 y1 y2 y3 y4 y5 y6 y7 y8).2) !=0) (([],[],[],[],[],(dC y0 y1 y2 y3 y4 y5 y6 y7 y8).2)) (((jW y0 y1 y2 y3 y4 y5 y6 y7 y8 (((dC y0 y1 y2 y3 y4 y5 y6 y7 y8).1).length:Int)).1,(jW y0 y1 y2 y3 y4 y5 y6 y7 y8 (((dC y0 y1 y2 y3 y4 y5 y6 y7 y8).1).length:Int)).2.1,(jW y0 y1 y2 y3 y4 y5 y6 y7 y8 (((dC y0 y1 y2 y3 y4 y5 y6 y7 y8).1).length:Int)).2.2.1,(jW y0 y1 y2 y3 y4 y5 y6 y7 y8 (((dC y0 y1 y2 y3 y4 y5 y6 y7 y8).1).length:Int)).2.2.2.1,(jW y0 y1 y2 y3 y4 y5 y6 y7 y8 (((dC y0 y1 y2 y3 y4 y5 y6 y7 y8).1).length:Int)).2.2.2.2,0))
def Ip:CnT:=cnL [(0,⟨[3,6,47,48,49],[3],[],[],[]⟩)]
abbrev bC6:=Bool->List Pce->Int->Int->List Bool->zzB->List Bool->zzI->List Bool->Prop
def aFe (I:List Bool) (J:zzB) (G:List Bool) (j:zzI) (u:List Bool) (z0 z1:ByteArray) (z2 z3 z4 Z:Int) (V S:List aA) (f:List Pce) (O:Int) (Q:Bool->Prop) (L:bC6):Prop:=cond ((((((I.length:Int) !=O)||((J.length:Int) !=(f.length:Int)))||((G.length:Int) !=(f.length:Int)))||((j.length:Int) !=(f.length:Int)))||((u.length:Int) !=(f.length:Int))) (Q false) (L false f (f.length:Int) 0 I J G j u)
def aFd (S x0 Z:bC6):bC6:=fun V j u f O G L J I=>cond (decide (f<u)) ((let e0:=(j.getD f.toNat default);((0<=f/\f<j.length)/\(let e1:=(G.getD f.toNat default);((0<=f/\f<G.length)/\cond ((e1.length:Int) !=(e0.Cuts.length:Int)) (x0 false j u f O G L J I) (S V j u (aB (f+1)) O G L J I)))))) (Z V j u f O G L J I)
def aWB (Q:Bool->Prop):bC6:=fun f G u j O S L J I=>Q f
def aWA (Q:Bool->Prop):bC6:=fun G u j f O S L J I=>Q true
def Sb (F:Nat) (j f:bC6):Nat->bC6
 |0=>fun _ _ _ _ _ _ _ _ _=>False
 |n+1=>aFd (Sb F j f n) j f
def V5 (F:Nat) (Q:Bool->Prop):bC6:=fun G u j f O S L J I=>Sb F (aWB Q) (aWA Q) F G u j f O S L J I
def aKt (F:Nat) (qr:List Bool) (ql:zzB) (qt:List Bool) (V:zzI) (Z:List Bool) (S O:ByteArray) (L J I G:Int) (u j:List aA) (f:List Pce) (a2:Int) (Q:Bool->Prop):Prop:=aFe qr ql qt V Z S O L J I G u j f a2 Q (V5 F Q)
def Im:CnT:=cnL [(0,⟨[2,3,6,9,10,11],[3],[],[],[]⟩)]
abbrev bC4:=Int->Bool->List Edg->Int->Int->List Bool->zzB->List Bool->zzI->List Bool->Prop
def aF4 (G:List Bool) (I:zzB) (u:List Bool) (f:zzI) (j:List Bool) (a1:List Edg) (L:Int) (Q:Bool->Prop) (J:bC4):Prop:=J L false a1 (a1.length:Int) 0 G I u f j
def aF3 (V x0 x1:bC4):bC4:=fun I Z u j f G S O L J=>cond (decide (f<j)) ((let e0:=(u.getD f.toNat default);((0<=f/\f<u.length)/\(let r1:=(xX e0.qaf e0.qag e0.qaj e0.qak e0.A e0.B I);(let e2:=(G.getD f.toNat default);((r1=true->0<=f/\f<G.length)/\cond (r1&&(!e2)) (x0 I false u j f G S O L J) (V I Z u j (aB (f+1)) G S O L J))))))) (x1 I Z u j f G S O L J)
def aVy (Q:Bool->Prop):bC4:=fun I f G u j S V O L J=>Q f
def aVx (Q:Bool->Prop):bC4:=fun I G u j f S V O L J=>Q true
def Rz (F:Nat) (j f:bC4):Nat->bC4
 |0=>fun _ _ _ _ _ _ _ _ _ _=>False
 |n+1=>aF3 (Rz F j f n) j f
def Wc (F:Nat) (Q:Bool->Prop):bC4:=fun I G u j f S V O L J=>Rz F (aVy Q) (aVx Q) F I G u j f S V O L J
def aKq (F:Nat) (G:List Bool) (I:zzB) (u:List Bool) (f:zzI) (j:List Bool) (a1:List Edg) (J:Int) (Q:Bool->Prop):Prop:=aF4 G I u f j a1 J Q (Wc F Q)
def Jc:CnT:=cnL [(0,⟨[0,1,4,7,8],[],[],[],[]⟩)]
abbrev bCi:=List Bool->Bool->Int->Int->Int->Prop
def aGd (a0:List Bool) (a1:Bool) (Q:Int->Prop) (f:bCi):Prop:=f a0 a1 0 (a0.length:Int) 0
def aGc (I O L:bCi):bCi:=fun j G J u f=>cond (decide (f<u)) ((let e0:=(j.getD f.toNat default);((0<=f/\f<j.length)/\cond (G==e0) (O j G f u f) (I j G J u (aB (f+1)))))) (L j G J u f)
def aWT (Q:Int->Prop):bCi:=fun I G f u j=>Q f
def aWS (Q:Int->Prop):bCi:=fun I G u j f=>Q (-1)
def Sw (F:Nat) (j f:bCi):Nat->bCi
 |0=>fun _ _ _ _ _=>False
 |n+1=>aGc (Sw F j f n) j f
def Ws (F:Nat) (Q:Int->Prop):bCi:=fun I G u j f=>Sw F (aWT Q) (aWS Q) F I G u j f
def aLL (F:Nat) (a0:List Bool) (a1:Bool) (Q:Int->Prop):Prop:=aGd a0 a1 Q (Ws F Q)
def Iv:CnT:=cnL [(0,⟨[3,9,10,11],[3],[],[],[]⟩)]
abbrev bCe:=List aA->Int->Int->Int->Int->Int->Int->Prop
def aGN (O L:ByteArray) (J I:Int) (f G u:List aA) (Q:Bool->Prop) (j:bCe):Prop:=j f (f.length:Int) 0 0 0 0 0
def aGM (u S:bCe):bCe:=fun G j f I J L O=>cond (decide (f<j)) ((let e0:=(G.getD f.toNat default);((0<=f/\f<G.length)/\cond (!(lF e0.X e0.Y e0.W e0.H)) (u G j (aB (f+1)) I J L O) (cond (L==0) (u G j (aB (f+1)) e0.X e0.Y e0.W e0.H) ((let Z:=aB ((ma (aB (I+L)) (aB (e0.X+e0.W)))-(mi I e0.X));(let V:=aB ((ma (aB (J+O)) (aB (e0.Y+e0.H)))-(mi J e0.Y));u G j (aB (f+1)) (mi I e0.X) (mi J e0.Y) Z V))))))) (S G j f I J L O)
def aWL (Q:Bool->Prop):bCe:=fun I G u J L j f=>Q (decide ((mi j f)<7200))
def Si (F:Nat) (f:bCe):Nat->bCe
 |0=>fun _ _ _ _ _ _ _=>False
 |n+1=>aGM (Si F f n) f
def Wl (F:Nat) (Q:Bool->Prop):bCe:=fun u j f J L I G=>Si F (aWL Q) F u j f J L I G
def aLC (F:Nat) (J I:ByteArray) (G u:Int) (L j f:List aA) (Q:Bool->Prop):Prop:=aGN J I G u L j f Q (Wl F Q)
def M9 (O L J I G u j f:Int):Bool:=(tR G u j f O L J I)
def Iy:CnT:=cnL [(0,⟨[0,1,4,7,8],[],[],[],[]⟩)]
def aG5 (l:List aA) (G u j f:Int) (Q:Int->Prop) (I:bC0):Prop:=I l G u j f 0 (l.length:Int) 0
def aG4 (O Z V:bC0):bC0:=fun j L G I J S u f=>cond (decide (f<u)) ((let e0:=(j.getD f.toNat default);(let r1:=(M9 e0.X e0.Y e0.W e0.H L G I J);((0<=f/\f<j.length)/\cond r1 (Z j L G I J f u f) (O j L G I J S u (aB (f+1))))))) (V j L G I J S u f)
def aWR (Q:Int->Prop):bC0:=fun G O I J L f u j=>Q f
def aWQ (Q:Int->Prop):bC0:=fun G O I J L u j f=>Q (-1)
def Ss (F:Nat) (j f:bC0):Nat->bC0
 |0=>fun _ _ _ _ _ _ _ _=>False
 |n+1=>aG4 (Ss F j f n) j f
def Wp (F:Nat) (Q:Int->Prop):bC0:=fun G O I J L u j f=>Ss F (aWR Q) (aWQ Q) F G O I J L u j f
def aLH (F:Nat) (l:List aA) (G u j f:Int) (Q:Int->Prop):Prop:=aG5 l G u j f Q (Wp F Q)
def Zl (f:zzB) (ps:List Pce):Bool:=(List.range ps.length).any fun i=>((f.getD i default).length:Int) !=((ps.getD i default).Cuts.length:Int)
def wN (I:List Bool) (f:zzB) (G:List Bool) (j:zzI) (u:List Bool) (ps:List Pce) (J:Int):Bool:=
 cond ((((((I.length:Int) !=J)||((f.length:Int) !=(ps.length:Int)))||((G.length:Int) !=(ps.length:Int)))||((j.length:Int) !=(ps.length:Int)))||((u.length:Int) !=(ps.length:Int))) false (!(Zl f ps))
def R4 (qr:List Bool) (ql:zzB) (qt:List Bool) (V:zzI) (Z:List Bool) (S O:ByteArray) (L J I G:Int) (u j:List aA) (f:List Pce) (a2:Int):Prop:=f.length<=2000000
def Tl (I:List Bool) (J:zzB) (G:List Bool) (j:zzI) (u:List Bool) (z0 z1:ByteArray) (z2 z3 Z V:Int) (S O:List aA) (f:List Pce) (L:Int):Bool:=wN I J G j u f L
theorem aRR (J:List Bool) (j:zzB) (I:List Bool) (u:zzI) (G:List Bool) (z0 z1:ByteArray) (z2 z3 Z V:Int) (S O:List aA) (f:List Pce) (L:Int) (h:R4 J j I u G z0 z1 z2 z3 Z V S O f L):∃F,∀Q:Bool->Prop,Q (Tl J j I u G z0 z1 z2 z3 Z V S O f L)->aKt F J j I u G z0 z1 z2 z3 Z V S O f L Q:=by
 have hl:f.length<=2000000:=h;refine⟨f.length+1,fun Q hQ=>?_⟩;unfold Tl wN at hQ;show cond _ _ _;cases hb:(((((J.length:Int) !=L)||((j.length:Int) !=(f.length:Int)))||((I.length:Int) !=(f.length:Int)))||((u.length:Int) !=(f.length:Int)))||((G.length:Int) !=(f.length:Int)) with
 |true=>
  grind
 |false=>
  rw[hb,QK] at hQ;rw[QK];have hh:j.length=f.length:=by
   grind
  unfold V5;refine sQ f.length (fun i=>((j.getD i default).length:Int) !=((f.getD i default).Cuts.length:Int)) (Q false) (Q true) (fun n i=>Sb (f.length+1) _ _ n false f (f.length:Int) i J j I u G) (fun n i hi hx hw=>?_) (fun n hy=>?_) (f.length+1) KI (fun q=>?_) (fun q=>?_)
  ·show cond (decide ((i:Int)<(f.length:Int))) _ _;rw[dD KI,QY,QZ,dX hi KI];refine⟨⟨KI,KI⟩,⟨KI,KI⟩,?_⟩;cases hb:((j.getD i default).length:Int) !=((f.getD i default).Cuts.length:Int) with
   |true=>exact hx hb
   |false=>grind
  ·show cond (decide ((f.length:Int)<(f.length:Int))) _ _;rw[dB KI,QK];exact hy
  ·grind [Zl]
  grind [Zl]
def ofB (e:Edg) (p:Int):Bool:=xX e.qaf e.qag e.qaj e.qak e.A e.B p
def Mh (f:List Bool) (es:List Edg) (p:Int) (i:Nat):Bool:=ofB (es.getD i default) p&&!(f.getD i default)
def jj (f:List Bool) (es:List Edg) (p:Int):Bool:=!((List.range es.length).any (Mh f es p))
def Ls (f:List Bool) (I:zzB) (G:List Bool) (j:zzI) (u:List Bool) (a1:List Edg) (J:Int):Prop:=a1.length<=1000000000000/\f.length=a1.length
def Ez (f:List Bool) (J:zzB) (I:List Bool) (u:zzI) (G:List Bool) (a1:List Edg) (j:Int):Bool:=jj f a1 j
theorem aRO (f:List Bool) (J:zzB) (I:List Bool) (u:zzI) (G:List Bool) (a1:List Edg) (j:Int) (h:Ls f J I u G a1 j):∃F,∀Q:Bool->Prop,Q (Ez f J I u G a1 j)->aKq F f J I u G a1 j Q:=by
 obtain⟨Z,hc⟩:=h;refine⟨a1.length+1,fun Q S=>?_⟩;unfold Ez jj at S;show Wc (a1.length+1) Q j false a1 (a1.length:Int) 0 f J I u G;unfold Wc;refine sQ a1.length (Mh f a1 j) (Q false) (Q true) (fun n i=>Rz (a1.length+1) _ _ n j false a1 (a1.length:Int) i f J I u G) (fun n i hi O hw=>?_) (fun n L=>?_) (a1.length+1) KI (fun q=>?_) (fun q=>?_)
 ·show cond (decide ((i:Int)<(a1.length:Int))) _ _;rw[dD KI,QY,QZ];have V:aB ((i:Int)+1)=((i+1:Nat):Int):=by grind [cN]
  rw[V];refine⟨⟨KI,KI⟩,fun _=>⟨KI,KI⟩,?_⟩;show cond (Mh f a1 j i) _ _;cases hb:Mh f a1 j i with
  |true=>exact O hb
  |false=>grind
 ·show cond (decide ((a1.length:Int)<(a1.length:Int))) _ _;rw[dB KI,QK];exact L
 ·grind
 grind
def Ve (l:List Bool) (b:Bool):Prop:=l.length<=2000000
def Tw (l:List Bool) (b:Bool):Int:=pJ (fun x=>b==x) l 0
theorem aRc (a0:List Bool) (a1:Bool) (h:Ve a0 a1):∃F,∀Q:Int->Prop,Q (Tw a0 a1)->aLL F a0 a1 Q:=by
 refine⟨a0.length+1,fun Q j=>?_⟩;show Ws (a0.length+1) Q a0 a1 0 (a0.length:Int) 0;unfold Ws;exact Xz a0 (fun x=>a1==x) h Q (fun n i=>Sw (a0.length+1) (fun _ _ f _ _=>Q f) (fun _ _ _ _ _=>Q (-1)) n a0 a1 0 a0.length i) (fun n i=>rfl) (a0.length+1) 0 KI KI j
def Ub (s:Int×Int×Int×Int) (r:aA):Int×Int×Int×Int:=cond (!(lF r.X r.Y r.W r.H)) s (cond (s.2.2.1==0) (r.X,r.Y,r.W,r.H)
 (mi s.1 r.X,mi s.2.1 r.Y,aB ((ma (aB (s.1+s.2.2.1)) (aB (r.X+r.W)))-(mi s.1 r.X)),aB ((ma (aB (s.2.1+s.2.2.2)) (aB (r.Y+r.H)))-(mi s.2.1 r.Y))))
def Uc (l:List aA):Bool:=decide (mi (l.foldl Ub (0,0,0,0)).2.2.1 (l.foldl Ub (0,0,0,0)).2.2.2<7200)
def Lw (L J:ByteArray) (I G:Int) (f u j:List aA):Prop:=f.length<=2000000
def Tm (L J:ByteArray) (I G:Int) (f u j:List aA):Bool:=Uc f
theorem aR3 (L J:ByteArray) (I G:Int) (f u j:List aA) (h:Lw L J I G f u j):∃F,∀Q:Bool->Prop,Q (Tm L J I G f u j)->aLC F L J I G f u j Q:=by
 have V:f.length<=2000000:=h;refine⟨f.length+1,fun Q S=>?_⟩;show Wl (f.length+1) Q f (f.length:Int) 0 0 0 0 0;unfold Wl;refine jl f Ub (fun s=>Q (decide (mi s.2.2.1 s.2.2.2<7200))) (fun n i s=>Si (f.length+1) _ n f (f.length:Int) i s.1 s.2.1 s.2.2.1 s.2.2.2) (fun n i s hi hw=>?_) (fun n s O=>?_) (f.length+1) 0 (0,0,0,0) KI KI S
 ·show cond (decide ((i:Int)<(f.length:Int))) _ _;grind [dX,Ub]
 ·show cond (decide ((f.length:Int)<(f.length:Int))) _ _;rw[dB KI,QK];exact O
def aEg (a b c d:Int) (r:aA):Bool:=M9 r.X r.Y r.W r.H a b c d
def Va (l:List aA) (a b c d:Int):Prop:=l.length<=2000000
def Ts (l:List aA) (a b c d:Int):Int:=pJ (aEg a b c d) l 0
theorem aR8 (l:List aA) (G u j f:Int) (h:Va l G u j f):∃F,∀Q:Int->Prop,Q (Ts l G u j f)->aLH F l G u j f Q:=by
 refine⟨l.length+1,fun Q J=>?_⟩;show Wp (l.length+1) Q l G u j f 0 (l.length:Int) 0;unfold Wp;exact Xz l (aEg G u j f) h Q (fun n i=>Ss (l.length+1) (fun _ _ _ _ _ I _ _=>Q I) (fun _ _ _ _ _ _ _ _=>Q (-1)) n l G u j f 0 l.length i) (fun n i=>rfl) (l.length+1) 0 KI KI J
def yJ (a0:List Bool) (a1:Bool):Prop:=(Ve a0 a1)
def qX (a0:List Bool) (a1:Bool):Bool:=decide (0<=(Tw a0 a1))
def yI (L:List Bool) (u:zzB) (G:List Bool) (J:zzI) (I:List Bool) (a1:List Edg) (f j V S O:Int):Prop:=(0<=f/\f<I.length)/\(cond (I.getD f.toNat default) (True) ((cond (decide (0<=j)) ((0<=f/\f<u.length)/\(0<=j/\j<(u.getD f.toNat default).length)) ((0<=f/\f<G.length)/\((!(G.getD f.toNat default))=true->((0<=f/\f<u.length)/\yJ (u.getD f.toNat default) false))/\(((!(G.getD f.toNat default))&&(!(qX (u.getD f.toNat default) false)))=true->Ls L u G J I a1 f)))))
def vC (L:List Bool) (u:zzB) (I:List Bool) (J:zzI) (G:List Bool) (a1:List Edg) (f j V S O:Int):Bool:=cond (G.getD f.toNat default) (false) (cond (decide (0<=j)) (!((u.getD f.toNat default).getD j.toNat default)) ((((!(I.getD f.toNat default))&&(!(qX (u.getD f.toNat default) false)))&&(!(Ez L u I J G a1 f)))))
def Vj (l:List aA) (G u j f:Int):Prop:=(Va l G u j f)
def Fj (l:List aA) (G u j f:Int):Bool:=decide (0<=(Ts l G u j f))
def Ij:CnT:=cnL [(0,⟨[0,4,49,50,51],[],[(.tmp 49,60,.rect)],[],[]⟩)]
abbrev bCh:=List aA->Bool->Int->Int->List aA->Prop
def aFN (a0:List aA) (f j:Int) (Q:Bool->Prop) (G:bCh):Prop:=cond ((((decide (f<(-4194304)))||(decide (4194304<f)))||(decide (j<(-4194304))))||(decide (4194304<j))) (Q false) ((let u:=(([(aA.mk (aB (f-1)) (aB (j-1)) 1 1),(aA.mk f (aB (j-1)) 1 1),(aA.mk (aB (f-1)) j 1 1),(aA.mk f j 1 1)]).length:Int);G a0 false u 0 ([(aA.mk (aB (f-1)) (aB (j-1)) 1 1),(aA.mk f (aB (j-1)) 1 1),(aA.mk (aB (f-1)) j 1 1),(aA.mk f j 1 1)])))
def aFM (I O L:bCh):bCh:=fun G J u f j=>cond (decide (f<u)) (((0<=f/\f<j.length)/\(let S:=(Fj G ((j.getD f.toNat default).X) ((j.getD f.toNat default).Y) ((j.getD f.toNat default).W) ((j.getD f.toNat default).H));((Vj G ((j.getD f.toNat default).X) ((j.getD f.toNat default).Y) ((j.getD f.toNat default).W) ((j.getD f.toNat default).H))/\cond (!S) (O G false u f j) (I G J u (aB (f+1)) j))))) (L G J u f j)
def aVr (Q:Bool->Prop):bCh:=fun G f u j I=>Q f
def aVq (Q:Bool->Prop):bCh:=fun G u j f I=>Q true
def Rt (F:Nat) (j f:bCh):Nat->bCh
 |0=>fun _ _ _ _ _=>False
 |n+1=>aFM (Rt F j f n) j f
def Vy (F:Nat) (Q:Bool->Prop):bCh:=fun G u j f I=>Rt F (aVr Q) (aVq Q) F G u j f I
def aKm (F:Nat) (a0:List aA) (f j:Int) (Q:Bool->Prop):Prop:=aFN a0 f j Q (Vy F Q)
def four (x y:Int):List aA:=[aA.mk (aB (x-1)) (aB (y-1)) 1 1,aA.mk x (aB (y-1)) 1 1,aA.mk (aB (x-1)) y 1 1,aA.mk x y 1 1]
def A5 (l:List aA) (q:aA):Bool:=Fj l q.X q.Y q.W q.H
def yE (l:List aA) (x y:Int):Bool:=cond ((((decide (x<(-4194304)))||(decide (4194304<x)))||(decide (y<(-4194304))))||(decide (4194304<y))) false (!((four x y).any fun q=>!(A5 l q)))
def Uq (l:List aA) (x y:Int):Prop:=l.length<=2000000
def w7 (l:List aA) (x y:Int):Bool:=yE l x y
theorem aRJ (a0:List aA) (f j:Int) (h:Uq a0 f j):∃F,∀Q:Bool->Prop,Q (w7 a0 f j)->aKm F a0 f j Q:=by
 have J:a0.length<=2000000:=h;refine⟨5,fun Q u=>?_⟩;unfold w7 yE at u;show cond _ _ _;cases hb:(((decide (f<(-4194304)))||(decide (4194304<f)))||(decide (j<(-4194304))))||(decide (4194304<j)) with
 |true=>
  grind
 |false=>
  rw[hb,QK] at u;rw[QK];show Vy 5 Q a0 false 4 0 (four f j);have L:(four f j).length=4:=rfl;unfold Vy;refine uB (four f j) (fun q=>!(A5 a0 q)) (Q false) (Q true) (fun n i=>Rt 5 _ _ n a0 false 4 i (four f j)) (fun n i hi I hw=>?_) (fun n G=>?_) 5 KI (fun q=>?_) (fun q=>?_)
  ·show cond (decide ((i:Int)<4)) _ _;rw[dD KI,QY,QZ,dX hi KI];refine⟨⟨KI,KI⟩,h,?_⟩;show cond (!(A5 a0 ((four f j).getD i default))) _ _;cases hb:!(A5 a0 ((four f j).getD i default)) with
   |true=>exact I hb
   |false=>grind
  ·exact G
  ·grind
  grind
def Df:CnT:=cnL [(0,⟨[2,4,7,8,9,95,96,97],[4,7,9],[],[],[]⟩),(2,⟨[4,7,8,9,106,107,108],[4,7,9],[],[],[]⟩)]
abbrev bCT:=List Edg->Bool->List Pce->Int->Int->List Bool->zzB->List Bool->zzI->List Bool->Int->Int->Int->Int->Int->Int->Int->Prop
def aFU (qr:List Bool) (ql:zzB) (qt:List Bool) (V:zzI) (Z:List Bool) (z0 z1:ByteArray) (z2 z3 S O:Int) (L z7:List aA) (I:List Pce) (a2:List Edg) (G f J u j:Int) (Q:Bool->Prop) (i0:bCT):Prop:=cond (decide (0<=f)) ((let e0:=(I.getD G.toNat default);((0<=G/\G<I.length)/\(let e1:=(e0.Cuts.getD f.toNat default);((0<=f/\f<e0.Cuts.length)/\Q ((((decide (e1.X<u))&&(decide (u<(aB (e1.X+e1.W)))))&&(decide (e1.Y<j)))&&(decide (j<(aB (e1.Y+e1.H)))))))))) (((((((decide (u<0))||(decide (S<u)))||(decide (j<0)))||(decide (O<j)))=false->Uq L u j)/\cond (((((decide (u<0))||(decide (S<u)))||(decide (j<0)))||(decide (O<j)))||(w7 L u j)) (Q false) (i0 a2 false I (I.length:Int) 0 qr ql qt V Z G f J u j u j)))
def aFT (rec x0 x1:bCT):bCT:=fun J t8 j u f eG L O S V cK cP cZ dA Z I G=>cond (decide (f<u)) ((let e0:=(j.getD f.toNat default);((0<=f/\f<j.length)/\((Uq e0.Rects I G)/\cond (w7 e0.Rects I G) (x0 J false j u f eG L O S V cK cP cZ dA Z I G) (rec J t8 j u (aB (f+1)) eG L O S V cK cP cZ dA Z I G))))) (x1 J t8 j u f eG L O S V cK cP cZ dA Z I G)
def aFW (Q:Bool->Prop):bCT:=fun I f G u j Z J L O S cK cP cZ dA V aG aI=>Q f
abbrev bCW:=Bool->List Edg->Int->Int->List Bool->zzB->List Bool->zzI->List Bool->Int->Int->Int->Int->Int->Int->Int->Prop
def aFV (Q:Bool->Prop) (f:List Edg) (j:Bool) (t95:List Pce) (t96 t97:Int) (S:List Bool) (G:zzB) (I:List Bool) (J:zzI) (L:List Bool) (cK cP Z V O aG aI:Int) (u:bCW):Prop:=u j f (f.length:Int) 0 S G I J L cK cP Z V O aG aI
def aFS (rec x0 x1:bCW):bCW:=fun t8 j u f G O S V Z I cP cZ dA eW L J=>cond (decide (f<u)) ((let e0:=(j.getD f.toNat default);((0<=f/\f<j.length)/\(let r1:=(xX e0.qaf e0.qag e0.qaj e0.qak e0.A e0.B I);(let e2:=(G.getD f.toNat default);(let r3:=(N2 L J e0.qaf e0.qag e0.qaj e0.qak);((r1=true->0<=f/\f<G.length)/\cond ((r1&&(!e2))&&(decide (r3<=7200))) (x0 true j u f G O S V Z I cP cZ dA eW L J) (rec t8 j u (aB (f+1)) G O S V Z I cP cZ dA eW L J)))))))) (x1 t8 j u f G O S V Z I cP cZ dA eW L J)
def aVt (Q:Bool->Prop):bCW:=fun G u j f V I J L O cK cP cZ Z S aG aI=>Q G
def aVs (Q:Bool->Prop):bCW:=fun G u j f V I J L O cK cP cZ Z S aG aI=>Q false
def Rw (F:Nat) (j f:bCW):Nat->bCW
 |0=>fun _ _ _ _ _ _ _ _ _ _ _ _ _ _ _ _=>False
 |n+1=>aFS (Rw F j f n) j f
def Wa (F:Nat) (Q:Bool->Prop):bCW:=fun G u j f V I J L O cK cP cZ Z S aG aI=>Rw F (aVt Q) (aVs Q) F G u j f V I J L O cK cP cZ Z S aG aI
def Jq (F:Nat) (j f:bCT):Nat->bCT
 |0=>fun _ _ _ _ _ _ _ _ _ _ _ _ _ _ _ _ _=>False
 |n+1=>aFT (Jq F j f n) j f
def V0 (F:Nat) (Q:Bool->Prop):bCT:=fun I G u j f Z J L O S cK cP cZ dA V aG aI=>Jq F (aFW Q) (fun I G u j f Z J L O S cK cP cZ dA V aG aI=>aFV Q I G u j f Z J L O S cK cP cZ dA V aG aI (Wa F Q)) F I G u j f Z J L O S cK cP cZ dA V aG aI
def aKo (F:Nat) (qr:List Bool) (ql:zzB) (qt:List Bool) (qz:zzI) (qu:List Bool) (z0 Z:ByteArray) (V S O L:Int) (J I:List aA) (G:List Pce) (a2:List Edg) (u j f qx qy:Int) (Q:Bool->Prop):Prop:=aFU qr ql qt qz qu z0 Z V S O L J I G a2 u j f qx qy Q (V0 F Q)
def aVk (x y:Int) (e:Edg):Bool:=decide ((N2 x y e.qaf e.qag e.qaj e.qak)<=7200)
def Mj (f:List Bool) (es:List Edg) (p x y:Int) (i:Nat):Bool:=Mh f es p i&&aVk x y (es.getD i default)
def ar (w h:Int) (cl:List aA) (ps:List Pce) (es:List Edg) (f:List Bool) (p x y:Int):Bool:=
 cond (((((decide (x<0))||(decide (w<x)))||(decide (y<0)))||(decide (h<y)))||(yE cl x y)) false (cond (ps.any fun q=>yE q.Rects x y) false ((List.range es.length).any (Mj f es p x y)))
def aDF (r:aA) (x y:Int):Bool:=(((decide (r.X<x))&&(decide (x<(aB (r.X+r.W)))))&&(decide (r.Y<y)))&&(decide (y<(aB (r.Y+r.H))))
def vZ (w h:Int) (cl:List aA) (ps:List Pce) (es:List Edg) (f:List Bool) (p k x y:Int):Bool:=cond (decide (0<=k)) (aDF ((ps.getD p.toNat default).Cuts.getD k.toNat default) x y) (ar w h cl ps es f p x y)
def Lr (J:List Bool) (ql:zzB) (qt:List Bool) (qz:zzI) (qu:List Bool) (z0 z1:ByteArray) (z2 Z V S:Int) (I O:List aA) (u:List Pce) (G:List Edg) (f j L qx qy:Int):Prop:=
 (0<=f/\f<u.length)/\(0<=j->j<(u.getD f.toNat default).Cuts.length)/\I.length<=2000000/\u.length<=2000000/\(∀p∈u,p.Rects.length<=2000000)/\G.length<=2000000/\J.length=G.length
def Kq (S:List Bool) (ql:zzB) (qt:List Bool) (qz:zzI) (qu:List Bool) (z0 z1:ByteArray) (z2 z3 J I:Int) (G z7:List aA) (u:List Pce) (V:List Edg) (j f Z O L:Int):Bool:=vZ J I G u V S j f O L
theorem aRM (S:List Bool) (ql:zzB) (qt:List Bool) (qz:zzI) (qu:List Bool) (z0 z1:ByteArray) (z2 z3 z4 Z:Int) (V z7:List aA) (O:List Pce) (G:List Edg) (u I J j f:Int) (h:Lr S ql qt qz qu z0 z1 z2 z3 z4 Z V z7 O G u I J j f):
  ∃F,∀Q:Bool->Prop,Q (Kq S ql qt qz qu z0 z1 z2 z3 z4 Z V z7 O G u I J j f)->aKo F S ql qt qz qu z0 z1 z2 z3 z4 Z V z7 O G u I J j f Q:=by
 obtain⟨h1,h2,h3,h4,h5,h6,h7⟩:=h;obtain⟨F,hF⟩:∃F:Nat,4000000<F:=⟨4000001,KI⟩;refine⟨F,fun Q L=>?_⟩;unfold Kq vZ at L;show cond _ _ _;cases hh:decide (0<=I) with
 |true=>
  rw[hh] at L;have hh':=JU hh;exact⟨h1,⟨hh',h2 hh'⟩,L⟩
 |false=>
  rw[hh,QK] at L;rw[QK];refine⟨fun _=>h3,?_⟩;unfold ar at L;show cond _ _ _;cases hb:((((decide (j<0))||(decide (z4<j)))||(decide (f<0)))||(decide (Z<f)))||(yE V j f) with
  |true=>
   rw[hb] at L;rw[show (((((decide (j<0))||(decide (z4<j)))||(decide (f<0)))||(decide (Z<f)))||(w7 V j f))=true from hb];exact L
  |false=>
   rw[hb,QK] at L;rw[show (((((decide (j<0))||(decide (z4<j)))||(decide (f<0)))||(decide (Z<f)))||(w7 V j f))=false from hb,QK];unfold V0;refine uB O (fun q=>yE q.Rects j f) (Q false) (Q ((List.range G.length).any (Mj S G u j f))) (fun n i=>Jq F _ _ n G false O (O.length:Int) i S ql qt qz qu u I J j f j f) (fun n i hi hx hw=>?_) (fun n hy=>?_) F KI (fun q=>by rw[q] at L;exact L) (fun q=>by rw[q] at L;exact L)
   ·show cond (decide ((i:Int)<(O.length:Int))) _ _;rw[dD KI,QY,QZ,dX hi KI];refine⟨⟨KI,KI⟩,h5 _ (eF hi),?_⟩;show cond (yE (O.getD i default).Rects j f) _ _;cases hb:yE (O.getD i default).Rects j f with
    |true=>exact hx hb
    |false=>exact hw hb
   ·show cond (decide ((O.length:Int)<(O.length:Int))) _ _;rw[dB KI,QK];show Wa F Q false G (G.length:Int) 0 S ql qt qz qu u I J j f j f;unfold Wa;refine sQ G.length (Mj S G u j f) (Q true) (Q false) (fun n i=>Rw F _ _ n false G (G.length:Int) i S ql qt qz qu u I J j f j f) (fun n i hi hx hw=>?_) (fun n Oj=>?_) F KI (fun q=>by rw[q] at hy;exact hy) (fun q=>by rw[q] at hy;exact hy)
    ·show cond (decide ((i:Int)<(G.length:Int))) _ _;rw[dD KI,QY,QZ,dX hi KI];refine⟨⟨KI,KI⟩,fun _=>⟨KI,KI⟩,?_⟩;show cond (Mj S G u j f i) _ _;cases hb:Mj S G u j f i with
     |true=>exact hx hb
     |false=>exact hw hb
    ·show cond (decide ((G.length:Int)<(G.length:Int))) _ _;rw[dB KI,QK];exact Oj
def qR:CnT:=cnL [(109000,⟨[2,3,20,21,22,1000001,1000004,1000007,1000008],[4,7,8,109002,109003],[(.cell 109003 0,109035,.bool),(.cell 109003 2,109036,.bool),(.cell 109003 3,109037,.int),(.cell 109003 4,109038,.bool),(.cell 109003 1,109039,.bools)],[],[109039]⟩),(3,⟨[1,8,10,151,152],[8,10],[(.cell 10 0,181,.bool),(.cell 10 1,182,.bools),(.cell 10 2,183,.bool),(.cell 10 3,184,.int),(.cell 10 4,185,.bool)],[],[182]⟩),(1,⟨[1,4,7,8,10,133,134,135],[4,7,8,10],[(.cell 10 0,181,.bool),(.cell 10 1,182,.bools),(.cell 10 2,183,.bool),(.cell 10 3,184,.int),(.cell 10 4,185,.bool)],[],[182]⟩)]
abbrev bCZ:=List Bool->zzB->List Bool->zzI->List Bool->Int->Prop
abbrev bCH:=zzB->Int->Int->List Edg->ByteArray->ByteArray->Int->Int->Int->Int->List aA->List aA->List Pce->Int->Int->Int->Int->Int->List Bool->List Bool->zzI->List Bool->zzB->Prop
def aGC (y0 y1:ByteArray) (y2 y3 y4 y5:Int) (y6 y7:List aA) (y8:List Pce) (a1:List Edg) (L:List Bool) (J:zzB) (I:List Bool) (O:zzI) (G:List Bool) (f u j Z V:Int) (Q:bCZ) (i0:bCH):Prop:=(let r0:=(Tl L J I O G y0 y1 y2 y3 y4 y5 y6 y7 y8 (a1.length:Int));((R4 L J I O G y0 y1 y2 y3 y4 y5 y6 y7 y8 (a1.length:Int))/\cond (((!r0)||(decide (f<0)))||(decide ((y8.length:Int)<=f))) (Q ([]) ([]) ([]) ([]) ([]) 1) (cond (decide (u<(-1))) (Q ([]) ([]) ([]) ([]) ([]) 1) ((let e1:=(y8.getD f.toNat default);((0<=f/\f<y8.length)/\cond (decide ((e1.Cuts.length:Int)<=u)) (Q ([]) ([]) ([]) ([]) ([]) 1) (cond (decide (j<0)) (Q ([]) ([]) ([]) ([]) ([]) 1) (cond (decide (4<j)) (Q ([]) ([]) ([]) ([]) ([]) 1) (cond (decide (0<=u)) (cond (j !=0) (Q ([]) ([]) ([]) ([]) ([]) 1) ((let r2:=(vC L J I O G a1 f u j Z V);((yI L J I O G a1 f u j Z V)/\cond (!r2) (Q ([]) ([]) ([]) ([]) ([]) 12) ((let S:=(y8.getD f.toNat default);(let r4:=(Tm S.Name S.Material S.Gauge S.Grain S.Rects S.Cuts S.Forms);((((decide (u<0))&&(j==0))=true->((0<=f/\f<y8.length)/\Lw S.Name S.Material S.Gauge S.Grain S.Rects S.Cuts S.Forms))/\cond (((decide (u<0))&&(j==0))&&r4) (Q ([]) ([]) ([]) ([]) ([]) 15) ((let r5:=(Kq L J I O G y0 y1 y2 y3 y4 y5 y6 y7 y8 a1 f u j Z V);((Lr L J I O G y0 y1 y2 y3 y4 y5 y6 y7 y8 a1 f u j Z V)/\cond (!r5) (Q ([]) ([]) ([]) ([]) ([]) 14) (((L.length<=2000000)/\((I.length<=2000000)/\((O.length<=2000000)/\((G.length<=2000000)/\i0 J (J.length:Int) 0 a1 y0 y1 y2 y3 y4 y5 y6 y7 y8 f u j Z V L I O G ([]))))))))))))))))) ((let r6:=(vC L J I O G a1 f u j Z V);((yI L J I O G a1 f u j Z V)/\cond (!r6) (Q ([]) ([]) ([]) ([]) ([]) 12) ((let e7:=(y8.getD f.toNat default);(let r8:=(Tm e7.Name e7.Material e7.Gauge e7.Grain e7.Rects e7.Cuts e7.Forms);((((decide (u<0))&&(j==0))=true->((0<=f/\f<y8.length)/\Lw e7.Name e7.Material e7.Gauge e7.Grain e7.Rects e7.Cuts e7.Forms))/\cond (((decide (u<0))&&(j==0))&&r8) (Q ([]) ([]) ([]) ([]) ([]) 15) ((let r9:=(Kq L J I O G y0 y1 y2 y3 y4 y5 y6 y7 y8 a1 f u j Z V);((Lr L J I O G y0 y1 y2 y3 y4 y5 y6 y7 y8 a1 f u j Z V)/\cond (!r9) (Q ([]) ([]) ([]) ([]) ([]) 14) (((L.length<=2000000)/\((I.length<=2000000)/\((O.length<=2000000)/\((G.length<=2000000)/\i0 J (J.length:Int) 0 a1 y0 y1 y2 y3 y4 y5 y6 y7 y8 f u j Z V L I O G ([])))))))))))))))))))))))))
def aGB (V x0:bCH):bCH:=fun j u f I eG fA eZ eY eX Z jP jO iS cK cP cZ dA eW S O L J G=>cond (decide (f<u)) ((let e0:=(j.getD f.toNat default);((0<=f/\f<j.length)/\((e0.length<=2000000)/\(((G.length+1)*24<=140737488355328)/\V j u (aB (f+1)) I eG fA eZ eY eX Z jP jO iS cK cP cZ dA eW S O L J (G++[e0])))))) (x0 j u f I eG fA eZ eY eX Z jP jO iS cK cP cZ dA eW S O L J G)
abbrev bC2:=List Edg->Int->Int->List Bool->zzB->List Bool->zzI->List Bool->Prop
abbrev bCG:=List Edg->List Edg->Int->Int->ByteArray->ByteArray->Int->Int->Int->Int->List aA->List aA->List Pce->Int->Int->Int->Int->Int->List Bool->zzB->List Bool->zzI->List Bool->Prop
def aGE (Q:bCZ) (t20:zzB) (t21 t22:Int) (u:List Edg) (eG fA:ByteArray) (eZ eY eX Z:Int) (jP jO:List aA) (S:List Pce) (f J V dA eW:Int) (O I:List Bool) (G:zzI) (L:List Bool) (j:zzB) (i1:bC2) (i2:bCG):Prop:=cond (decide (0<=J)) (((0<=f/\f<j.length)/\((0<=J/\J<(j.getD f.toNat default).length)/\i1 u (S.length:Int) 0 O (j.set f.toNat ((j.getD f.toNat default).set J.toNat true)) I G L))) (((0<=f/\f<I.length)/\((0<=f/\f<G.length)/\i2 u u (u.length:Int) 0 eG fA eZ eY eX Z jP jO S f J V dA eW O j (I.set f.toNat true) (G.set f.toNat V) L)))
def aGA (S Z:bC2):bC2:=fun J j f O L u G I=>cond (decide (f<j)) ((let V:=(Ez O L u G I J f);((Ls O L u G I J f)/\((V=true->((0<=f/\f<u.length)/\((u.getD f.toNat default)=true->0<=f/\f<G.length)))/\cond (V&&(!((u.getD f.toNat default)&&(decide (0<(G.getD f.toNat default)))))) (((0<=f/\f<I.length)/\S J j (aB (f+1)) O L u G (I.set f.toNat true))) (S J j (aB (f+1)) O L u G I))))) (Z J j f O L u G I)
def aWI (Q:bCZ):bC2:=fun O j f G u L J I=>Q G u L J I 0
def aFz (G x0:bCG):bCG:=fun L j u f eG fA eZ eY eX O S V iS J cP cZ dA eW I Z iK iQ jB=>cond (decide (f<u)) ((let e0:=(j.getD f.toNat default);((0<=f/\f<j.length)/\(let r1:=(xX e0.qaf e0.qag e0.qaj e0.qak e0.A e0.B J);cond r1 (((0<=f/\f<I.length)/\G L j u (aB (f+1)) eG fA eZ eY eX O S V iS J cP cZ dA eW (I.set f.toNat true) Z iK iQ jB)) (G L j u (aB (f+1)) eG fA eZ eY eX O S V iS J cP cZ dA eW I Z iK iQ jB))))) (x0 L j u f eG fA eZ eY eX O S V iS J cP cZ dA eW I Z iK iQ jB)
def aGD (Q:bCZ) (t1 u:List Edg) (j f:Int) (eG fA:ByteArray) (eZ eY eX Z:Int) (jP jO:List aA) (L:List Pce) (cK cP cZ dA eW:Int) (I:List Bool) (G:zzB) (S:List Bool) (O:zzI) (J:List Bool) (V:bC2):Prop:=V t1 (L.length:Int) 0 I G S O J
def Se (F:Nat) (f:bC2):Nat->bC2
 |0=>fun _ _ _ _ _ _ _ _=>False
 |n+1=>aGA (Se F f n) f
def Mn (F:Nat) (Q:bCZ):bC2:=fun u j f I G O L J=>Se F (aWI Q) F u j f I G O L J
def Kd (F:Nat) (f:bCG):Nat->bCG
 |0=>fun _ _ _ _ _ _ _ _ _ _ _ _ _ _ _ _ _ _ _ _ _ _ _=>False
 |n+1=>aFz (Kd F f n) f
def Wi (F:Nat) (Q:bCZ):bCG:=fun G u j f eG fA eZ eY eX I J L Z cK cP cZ dA eW S O iK iQ V=>Kd F (fun G u j f eG fA eZ eY eX I J L Z cK cP cZ dA eW S O iK iQ V=>aGD Q G u j f eG fA eZ eY eX I J L Z cK cP cZ dA eW S O iK iQ V (Mn F Q)) F G u j f eG fA eZ eY eX I J L Z cK cP cZ dA eW S O iK iQ V
def Ke (F:Nat) (f:bCH):Nat->bCH
 |0=>fun _ _ _ _ _ _ _ _ _ _ _ _ _ _ _ _ _ _ _ _ _ _ _=>False
 |n+1=>aGB (Ke F f n) f
def Mo (F:Nat) (Q:bCZ):bCH:=fun u j f G eG fA eZ eY eX V Z jO iS cK cP cZ dA eW S O L J I=>Ke F (fun u j f G eG fA eZ eY eX V Z jO iS cK cP cZ dA eW S O L J I=>aGE Q u j f G eG fA eZ eY eX V Z jO iS cK cP cZ dA eW S O L J I (Mn F Q) (Wi F Q)) F u j f G eG fA eZ eY eX V Z jO iS cK cP cZ dA eW S O L J I
def aKx (F:Nat) (y0 y1:ByteArray) (y2 y3 y4 y5:Int) (y6 y7:List aA) (y8:List Pce) (a1:List Edg) (G:List Bool) (u:zzB) (j:List Bool) (V:zzI) (f:List Bool) (L J I S O:Int) (Q:bCZ):Prop:=aGC y0 y1 y2 y3 y4 y5 y6 y7 y8 a1 G u j V f L J I S O Q (Mo F Q)
theorem O6 {σ:Type} (len:Nat) (f:σ->Nat->σ) (I:Nat->σ->Prop) (Q:σ->Prop) (W:Nat->Int->σ->Prop) (L:∀s k,k<len->I k s->I (k+1) (f s k)) (G:∀n (i:Nat) s,i<len->I i s->W n ((i+1:Nat):Int) (f s i)->W (n+1) i s)
  (J:∀n s,I len s->Q s->W (n+1) len s):∀(n i:Nat) (s:σ),i<=len->len<n+i->I i s->Q ((List.range' i (len-i)).foldl f s)->W n i s:=by
 intro n
 induction n with
 |zero=>omega
 |succ n u=>
  intro i s S O hi j
  by_cases h:i<len
  ·rw[show len-i=(len-(i+1))+1 by omega,KB,JY] at j;grind
  grind
abbrev gA:=List Bool×zzB×List Bool×zzI×List Bool×Int
def yT (es:List Edg) (p:Int) (c:List Bool) (i:Nat):List Bool:=cond (ofB (es.getD i default) p) (c.set i true) c
def qF (es:List Edg) (p:Int) (f:List Bool):List Bool:=(List.range' 0 es.length).foldl (yT es p) f
def aHG (es:List Edg) (u j:List Bool) (f:zzI) (i:Nat):Bool:=jj u es i&&!((j.getD i default)&&(decide (0<f.getD i default)))
def Zp (es:List Edg) (G u:List Bool) (j:zzI) (f:List Bool) (i:Nat):List Bool:=cond (aHG es G u j i) (f.set i true) f
def Pf (es:List Edg) (n:Nat) (G u:List Bool) (f:zzI) (j:List Bool):List Bool:=(List.range' 0 n).foldl (Zp es G u f) j
def oT (e:Int):gA:=([],[],[],[],[],e)
def aLu (es:List Edg) (n:Nat) (G:List Bool) (j:zzB) (u:List Bool) (f:zzI) (I:List Bool) (p k:Nat):gA:=(G,j.set p ((j.getD p default).set k true),u,f,Pf es n G u f I,0)
def aLt (es:List Edg) (n:Nat) (G:List Bool) (I:zzB) (u:List Bool) (f:zzI) (J:List Bool) (p j:Int):gA:=(qF es p G,I,u.set p.toNat true,f.set p.toNat j,Pf es n (qF es p G) (u.set p.toNat true) (f.set p.toNat j) J,0)
def lN (es:List Edg) (n:Nat) (J:List Bool) (u:zzB) (I:List Bool) (f:zzI) (G:List Bool) (p k j:Int):gA:=cond (decide (0<=k)) (aLu es n J u I f G p.toNat k.toNat) (aLt es n J u I f G p j)
def doT (w h:Int) (cl:List aA) (ps:List Pce) (es:List Edg) (f:List Bool) (G:zzB) (J:List Bool) (u:zzI) (I:List Bool) (p k j x y:Int):gA:=
 cond (!(vC f G J u I es p k j x y)) (oT 12) (cond (((decide (k<0))&&(j==0))&&(Uc (ps.getD p.toNat default).Rects)) (oT 15) (cond (!(vZ w h cl ps es f p k x y)) (oT 14) (lN es ps.length f G J u I p k j)))
def doS (w h:Int) (cl:List aA) (ps:List Pce) (es:List Edg) (J:List Bool) (u:zzB) (I:List Bool) (f:zzI) (G:List Bool) (p k j x y:Int):gA:=
 cond (((!(wN J u I f G ps es.length))||(decide (p<0)))||(decide ((ps.length:Int)<=p))) (oT 1) (cond (decide (k<(-1))) (oT 1) (cond (decide (((ps.getD p.toNat default).Cuts.length:Int)<=k)) (oT 1) (cond (decide (j<0)) (oT 1) (cond (decide (4<j)) (oT 1)
  (cond (decide (0<=k)) (cond (j !=0) (oT 1) (doT w h cl ps es J u I f G p k j x y)) (doT w h cl ps es J u I f G p k j x y))))))
theorem Pb {I:List Bool} {f:zzB} {G:List Bool} {j:zzI} {u:List Bool} {ps:List Pce} {n:Nat} (h:wN I f G j u ps n=true):
  I.length=n/\f.length=ps.length/\G.length=ps.length/\j.length=ps.length/\u.length=ps.length/\∀i,i<ps.length->(f.getD i default).length=(ps.getD i default).Cuts.length:=by
 grind [wN,Zl]
theorem aT6 (es:List Edg) (p:Int):∀(l:List Nat) (f:List Bool),(l.foldl (yT es p) f).length=f.length:=by
 intro l
 induction l with
 |nil=>grind
 |cons i l j=>
  grind [yT]
section
variable (F:Nat) (Q:List Bool->zzB->List Bool->zzI->List Bool->Int->Prop) (hF:4000000<F) (es:List Edg) (he:es.length<=2000000)
include hF he
theorem do1 (n:Nat) (Z:n<=2000000) (G:List Bool) (I:zzB) (u:List Bool) (j:zzI) (J:List Bool) (V:G.length=es.length) (h2:u.length=n) (h3:j.length=n) (S:J.length=n)
  (O:Q G I u j (Pf es n G u j J) 0):Mn F Q es (n:Int) 0 G I u j J:=by
 unfold Mn;refine O6 n (Zp es G u j) (fun _ f=>f.length=n) (fun f=>Q G I u j f 0) (fun m i f=>Se F _ m es (n:Int) i G I u j f) (fun f i hi hf=>?_) (fun m i f hi hf hw=>?_) (fun m f hf L=>?_) F 0 J KI KI S O
 ·grind [Zp]
 ·show cond (decide ((i:Int)<(n:Int))) _ _;rw[dD KI,QY,QZ,dX hi KI];refine⟨⟨KI,V⟩,fun _=>⟨⟨KI,KI⟩,fun _=>⟨KI,KI⟩⟩,?_⟩;show cond (aHG es G u j i) _ _;grind [Zp]
 ·show cond (decide ((n:Int)<(n:Int))) _ _;rw[dB KI,QK];exact L
theorem do2 (y0 y1:ByteArray) (y2 y3 y4 y5:Int) (y6 y7:List aA) (ps:List Pce) (p k j x y:Int) (S:ps.length<=2000000) (J:List Bool) (I:zzB) (u:List Bool) (f:zzI) (G:List Bool) (h1:J.length=es.length) (h2:u.length=ps.length) (h3:f.length=ps.length) (Z:G.length=ps.length)
  (V:Q (qF es p J) I u f (Pf es ps.length (qF es p J) u f G) 0):Wi F Q es es (es.length:Int) 0 y0 y1 y2 y3 y4 y5 y6 y7 ps p k j x y J I u f G:=by
 unfold Wi;refine O6 es.length (yT es p) (fun _ c=>c.length=es.length) (fun c=>Q c I u f (Pf es ps.length c u f G) 0) (fun m i c=>Kd F _ m es es (es.length:Int) i y0 y1 y2 y3 y4 y5 y6 y7 ps p k j x y c I u f G) (fun c i hi L=>?_) (fun m i c hi L hw=>?_) (fun m c L O=>?_) F 0 J KI KI h1 V
 ·grind [yT]
 ·show cond (decide ((i:Int)<(es.length:Int))) _ _;grind [dX,ofB,yT]
 ·show cond (decide ((es.length:Int)<(es.length:Int))) _ _;rw[dB KI,QK];exact do1 F Q hF es he ps.length S c I u f G L h2 h3 Z O
theorem do0 (y0 y1:ByteArray) (y2 y3 y4 y5:Int) (y6 y7:List aA) (ps:List Pce) (p k j x y:Int) (V:ps.length<=2000000) (G:List Bool) (f:zzB) (J:List Bool) (I:zzI) (u:List Bool) (h0:f.length=ps.length) (h1:G.length=es.length) (h2:J.length=ps.length) (h3:I.length=ps.length) (Z:u.length=ps.length)
  (h5:∀r∈f,r.length<=2000000) (h6:0<=p/\p<ps.length) (h7:0<=k->k<(f.getD p.toNat default).length)
  (L:Q (lN es ps.length G f J I u p k j).1 (lN es ps.length G f J I u p k j).2.1 (lN es ps.length G f J I u p k j).2.2.1 (lN es ps.length G f J I u p k j).2.2.2.1 (lN es ps.length G f J I u p k j).2.2.2.2.1 (lN es ps.length G f J I u p k j).2.2.2.2.2):
  Mo F Q f (f.length:Int) 0 es y0 y1 y2 y3 y4 y5 y6 y7 ps p k j x y G J I u []:=by
 unfold Mo;have hl:f.length<=2000000:=KI;refine aIT f (fun r=>r) (fun m=>m=f) (fun n i m=>Ke F _ n f (f.length:Int) i es y0 y1 y2 y3 y4 y5 y6 y7 ps p k j x y G J I u m) (fun n i m hm hi hw=>?_) (fun n m hm=>?_) F 0 [] rfl KI KI XQ
 ·show cond (decide ((i:Int)<(f.length:Int))) _ _;grind [dX]
 ·subst hm;show cond (decide ((m.length:Int)<(m.length:Int))) _ _;rw[dB KI,QK];unfold lN at L;show cond (decide (0<=k)) _ _;cases S:decide (0<=k) with
  |true=>
   have O:=JU S;rw[S,QY] at L;rw[QY];exact⟨⟨h6.1,KI⟩,⟨O,h7 O⟩,do1 F Q hF es he ps.length V G _ J I u h1 h2 h3 Z L⟩
  |false=>
   rw[S,QK] at L;rw[QK];exact⟨⟨h6.1,KI⟩,⟨h6.1,KI⟩,do2 F Q hF es he y0 y1 y2 y3 y4 y5 y6 y7 ps p k j x y V G m _ _ u h1 (by grind) (by grind) Z L⟩
theorem aY1 (y0 y1:ByteArray) (y2 y3 y4 y5:Int) (y6 y7:List aA) (ps:List Pce) (p k j x y:Int) (hn:ps.length<=2000000) (S:∀q∈ps,q.Rects.length<=2000000/\q.Cuts.length<=2000000) (hcl:y6.length<=2000000) (u:List Bool) (f:zzB) (J:List Bool) (I:zzI) (G:List Bool)
  (Z:wN u f J I G ps es.length=true) (h6:0<=p/\p<ps.length) (h7:k<(ps.getD p.toNat default).Cuts.length)
  (L:Q (doT y4 y5 y6 ps es u f J I G p k j x y).1 (doT y4 y5 y6 ps es u f J I G p k j x y).2.1 (doT y4 y5 y6 ps es u f J I G p k j x y).2.2.1 (doT y4 y5 y6 ps es u f J I G p k j x y).2.2.2.1 (doT y4 y5 y6 ps es u f J I G p k j x y).2.2.2.2.1 (doT y4 y5 y6 ps es u f J I G p k j x y).2.2.2.2.2):
  (yI u f J I G es p k j x y)/\cond (!(vC u f J I G es p k j x y)) (Q [] [] [] [] [] 12)
   (((((decide (k<0))&&(j==0))=true->((0<=p/\p<ps.length)/\Lw (ps.getD p.toNat default).Name (ps.getD p.toNat default).Material (ps.getD p.toNat default).Gauge (ps.getD p.toNat default).Grain (ps.getD p.toNat default).Rects (ps.getD p.toNat default).Cuts (ps.getD p.toNat default).Forms)))/\cond (((decide (k<0))&&(j==0))&&(Uc (ps.getD p.toNat default).Rects)) (Q [] [] [] [] [] 15)
    ((Lr u f J I G y0 y1 y2 y3 y4 y5 y6 y7 ps es p k j x y)/\cond (!(vZ y4 y5 y6 ps es u p k x y)) (Q [] [] [] [] [] 14)
     ((u.length<=2000000)/\((J.length<=2000000)/\((I.length<=2000000)/\((G.length<=2000000)/\Mo F Q f (f.length:Int) 0 es y0 y1 y2 y3 y4 y5 y6 y7 ps p k j x y u J I G [])))))):=by
 obtain⟨f1,f2,f3,f4,f5,f6⟩:=Pb Z;have hp:p.toNat<ps.length:=KI;have hpm:=S _ (eF hp);have hlen:=f6 p.toNat hp;have h5:∀r∈f,r.length<=2000000:=fun r hr=>by
  grind [List.mem_iff_getElem]
 have V:yI u f J I G es p k j x y:=by
  unfold yI;refine⟨⟨h6.1,KI⟩,?_⟩;cases G.getD p.toNat default with
  |true=>trivial
  |false=>
   rw[QK];cases hk:decide (0<=k) with
   |true=>
    grind
   |false=>exact⟨⟨h6.1,KI⟩,fun _=>⟨⟨h6.1,KI⟩,show (f.getD p.toNat default).length<=2000000 by omega⟩,fun _=>⟨KI,f1⟩⟩
 unfold doT at L;refine⟨V,?_⟩;cases ho:!(vC u f J I G es p k j x y) with
 |true=>
  rw[ho] at L;exact L
 |false=>
  rw[ho,QK] at L;rw[QK];refine⟨fun _=>⟨⟨h6.1,KI⟩,hpm.1⟩,?_⟩;cases O:((decide (k<0))&&(j==0))&&(Uc (ps.getD p.toNat default).Rects) with
  |true=>
   rw[O] at L;exact L
  |false=>
   rw[O,QK] at L;rw[QK];refine⟨⟨⟨h6.1,KI⟩,fun _=>h7,hcl,hn,fun q hq=>(S q hq).1,he,f1⟩,?_⟩;cases hld:!(vZ y4 y5 y6 ps es u p k x y) with
   |true=>
    rw[hld] at L;exact L
   |false=>
    grind [do0]
end
def Lu (y0 y1:ByteArray) (y2 y3 y4 y5:Int) (y6 y7:List aA) (y8:List Pce) (a1:List Edg) (G:List Bool) (u:zzB) (j:List Bool) (V:zzI) (f:List Bool) (L J I S O:Int):Prop:=
 y8.length<=2000000/\(∀q∈y8,q.Rects.length<=2000000/\q.Cuts.length<=2000000)/\y6.length<=2000000/\a1.length<=2000000
def iW (y0 y1:ByteArray) (y2 y3 y4 y5:Int) (y6 y7:List aA) (y8:List Pce) (a1:List Edg) (G:List Bool) (u:zzB) (j:List Bool) (V:zzI) (f:List Bool) (L J I S O:Int):gA:=
 doS y4 y5 y6 y8 a1 G u j V f L J I S O
theorem aRY (y0 y1:ByteArray) (y2 y3 y4 y5:Int) (y6 y7:List aA) (y8:List Pce) (a1:List Edg) (L:List Bool) (G:zzB) (J:List Bool) (u:zzI) (I:List Bool) (p k j x y:Int) (h:Lu y0 y1 y2 y3 y4 y5 y6 y7 y8 a1 L G J u I p k j x y):
  ∃F,∀Q:List Bool->zzB->List Bool->zzI->List Bool->Int->Prop,Q ((iW y0 y1 y2 y3 y4 y5 y6 y7 y8 a1 L G J u I p k j x y).1) ((iW y0 y1 y2 y3 y4 y5 y6 y7 y8 a1 L G J u I p k j x y).2.1) ((iW y0 y1 y2 y3 y4 y5 y6 y7 y8 a1 L G J u I p k j x y).2.2.1) ((iW y0 y1 y2 y3 y4 y5 y6 y7 y8 a1 L G J u I p k j x y).2.2.2.1) ((iW y0 y1 y2 y3 y4 y5 y6 y7 y8 a1 L G J u I p k j x y).2.2.2.2.1) ((iW y0 y1 y2 y3 y4 y5 y6 y7 y8 a1 L G J u I p k j x y).2.2.2.2.2)->
   aKx F y0 y1 y2 y3 y4 y5 y6 y7 y8 a1 L G J u I p k j x y Q:=by
 obtain⟨V,h2,h3,h4⟩:=h;obtain⟨F,hF⟩:∃F:Nat,4000000<F:=⟨4000001,KI⟩;refine⟨F,fun Q f=>?_⟩;unfold iW doS at f;refine⟨show y8.length<=2000000 from V,?_⟩;show cond (((!(wN L G J u I y8 a1.length))||(decide (p<0)))||(decide ((y8.length:Int)<=p))) _ _;cases O:((!(wN L G J u I y8 a1.length))||(decide (p<0)))||(decide ((y8.length:Int)<=p)) with
 |true=>rw[O] at f;exact f
 |false=>
 rw[O,QK] at f;rw[QK];simp only[JG,Bool.not_eq_false',JS] at O;obtain⟨⟨g1,g2⟩,g3⟩:=O;cases c2:decide (k<(-1)) with
 |true=>rw[c2] at f;exact f
 |false=>
 rw[c2,QK] at f;rw[QK];refine⟨⟨KI,KI⟩,?_⟩;show cond (decide (((y8.getD p.toNat default).Cuts.length:Int)<=k)) _ _;cases S:decide (((y8.getD p.toNat default).Cuts.length:Int)<=k) with
 |true=>rw[S] at f;exact f
 |false=>
 rw[S,QK] at f;rw[QK];have g4:=KM S;cases c4:decide (j<0) with
 |true=>rw[c4] at f;exact f
 |false=>
 rw[c4,QK] at f;rw[QK];cases c5:decide (4<j) with
 |true=>rw[c5] at f;exact f
 |false=>
 rw[c5,QK] at f;rw[QK];have tail:=aY1 F Q hF a1 h4 y0 y1 y2 y3 y4 y5 y6 y7 y8 p k j x y V h2 h3 L G J u I g1 ⟨KI,KI⟩ KI;cases c6:decide (0<=k) with
 |true=>
  rw[c6,QY] at f;rw[QY];cases Z:j !=0 with
  |true=>rw[Z] at f;exact f
  |false=>
   rw[Z,QK] at f;rw[QK];exact tail f
 |false=>
  rw[c6,QK] at f;rw[QK];exact tail f
def Fz (y0 y1:ByteArray) (y2 y3 y4 y5:Int) (y6 y7:List aA) (y8:List Pce) (I:List Bool) (G:zzB) (u:List Bool) (j:zzI) (f:List Bool) (V O S L J:Int):Prop:=(sD y0 y1 y2 y3 y4 y5 y6 y7 y8)/\(cond (((dC y0 y1 y2 y3 y4 y5 y6 y7 y8).2) !=0) (True) ((Lu y0 y1 y2 y3 y4 y5 y6 y7 y8 ((dC y0 y1 y2 y3 y4 y5 y6 y7 y8).1) I G u j f V O S L J)))
def kJ (y0 y1:ByteArray) (y2 y3 y4 y5:Int) (y6 y7:List aA) (y8:List Pce) (I:List Bool) (G:zzB) (u:List Bool) (j:zzI) (f:List Bool) (V O S L J:Int):(List Bool)×(zzB)×(List Bool)×(zzI)×(List Bool)×Int:=cond (((dC y0 y1 y2 y3 y4 y5 y6 y7 y8).2) !=0) (([],[],[],[],[],(dC y0 y1 y2 y3 y4 y5 y6 y7 y8).2)) (((iW y0 y1 y2 y3 y4 y5 y6 y7 y8 ((dC y0 y1 y2 y3 y4 y5 y6 y7 y8).1) I G u j f V O S L J).1,(iW y0 y1 y2 y3 y4 y5 y6 y7 y8 ((dC y0 y1 y2 y3 y4 y5 y6 y7 y8).1) I G u j f V O S L J).2.1,(iW y0 y1 y2 y3 y4 y5 y6 y7 y8 ((dC y0 y1 y2 y3 y4 y5 y6 y7 y8).1) I G u j f V O S L J).2.2.1,(iW y0 y1 y2 y3 y4 y5 y6 y7 y8 ((dC y0 y1 y2 y3 y4 y5 y6 y7 y8).1) I G u j f V O S L J).2.2.2.1,(iW y0 y1 y2 y3 y4 y5 y6 y7 y8 ((dC y0 y1 y2 y3 y4 y5 y6 y7 y8).1) I G u j f V O S L J).2.2.2.2.1,(iW y0 y1 y2 y3 y4 y5 y6 y7 y8 ((dC y0 y1 y2 y3 y4 y5 y6 y7 y8).1) I G u j f V O S L J).2.2.2.2.2))
def Ix:CnT:=cnL [(0,⟨[2,3,6,7,8,9,11,33,34,35],[3,6,11],[],[],[]⟩)]
abbrev bC7:=List Bool->zzB->List Bool->zzI->List Bool->Int->Int->Prop
abbrev bCN:=Int->Int->List Edg->List Itm->Int->Int->ByteArray->ByteArray->Int->Int->Int->Int->List aA->List aA->List Pce->List Bool->zzB->List Bool->zzI->List Bool->Prop
def aGZ (Z V:ByteArray) (S O L J:Int) (I G:List aA) (ps:List Pce) (f:List Itm) (Q:bC7) (i0:bCN):Prop:=(let u:=(dC Z V S O L J I G ps);((sD Z V S O L J I G ps)/\cond (u.2 !=0) (Q ([]) ([]) ([]) ([]) ([]) 0 u.2) (cond (decide (128<(f.length:Int))) (Q ([]) ([]) ([]) ([]) ([]) 0 4) ((let j:=(jW Z V S O L J I G ps (u.1.length:Int));((Lp Z V S O L J I G ps (u.1.length:Int))/\i0 0 0 u.1 f (f.length:Int) 0 Z V S O L J I G ps j.1 j.2.1 j.2.2.1 j.2.2.2.1 j.2.2.2.2))))))
def aGY (rec x0 x1:bCN):bCN:=fun t7 t8 I j u f dF dE dK Z V J L O S iE iD iC iB iA=>cond (decide (f<u)) ((let e0:=(j.getD f.toNat default);((0<=f/\f<j.length)/\(let G:=(iW dF dE dK Z V J L O S I iE iD iC iB iA e0.Piece e0.Hole e0.Joints e0.Lead_X e0.Lead_Y);((Lu dF dE dK Z V J L O S I iE iD iC iB iA e0.Piece e0.Hole e0.Joints e0.Lead_X e0.Lead_Y)/\cond (G.2.2.2.2.2 !=0) (x0 f G.2.2.2.2.2 I j u f dF dE dK Z V J L O S iE iD iC iB iA) (rec t7 t8 I j u (aB (f+1)) dF dE dK Z V J L O S G.1 G.2.1 G.2.2.1 G.2.2.2.1 G.2.2.2.2.1)))))) (x1 t7 t8 I j u f dF dE dK Z V J L O S iE iD iC iB iA)
def aWP (Q:bC7):bCN:=fun j f J I G u dF dE dK dL gS L O S V Z iD iC iB iA=>Q ([]) ([]) ([]) ([]) ([]) j f
def aWO (Q:bC7):bCN:=fun Z V S O L J dF dE dK dL gS sX sW sV sU f j u G I=>Q f j u G I 0 0
def Sp (F:Nat) (j f:bCN):Nat->bCN
 |0=>fun _ _ _ _ _ _ _ _ _ _ _ _ _ _ _ _ _ _ _ _=>False
 |n+1=>aGY (Sp F j f n) j f
def X9 (F:Nat) (Q:bC7):bCN:=fun J I G u j f dF dE dK dL gS L O S V Z iD iC iB iA=>Sp F (aWP Q) (aWO Q) F J I G u j f dF dE dK dL gS L O S V Z iD iC iB iA
def aLE (F:Nat) (S O:ByteArray) (L J I G:Int) (u j:List aA) (ps:List Pce) (f:List Itm) (Q:bC7):Prop:=aGZ S O L J I G u j ps f Q (X9 F Q)
abbrev Rc:=List Bool×zzB×List Bool×zzI×List Bool×Int×Int
def vI (s:gA) (i e:Int):Rc:=(s.1,s.2.1,s.2.2.1,s.2.2.2.1,s.2.2.2.2.1,i,e)
def yD (D:gA->Itm->gA):List Itm->Nat->gA->Rc
 |[],_,s=>vI s 0 0
 |x::r,i,s=>cond ((D s x).2.2.2.2.2 !=0) (vI (oT 0) i (D s x).2.2.2.2.2) (yD D r (i+1) (D s x))
theorem aOc (D:gA->Itm->gA) (l:List Itm) (Q:Rc->Prop) (W:Nat->Int->gA->Prop) (u:∀n (i:Nat) s,i<l.length->cond ((D s (l.getD i default)).2.2.2.2.2 !=0) (Q (vI (oT 0) i (D s (l.getD i default)).2.2.2.2.2)) (W n ((i+1:Nat):Int) (D s (l.getD i default)))->W (n+1) i s)
  (G:∀n s,Q (vI s 0 0)->W (n+1) l.length s):∀(n i:Nat) (s:gA),i<=l.length->l.length<n+i->Q (yD D (l.drop i) i s)->W n i s:=by
 intro n
 induction n with
 |zero=>intro i s J I;omega
 |succ n j=>
  intro i s J I f
  by_cases h:i<l.length
  ·rw[nR l i h] at f;refine u n i s h ?_;unfold yD at f;cases hb:(D s (l.getD i default)).2.2.2.2.2 !=0 with
   |true=>
    rw[hb] at f;exact f
   |false=>
    rw[hb] at f;exact j (i+1) _ KI KI f
  ·obtain rfl:i=l.length:=KI;rw[KK] at f;exact G n s f
def eP (w h:Int) (cl:List aA) (ps:List Pce) (es:List Edg) (s:gA) (x:Itm):gA:=doS w h cl ps es s.1 s.2.1 s.2.2.1 s.2.2.2.1 s.2.2.2.2.1 x.Piece x.Hole x.Joints x.Lead_X x.Lead_Y
def jV (ps:List Pce) (es:List Edg):gA:=(List.replicate es.length false,ps.map Ax,List.replicate ps.length false,List.replicate ps.length 0,List.replicate ps.length false,0)
def Fv (O L:ByteArray) (J I G u:Int) (f j:List aA) (ps:List Pce) (S:List Itm):Prop:=
 sD O L J I G u f j ps/\(((dC O L J I G u f j ps).2 !=0)=false->(dC O L J I G u f j ps).1.length<=2000000/\ps.length<=2000000/\(∀q∈ps,q.Rects.length<=2000000/\q.Cuts.length<=2000000)/\f.length<=2000000)
def fC (S O:ByteArray) (L J G u:Int) (j I:List aA) (ps:List Pce) (f:List Itm):Rc:=
 cond ((dC S O L J G u j I ps).2 !=0) (vI (oT 0) 0 (dC S O L J G u j I ps).2) (cond (decide (128<(f.length:Int))) (vI (oT 0) 0 4)
  (yD (eP G u j ps (dC S O L J G u j I ps).1) f 0 (jV ps (dC S O L J G u j I ps).1)))
theorem aR7 (S O:ByteArray) (L J G u:Int) (j I:List aA) (ps:List Pce) (f:List Itm) (h:Fv S O L J G u j I ps f):∃F,∀Q:List Bool->zzB->List Bool->zzI->List Bool->Int->Int->Prop,Q ((fC S O L J G u j I ps f).1) ((fC S O L J G u j I ps f).2.1) ((fC S O L J G u j I ps f).2.2.1) ((fC S O L J G u j I ps f).2.2.2.1) ((fC S O L J G u j I ps f).2.2.2.2.1) ((fC S O L J G u j I ps f).2.2.2.2.2.1) ((fC S O L J G u j I ps f).2.2.2.2.2.2)->aLE F S O L J G u j I ps f Q:=by
 obtain⟨h1,h2⟩:=h;refine⟨f.length+1,fun Q V=>?_⟩;unfold fC at V;refine⟨h1,?_⟩;cases he:(dC S O L J G u j I ps).2 !=0 with
 |true=>
  rw[he] at V;exact V
 |false=>
 rw[he,QK] at V;rw[QK];obtain⟨g1,g2,g3,g4⟩:=h2 he;cases Z:decide (128<(f.length:Int)) with
 |true=>
  rw[Z] at V;exact V
 |false=>
 rw[Z,QK] at V;rw[QK];have hl':=KM Z;generalize (dC S O L J G u j I ps).1=es at V g1 ⊢;refine⟨⟨KI,KI,g2,fun p hp=>by have:=(g3 p hp).2;omega⟩,?_⟩;have e1:(jW S O L J G u j I ps (es.length:Int))=(List.replicate es.length false,ps.map Ax,List.replicate ps.length false,List.replicate ps.length 0,List.replicate ps.length false):=by
  unfold jW;rw[QZ]
 rw[e1];unfold X9;refine aOc (eP G u j ps es) f (fun t=>Q t.1 t.2.1 t.2.2.1 t.2.2.2.1 t.2.2.2.2.1 t.2.2.2.2.2.1 t.2.2.2.2.2.2) (fun n i s=>Sp (f.length+1) _ _ n 0 0 es f (f.length:Int) i S O L J G u j I ps s.1 s.2.1 s.2.2.1 s.2.2.2.1 s.2.2.2.2.1) (fun n i s hi hw=>?_) (fun n s hq=>?_) (f.length+1) 0 (jV ps es) KI KI V
 ·show cond (decide ((i:Int)<(f.length:Int))) _ _;rw[dD KI,QY,QZ,dX hi KI];refine⟨⟨KI,KI⟩,⟨g2,g3,g4,g1⟩,?_⟩;exact hw
 ·show cond (decide ((f.length:Int)<(f.length:Int))) _ _;rw[dB KI,QK];exact hq
def Vi (y0 y1:ByteArray) (y2 y3 y4 y5:Int) (y6 y7:List aA) (y8:List Pce) (a1:List Itm):Prop:=(Fv y0 y1 y2 y3 y4 y5 y6 y7 y8 a1)
def kH (y0 y1:ByteArray) (y2 y3 y4 y5:Int) (y6 y7:List aA) (y8:List Pce) (a1:List Itm):(List Bool)×(zzB)×(List Bool)×(zzI)×(List Bool)×Int×Int:=((fC y0 y1 y2 y3 y4 y5 y6 y7 y8 a1).1,(fC y0 y1 y2 y3 y4 y5 y6 y7 y8 a1).2.1,(fC y0 y1 y2 y3 y4 y5 y6 y7 y8 a1).2.2.1,(fC y0 y1 y2 y3 y4 y5 y6 y7 y8 a1).2.2.2.1,(fC y0 y1 y2 y3 y4 y5 y6 y7 y8 a1).2.2.2.2.1,(fC y0 y1 y2 y3 y4 y5 y6 y7 y8 a1).2.2.2.2.2.1,(fC y0 y1 y2 y3 y4 y5 y6 y7 y8 a1).2.2.2.2.2.2)
def Ig:CnT:=cnL [(0,⟨[4,24,25,26],[],[],[],[]⟩)]
abbrev bCp:=Int->zzB->Int->Int->Prop
def aEw (y0 y1:ByteArray) (y2 y3 y4 y5:Int) (y6 y7:List aA) (y8:List Pce) (a1:List Itm) (Q:Int->Prop) (j:bCp):Prop:=(let f:=(kH y0 y1 y2 y3 y4 y5 y6 y7 y8 a1);((Vi y0 y1 y2 y3 y4 y5 y6 y7 y8 a1)/\cond (f.2.2.2.2.2.2 !=0) (Q f.2.2.2.2.2.2) (((yJ f.2.2.1 false)/\cond (qX f.2.2.1 false) (Q 12) (j 0 f.2.1 (f.2.1.length:Int) 0)))))
def aEv (G L J:bCp):bCp:=fun I j u f=>cond (decide (f<u)) ((let e0:=(j.getD f.toNat default);((0<=f/\f<j.length)/\((yJ e0 false)/\cond (qX e0 false) (L 12 j u f) (G I j u (aB (f+1))))))) (J I j u f)
def aVm (Q:Int->Prop):bCp:=fun f G u j=>Q f
def aVl (Q:Int->Prop):bCp:=fun G u j f=>Q 0
def Ro (F:Nat) (j f:bCp):Nat->bCp
 |0=>fun _ _ _ _=>False
 |n+1=>aEv (Ro F j f n) j f
def Vw (F:Nat) (Q:Int->Prop):bCp:=fun G u j f=>Ro F (aVm Q) (aVl Q) F G u j f
def aKi (F:Nat) (y0 y1:ByteArray) (y2 y3 y4 y5:Int) (y6 y7:List aA) (y8:List Pce) (a1:List Itm) (Q:Int->Prop):Prop:=aEw y0 y1 y2 y3 y4 y5 y6 y7 y8 a1 Q (Vw F Q)
def rG (l:List Bool):Bool:=qX l false
def lp (t:Rc):Int:=cond (t.2.2.2.2.2.2 !=0) t.2.2.2.2.2.2 (cond (rG t.2.2.1) 12 (cond (t.2.1.any rG) 12 0))
def Fu (y0 y1:ByteArray) (y2 y3 y4 y5:Int) (y6 y7:List aA) (y8:List Pce) (a1:List Itm):Prop:=
 Fv y0 y1 y2 y3 y4 y5 y6 y7 y8 a1/\(((fC y0 y1 y2 y3 y4 y5 y6 y7 y8 a1).2.2.2.2.2.2 !=0)=false->(fC y0 y1 y2 y3 y4 y5 y6 y7 y8 a1).2.2.1.length<=2000000/\(fC y0 y1 y2 y3 y4 y5 y6 y7 y8 a1).2.1.length<=2000000/\∀r∈(fC y0 y1 y2 y3 y4 y5 y6 y7 y8 a1).2.1,r.length<=2000000)
def kX (y0 y1:ByteArray) (y2 y3 y4 y5:Int) (y6 y7:List aA) (y8:List Pce) (a1:List Itm):Int:=lp (fC y0 y1 y2 y3 y4 y5 y6 y7 y8 a1)
theorem aRD (y0 y1:ByteArray) (y2 y3 y4 y5:Int) (y6 y7:List aA) (y8:List Pce) (a1:List Itm) (h:Fu y0 y1 y2 y3 y4 y5 y6 y7 y8 a1):∃F,∀Q:Int->Prop,Q (kX y0 y1 y2 y3 y4 y5 y6 y7 y8 a1)->aKi F y0 y1 y2 y3 y4 y5 y6 y7 y8 a1 Q:=by
 obtain⟨S,u⟩:=h;refine⟨2000000+1,fun Q j=>?_⟩;unfold kX lp at j;refine⟨S,?_⟩;show cond ((fC y0 y1 y2 y3 y4 y5 y6 y7 y8 a1).2.2.2.2.2.2 !=0) _ _
 revert j u
 generalize L:fC y0 y1 y2 y3 y4 y5 y6 y7 y8 a1=t;intro u j;cases he:t.2.2.2.2.2.2 !=0 with
 |true=>
  rw[he] at j;show Q (fC y0 y1 y2 y3 y4 y5 y6 y7 y8 a1).2.2.2.2.2.2;grind
 |false=>
 obtain⟨Z,V,G⟩:=u he;rw[he,QK] at j;rw[QK];show yJ (fC y0 y1 y2 y3 y4 y5 y6 y7 y8 a1).2.2.1 false/\cond (qX (fC y0 y1 y2 y3 y4 y5 y6 y7 y8 a1).2.2.1 false) (Q 12) (Vw _ Q 0 (fC y0 y1 y2 y3 y4 y5 y6 y7 y8 a1).2.1 ((fC y0 y1 y2 y3 y4 y5 y6 y7 y8 a1).2.1.length:Int) 0);rw[L];refine⟨Z,?_⟩;show cond (rG t.2.2.1) _ _;cases O:rG t.2.2.1 with
 |true=>
  grind
 |false=>
 rw[O,QK] at j;rw[QK];generalize t.2.1=f at j V G ⊢;unfold Vw;refine uB f rG (Q 12) (Q 0) (fun n i=>Ro (2000000+1) _ _ n 0 f (f.length:Int) i) (fun n i hi J hw=>?_) (fun n I=>?_) (2000000+1) KI (fun q=>by grind) (fun q=>by grind)
 ·show cond (decide ((i:Int)<(f.length:Int))) _ _;rw[dD KI,QY,QZ,dX hi KI];refine⟨⟨KI,KI⟩,G _ (eF hi),?_⟩;show cond (rG (f.getD i default)) _ _;cases hb:rG (f.getD i default) with
  |true=>exact J hb
  |false=>grind
 ·show cond (decide ((f.length:Int)<(f.length:Int))) _ _;rw[dB KI,QK];exact I
def tC:CnT:=cnL [(0,⟨[1,2,7,9,11,12,41,42,43],[2,9],[(.tmp 11,157,.op)],[],[]⟩),(2,⟨[1,2,7,9,11,12,41,42,43,48,49,50],[2,9],[(.tmp 11,157,.op)],[],[]⟩),(4,⟨[2,7,9,11,12,68,69,70],[2,9],[(.tmp 11,157,.op),(.tmp 12,158,.op)],[],[]⟩),(6,⟨[2,7,9,11,12,18,19,68,69,70,103,104,105],[2,9,18],[(.tmp 11,157,.op),(.tmp 12,158,.op)],[],[]⟩)]
abbrev bBy:=List Itm->List Edg->List Pce->Int->Int->ByteArray->ByteArray->Int->Int->Int->Int->List aA->List aA->List Pce->List Bool->zzB->List Bool->zzI->List Bool->List Opn->Prop
def aF1 (y0 y1:ByteArray) (y2 y3 y4 y5:Int) (y6 y7:List aA) (y8:List Pce) (a1:List Itm) (Q:List Opn->Int->Prop) (u:bBy):Prop:=((Fu y0 y1 y2 y3 y4 y5 y6 y7 y8 a1)/\cond ((kX y0 y1 y2 y3 y4 y5 y6 y7 y8 a1) !=0) (Q ([]) (kX y0 y1 y2 y3 y4 y5 y6 y7 y8 a1)) ((let j:=(dC y0 y1 y2 y3 y4 y5 y6 y7 y8);((sD y0 y1 y2 y3 y4 y5 y6 y7 y8)/\(let f:=(kS y0 y1 y2 y3 y4 y5 y6 y7 y8);((Ma y0 y1 y2 y3 y4 y5 y6 y7 y8)/\u a1 j.1 y8 (y8.length:Int) 0 y0 y1 y2 y3 y4 y5 y6 y7 y8 f.1 f.2.1 f.2.2.1 f.2.2.2.1 f.2.2.2.2.1 ([])))))))
abbrev bCD:=List Itm->List Edg->List Pce->Int->Int->List aA->Int->Int->ByteArray->ByteArray->Int->Int->Int->Int->List aA->List aA->List Pce->List Bool->zzB->List Bool->zzI->List Bool->List Opn->Prop
def aF0 (rec x0:bBy) (t1:List Itm) (G:List Edg) (j:List Pce) (u f:Int) (bE bD:ByteArray) (bG bF bI bH:Int) (V Z:List aA) (S:List Pce) (aG:List Bool) (aI:zzB) (I:List Bool) (J:zzI) (L:List Bool) (O:List Opn) (i1:bCD):Prop:=cond (decide (f<u)) ((let e0:=(j.getD f.toNat default);((0<=f/\f<j.length)/\i1 t1 G j u f e0.Forms (e0.Forms.length:Int) 0 bE bD bG bF bI bH V Z S aG aI I J L O))) (x0 t1 G j u f bE bD bG bF bI bH V Z S aG aI I J L O)
abbrev bBz:=List Edg->List Itm->Int->Int->ByteArray->ByteArray->Int->Int->Int->Int->List aA->List aA->List Pce->List Bool->zzB->List Bool->zzI->List Bool->List Opn->List Opn->Prop
def aF2 (Q:List Opn->Int->Prop) (t1:List Itm) (f:List Edg) (t41:List Pce) (t42 t43:Int) (bE bD:ByteArray) (bG bF V Z:Int) (O S:List aA) (L:List Pce) (aG:List Bool) (aI:zzB) (u:List Bool) (G:zzI) (I:List Bool) (J:List Opn) (j:bBz):Prop:=j f t1 (t1.length:Int) 0 bE bD bG bF V Z O S L aG aI u G I J ([])
def aFZ (O x0:bCD):bCD:=fun V S J I G j u f bE bD bG bF bI bH bL bK bO aG aI Z eU eS L=>cond (decide (f<u)) ((let e0:=(j.getD f.toNat default);((0<=f/\f<j.length)/\(((L.length+([(Opn.mk 3 e0.X e0.Y e0.W e0.H 0)]).length)*48<=140737488355328)/\O V S J I G j u (aB (f+1)) bE bD bG bF bI bH bL bK bO aG aI Z eU eS (L++([(Opn.mk 3 e0.X e0.Y e0.W e0.H 0)])))))) (x0 V S J I G j u f bE bD bG bF bI bH bL bK bO aG aI Z eU eS L)
def aVw (G x0:bBy):bCD:=fun J I u j f t48 t49 t50 bE bD bG bF bI bH bL bK Z aG aI L O S V=>G J I u j (aB (f+1)) bE bD bG bF bI bH bL bK Z aG aI L O S V
abbrev bCC:=List Edg->Int->List Itm->Int->Int->List Edg->Int->Int->ByteArray->ByteArray->Int->Int->Int->Int->List aA->List aA->List Pce->List Bool->zzB->List Bool->zzI->List Bool->Int->Int->Int->Int->Int->List Opn->List Opn->Prop
def aFY (rec x0:bBz) (L:List Edg) (u:List Itm) (G j:Int) (bE bD:ByteArray) (bG bF bI bH:Int) (V Z:List aA) (J:List Pce) (aG:List Bool) (aI:zzB) (eV:List Bool) (eU:zzI) (eS:List Bool) (S jM:List Opn) (i3:bCC):Prop:=cond (decide (j<G)) ((let e0:=(u.getD j.toNat default);((0<=j/\j<u.length)/\(let f:=(bM 1 e0.Lead_X e0.Lead_Y);(((S.length+([(Opn.mk f.1 f.2.1 f.2.2.1 f.2.2.2.1 f.2.2.2.2.1 f.2.2.2.2.2)]).length)*48<=140737488355328)/\cond (decide (0<=e0.Hole)) ((let e2:=(J.getD e0.Piece.toNat default);((0<=e0.Piece/\e0.Piece<J.length)/\(let I:=(e2.Cuts.getD e0.Hole.toNat default);((0<=e0.Hole/\e0.Hole<e2.Cuts.length)/\((((S++([(Opn.mk f.1 f.2.1 f.2.2.1 f.2.2.2.1 f.2.2.2.2.1 f.2.2.2.2.2)])).length+(Tr I.X I.Y I.W I.H).length)*48<=140737488355328)/\(let O:=(kJ bE bD bG bF bI bH V Z J aG aI eV eU eS e0.Piece e0.Hole e0.Joints e0.Lead_X e0.Lead_Y);((Fz bE bD bG bF bI bH V Z J aG aI eV eU eS e0.Piece e0.Hole e0.Joints e0.Lead_X e0.Lead_Y)/\rec L u G (aB (j+1)) bE bD bG bF bI bH V Z J O.1 O.2.1 O.2.2.1 O.2.2.2.1 O.2.2.2.2.1 ((S++([(Opn.mk f.1 f.2.1 f.2.2.1 f.2.2.2.1 f.2.2.2.2.1 f.2.2.2.2.2)]))++(Tr I.X I.Y I.W I.H)) jM)))))))) (i3 L e0.Joints u G j L (L.length:Int) 0 bE bD bG bF bI bH V Z J aG aI eV eU eS e0.Piece e0.Hole e0.Joints e0.Lead_X e0.Lead_Y (S++([(Opn.mk f.1 f.2.1 f.2.2.1 f.2.2.2.1 f.2.2.2.2.1 f.2.2.2.2.2)])) jM)))))) (x0 L u G j bE bD bG bF bI bH V Z J aG aI eV eU eS S jM)
def aVv (Q:List Opn->Int->Prop):bBz:=fun J I G u bE bD bG bF bI bH Z bK V aG aI L O S j f=>(((j.length+f.length)*48<=140737488355328)/\Q (j++f) 0)
def aFX (V x0:bCC):bCC:=fun t7 G L J I j u f bE bD bG bF bI bH bL bK bO S aI eV eU eS O uM uL uK uJ eB jM=>cond (decide (f<u)) ((let e0:=(j.getD f.toNat default);((0<=f/\f<j.length)/\(let e1:=(S.getD f.toNat default);((0<=f/\f<S.length)/\cond (e1||((e0.A !=O)&&(e0.B !=O))) (V t7 G L J I j u (aB (f+1)) bE bD bG bF bI bH bL bK bO S aI eV eU eS O uM uL uK uJ eB jM) ((let Z:=(tP e0.qaf e0.qag e0.qaj e0.qak (decide (0<G)));(((eB.length+Z.1.length)*48<=140737488355328)/\(((jM.length+Z.2.length)*48<=140737488355328)/\V t7 (aB (G-1)) L J I j u (aB (f+1)) bE bD bG bF bI bH bL bK bO S aI eV eU eS O uM uL uK uJ (eB++Z.1) (jM++Z.2)))))))))) (x0 t7 G L J I j u f bE bD bG bF bI bH bL bK bO S aI eV eU eS O uM uL uK uJ eB jM)
def aVu (rec x0:bBz):bCC:=fun t7 t19 t68 t69 Z t103 t104 t105 S V L O I J u G j aG aI eV eU eS rN uM uL uK uJ eB jM=>(let f:=(kJ S V L O I J u G j aG aI eV eU eS rN uM uL uK uJ);((Fz S V L O I J u G j aG aI eV eU eS rN uM uL uK uJ)/\rec t7 t68 t69 (aB (Z+1)) S V L O I J u G j f.1 f.2.1 f.2.2.1 f.2.2.2.1 f.2.2.2.2.1 eB jM))
def Ry (F:Nat) (f:bCD):Nat->bCD
 |0=>fun _ _ _ _ _ _ _ _ _ _ _ _ _ _ _ _ _ _ _ _ _ _ _=>False
 |n+1=>aFZ (Ry F f n) f
def V2 (F:Nat) (L O:bBy):bCD:=fun V S J I G u j f bE bD bG bF bI bH bL bK bO aG aI Z eU eS eB=>Ry F (aVw L O) F V S J I G u j f bE bD bG bF bI bH bL bK bO aG aI Z eU eS eB
def Rx (F:Nat) (f:bCC):Nat->bCC
 |0=>fun _ _ _ _ _ _ _ _ _ _ _ _ _ _ _ _ _ _ _ _ _ _ _ _ _ _ _ _ _=>False
 |n+1=>aFX (Rx F f n) f
def V1 (F:Nat) (O S:bBz):bCC:=fun t7 L J I G u j f bE bD bG bF bI bH bL bK bO aG aI eV eU eS rN V Z uK uJ eB jM=>Rx F (aVu O S) F t7 L J I G u j f bE bD bG bF bI bH bL bK bO aG aI eV eU eS rN V Z uK uJ eB jM
def o7 (F:Nat) (f:bBz):Nat->bBz
 |0,_,_,_,_,_,_,_,_,_,_,_,_,_,_,_,_,_,_,_,_=>False
 |n+1,I,G,u,j,bE,bD,bG,bF,bI,bH,bL,bK,Z,aG,aI,L,O,S,V,J=>aFY (o7 F f n) f I G u j bE bD bG bF bI bH bL bK Z aG aI L O S V J (V1 F (o7 F f n) f)
def Wb (F:Nat) (Q:List Opn->Int->Prop):bBz:=fun G u j f bE bD bG bF bI bH Z bK V aG aI J L O S I=>o7 F (aVv Q) F G u j f bE bD bG bF bI bH Z bK V aG aI J L O S I
def xD (F:Nat) (f:bBy):Nat->bBy
 |0,_,_,_,_,_,_,_,_,_,_,_,_,_,_,_,_,_,_,_,_=>False
 |n+1,J,I,G,u,j,bE,bD,bG,bF,bI,bH,bL,bK,Z,aG,aI,L,O,S,V=>aF0 (xD F f n) f J I G u j bE bD bG bF bI bH bL bK Z aG aI L O S V (V2 F (xD F f n) f)
def V3 (F:Nat) (Q:List Opn->Int->Prop):bBy:=fun I G u j f bE bD bG bF bI bH Z bK V aG aI J L O S=>xD F (fun I G u j f bE bD bG bF bI bH Z bK V aG aI J L O S=>aF2 Q I G u j f bE bD bG bF bI bH Z bK V aG aI J L O S (Wb F Q)) F I G u j f bE bD bG bF bI bH Z bK V aG aI J L O S
def aKp (F:Nat) (y0 y1:ByteArray) (y2 y3 y4 y5:Int) (y6 y7:List aA) (y8:List Pce) (a1:List Itm) (Q:List Opn->Int->Prop):Prop:=aF1 y0 y1 y2 y3 y4 y5 y6 y7 y8 a1 Q (V3 F Q)
def mvO (k x y:Int):Opn:=Opn.mk k x y 0 0 0
def Ew (m:List Opn) (r:aA):List Opn:=m++[Opn.mk 3 r.X r.Y r.W r.H 0]
def Ev (m:List Opn) (p:Pce):List Opn:=p.Forms.foldl Ew m
def stamps (ps:List Pce):List Opn:=ps.foldl Ev []
abbrev o0:=Int×List Opn×List Opn
def edO (e:Edg) (b:Bool):List Opn×List Opn:=tP e.qaf e.qag e.qaj e.qak b
def oU (es:List Edg) (f:List Bool) (p:Int) (s:o0) (i:Nat):o0:=
 cond ((f.getD i default)||(((es.getD i default).A !=p)&&((es.getD i default).B !=p))) s (aB (s.1-1),s.2.1++(edO (es.getD i default) (decide (0<s.1))).1,s.2.2++(edO (es.getD i default) (decide (0<s.1))).2)
def Pg (es:List Edg) (f:List Bool) (p:Int) (s:o0):o0:=(List.range' 0 es.length).foldl (oU es f p) s
def Gs (r:aA):List Opn:=Tr r.X r.Y r.W r.H
abbrev Ic:=gA×List Opn×List Opn
def mM (D:gA->Itm->gA) (ps:List Pce) (es:List Edg) (t:Ic) (x:Itm):Ic:=
 cond (decide (0<=x.Hole)) (D t.1 x,(t.2.1++[mvO 1 x.Lead_X x.Lead_Y])++Gs ((ps.getD x.Piece.toNat default).Cuts.getD x.Hole.toNat default),t.2.2)
  (D t.1 x,(Pg es t.1.1 x.Piece (x.Joints,t.2.1++[mvO 1 x.Lead_X x.Lead_Y],t.2.2)).2.1,(Pg es t.1.1 x.Piece (x.Joints,t.2.1++[mvO 1 x.Lead_X x.Lead_Y],t.2.2)).2.2)
def nY (w h:Int) (cl:List aA) (ps:List Pce) (es:List Edg) (l:List Itm):List Opn:=
 (l.foldl (mM (eP w h cl ps es) ps es) (jV ps es,stamps ps,[])).2.1++(l.foldl (mM (eP w h cl ps es) ps es) (jV ps es,stamps ps,[])).2.2
def accept (D:gA->Itm->gA):List Itm->gA->Prop
 |[],_=>True
 |x::r,s=>(D s x).2.2.2.2.2=0/\accept D r (D s x)
theorem vf (D:gA->Itm->gA):∀(l:List Itm) (i:Nat) (s:gA),(yD D l i s).2.2.2.2.2.2=0->accept D l s:=by
 intro l
 induction l with
 |nil=>intro i s _;trivial
 |cons x l f=>
  intro i s h;unfold yD at h;cases hb:(D s x).2.2.2.2.2 !=0 with
  |true=>
   rw[hb,QY] at h;have j:(D s x).2.2.2.2.2=0:=h;grind
  |false=>
   rw[hb,QK] at h;exact⟨by grind,f _ _ h⟩
theorem Zx {w h:Int} {cl:List aA} {ps:List Pce} {es:List Edg} {J:List Bool} {u:zzB} {I:List Bool} {f:zzI} {G:List Bool} {p k j x y:Int} (L:(doS w h cl ps es J u I f G p k j x y).2.2.2.2.2=0):
  wN J u I f G ps es.length=true/\0<=p/\p<ps.length/\ -1<=k/\k<(ps.getD p.toNat default).Cuts.length/\0<=j/\j<=4:=by
 have O:∀e:Int,e≠0->(oT e).2.2.2.2.2=0->False:=fun e he h=>he h
 unfold doS at L;grind
theorem Zt (e:Edg) (b:Bool):(edO e b).1.length<=2/\(edO e b).2.length<=2:=by
 grind [edO,tP]
theorem ez (r:aA):(Gs r).length=5:=rfl
theorem aME (m:List Opn) (p:Pce):(Ev m p).length=m.length+p.Forms.length:=by
 unfold Ev;generalize p.Forms=l
 induction l generalizing m with
 |nil=>rfl
 |cons r l f=>
  grind [Ew]
theorem aXq (es:List Edg) (f:List Bool) (p:Int):∀(l:List Nat) (s:o0),(l.foldl (oU es f p) s).2.1.length<=s.2.1.length+2*l.length/\(l.foldl (oU es f p) s).2.2.length<=s.2.2.length+2*l.length:=by
 intro l
 induction l with
 |nil=>grind
 |cons i l j=>
  intro s;grind [oU,Zt]
def Ur (y0 y1:ByteArray) (y2 y3 y4 y5:Int) (y6 y7:List aA) (y8:List Pce) (a1:List Itm):Prop:=
 Fu y0 y1 y2 y3 y4 y5 y6 y7 y8 a1/\(((kX y0 y1 y2 y3 y4 y5 y6 y7 y8 a1) !=0)=false->y8.length<=1000/\∀p∈y8,p.Forms.length<=2000000)
def x7 (y0 y1:ByteArray) (y2 y3 y4 y5:Int) (y6 y7:List aA) (y8:List Pce) (a1:List Itm):List Opn×Int:=
 cond ((kX y0 y1 y2 y3 y4 y5 y6 y7 y8 a1) !=0) ([],kX y0 y1 y2 y3 y4 y5 y6 y7 y8 a1) (nY y4 y5 y6 y8 (dC y0 y1 y2 y3 y4 y5 y6 y7 y8).1 a1,0)
theorem aHy {y0 y1:ByteArray} {y2 y3 y4 y5:Int} {y6 y7:List aA} {y8:List Pce} {a1:List Itm} (h:((kX y0 y1 y2 y3 y4 y5 y6 y7 y8 a1) !=0)=false):
  ((dC y0 y1 y2 y3 y4 y5 y6 y7 y8).2 !=0)=false/\a1.length<=128/\accept (eP y4 y5 y6 y8 (dC y0 y1 y2 y3 y4 y5 y6 y7 y8).1) a1 (jV y8 (dC y0 y1 y2 y3 y4 y5 y6 y7 y8).1):=by
 have G:kX y0 y1 y2 y3 y4 y5 y6 y7 y8 a1=0:=by grind
 have f:(fC y0 y1 y2 y3 y4 y5 y6 y7 y8 a1).2.2.2.2.2.2=0:=by
  grind [kX,lp]
 unfold fC at f;cases he:(dC y0 y1 y2 y3 y4 y5 y6 y7 y8).2 !=0 with
 |true=>
  rw[he,QY] at f;have u:(dC y0 y1 y2 y3 y4 y5 y6 y7 y8).2=0:=f;grind
 |false=>
 rw[he,QK] at f;cases j:decide (128<(a1.length:Int)) with
 |true=>
  rw[j,QY] at f;have:(4:Int)=0:=f;omega
 |false=>
 grind [vf]
theorem aRN (y0 y1:ByteArray) (y2 y3 y4 y5:Int) (y6 y7:List aA) (y8:List Pce) (a1:List Itm) (h:Ur y0 y1 y2 y3 y4 y5 y6 y7 y8 a1):∃F,∀Q:List Opn->Int->Prop,Q ((x7 y0 y1 y2 y3 y4 y5 y6 y7 y8 a1).1) ((x7 y0 y1 y2 y3 y4 y5 y6 y7 y8 a1).2)->aKp F y0 y1 y2 y3 y4 y5 y6 y7 y8 a1 Q:=by
 obtain⟨hc,hpf⟩:=h;obtain⟨F,hF⟩:∃F:Nat,4000000<F:=⟨4000001,KI⟩;refine⟨F,fun Q Z=>?_⟩;unfold x7 at Z;refine⟨hc,?_⟩;cases hz:(kX y0 y1 y2 y3 y4 y5 y6 y7 y8 a1) !=0 with
 |true=>
  grind
 |false=>
 rw[hz,QK] at Z;rw[QK];obtain⟨hp,hfm⟩:=hpf hz;obtain⟨f,hla,G⟩:=aHy hz;obtain⟨⟨J,hrb⟩,_⟩:=hc;obtain⟨g1,g2,g3,g4⟩:=hrb f;have L:∀(ct:List Bool) (V:zzB) (dn:List Bool) (S:zzI) (fl:List Bool) (x:Itm),kJ y0 y1 y2 y3 y4 y5 y6 y7 y8 ct V dn S fl x.Piece x.Hole x.Joints x.Lead_X x.Lead_Y=doS y4 y5 y6 y8 (dC y0 y1 y2 y3 y4 y5 y6 y7 y8).1 ct V dn S fl x.Piece x.Hole x.Joints x.Lead_X x.Lead_Y:=fun ct V dn S fl x=>by
  unfold kJ;rw[f];rfl
 have hpd:∀(ct:List Bool) (V:zzB) (dn:List Bool) (S:zzI) (fl:List Bool) (x:Itm),Fz y0 y1 y2 y3 y4 y5 y6 y7 y8 ct V dn S fl x.Piece x.Hole x.Joints x.Lead_X x.Lead_Y:=fun ct V dn S fl x=>by
  refine⟨J,?_⟩;rw[f];exact⟨g2,g3,g4,g1⟩
 have hst:kS y0 y1 y2 y3 y4 y5 y6 y7 y8=jV y8 (dC y0 y1 y2 y3 y4 y5 y6 y7 y8).1:=by
  grind [kS,jW,jV]
 have hps:Ma y0 y1 y2 y3 y4 y5 y6 y7 y8:=by
  refine⟨J,?_⟩;rw[f];exact⟨KI,KI,g2,fun p I=>by grind⟩
 refine⟨J,hps,?_⟩;rw[hst];generalize hes:(dC y0 y1 y2 y3 y4 y5 y6 y7 y8).1=es at Z G g1 L ⊢;generalize Gr:jV y8 es=s0 at G ⊢;unfold nY at Z;rw[Gr] at Z;unfold V3;refine Bs y8 Ev (fun i m=>m.length<=i*2000000) (fun m=>Q ((a1.foldl (mM (eP y4 y5 y6 y8 es) y8 es) (s0,m,[])).2.1++(a1.foldl (mM (eP y4 y5 y6 y8 es) y8 es) (s0,m,[])).2.2) 0)
  (fun n i m=>xD F _ n a1 es y8 (y8.length:Int) i y0 y1 y2 y3 y4 y5 y6 y7 y8 s0.1 s0.2.1 s0.2.2.1 s0.2.2.2.1 s0.2.2.2.2.1 m) (fun i m hi hm=>?_) (fun n i m hi hm hw=>?_) (fun n m hm I=>?_) F 0 [] KI KI XQ Z
 ·grind [aME]
 ·have hfl:=hfm _ (eF hi);show cond (decide ((i:Int)<(y8.length:Int))) _ _;rw[dD KI,QY,QZ];refine⟨⟨KI,KI⟩,?_⟩;generalize y8.getD i default=q at hw hfl ⊢;unfold V2;refine Bs q.Forms Ew (fun j k=>k.length<=m.length+j) (fun k=>xD F _ n a1 es y8 (y8.length:Int) ((i+1:Nat):Int) y0 y1 y2 y3 y4 y5 y6 y7 y8 s0.1 s0.2.1 s0.2.2.1 s0.2.2.2.1 s0.2.2.2.2.1 k)
   (fun n j k=>Ry F _ n a1 es y8 (y8.length:Int) i q.Forms (q.Forms.length:Int) j y0 y1 y2 y3 y4 y5 y6 y7 y8 s0.1 s0.2.1 s0.2.2.1 s0.2.2.2.1 s0.2.2.2.2.1 k) (fun j k hj hk=>?_) (fun n j k hj hk hw'=>?_) (fun n k hk I=>?_) F 0 m KI KI KI hw
  ·grind [Ew]
  ·show cond (decide ((j:Int)<(q.Forms.length:Int))) _ _;rw[dD KI,QY,QZ,dX hj KI];exact⟨⟨KI,KI⟩,by grind,hw'⟩
  ·show cond (decide ((q.Forms.length:Int)<(q.Forms.length:Int))) _ _;rw[dB KI,QK];show xD _ _ _ _ _ _ _ (aB ((i:Int)+1)) _ _ _ _ _ _ _ _ _ _ _ _ _ _ _;grind [dX]
 ·show cond (decide ((y8.length:Int)<(y8.length:Int))) _ _;rw[dB KI,QK];have hm':m.length<=1000000000000:=KI;show Wb F Q es a1 (a1.length:Int) 0 y0 y1 y2 y3 y4 y5 y6 y7 y8 s0.1 s0.2.1 s0.2.2.1 s0.2.2.2.1 s0.2.2.2.2.1 m [];unfold Wb;refine Bs a1 (mM (eP y4 y5 y6 y8 es) y8 es) (fun i t=>t.2.1.length<=1000000000000+i*9000000/\t.2.2.length<=i*9000000/\accept (eP y4 y5 y6 y8 es) (a1.drop i) t.1) (fun t=>Q (t.2.1++t.2.2) 0)
   (fun n i t=>o7 F _ n es a1 (a1.length:Int) i y0 y1 y2 y3 y4 y5 y6 y7 y8 t.1.1 t.1.2.1 t.1.2.2.1 t.1.2.2.2.1 t.1.2.2.2.2.1 t.2.1 t.2.2) (fun i t hi ht=>?_) (fun n i t hi ht hw=>?_) (fun n t ht I=>?_) F 0 (s0,m,[]) KI KI ⟨KI,XQ,by grind⟩ I
  ·obtain⟨t1,t2,O⟩:=ht;rw[nR a1 i hi] at O;have ha:=aXq es t.1.1 (a1.getD i default).Piece (List.range' 0 es.length) ((a1.getD i default).Joints,t.2.1++[mvO 1 (a1.getD i default).Lead_X (a1.getD i default).Lead_Y],t.2.2);rw[List.length_range',QM,JE] at ha;unfold mM;cases decide (0<=(a1.getD i default).Hole) with
   |true=>
    rw[QY];have e2:t.2.2.length<=(i+1)*9000000:=JT t2 (QC _ (Nat.le_succ i));refine⟨?_,e2,O.2⟩;grind [ez]
   |false=>
    rw[QK];unfold Pg;dsimp only at ha;have e1:(List.foldl (oU es t.1.1 (a1.getD i default).Piece) ((a1.getD i default).Joints,t.2.1++[mvO 1 (a1.getD i default).Lead_X (a1.getD i default).Lead_Y],t.2.2) (List.range' 0 es.length)).2.1.length<=1000000000000+(i+1)*9000000:=KI;have e2:(List.foldl (oU es t.1.1 (a1.getD i default).Piece) ((a1.getD i default).Joints,t.2.1++[mvO 1 (a1.getD i default).Lead_X (a1.getD i default).Lead_Y],t.2.2) (List.range' 0 es.length)).2.2.length<=(i+1)*9000000:=KI;exact⟨e1,e2,O.2⟩
  ·obtain⟨t1,t2,O⟩:=ht;rw[nR a1 i hi] at O;obtain⟨hfit,p1,p2,k1,k2,_,_⟩:=Zx O.1;obtain⟨f1,_⟩:=Pb hfit;show cond (decide ((i:Int)<(a1.length:Int))) _ _;rw[dD KI,QY,QZ,dX hi KI];refine⟨⟨KI,KI⟩,?_⟩;generalize a1.getD i default=x at hw p1 p2 k1 k2 ⊢;refine⟨by grind,?_⟩;unfold mM at hw;cases hh:decide (0<=x.Hole) with
   |true=>
    have hh':=JU hh;rw[hh,QY] at hw;rw[QY];refine⟨⟨p1,p2⟩,⟨hh',k2⟩,?_,hpd _ _ _ _ _ _,?_⟩
    ·grind [Gs,ez]
    ·rw[L];exact hw
   |false=>
    rw[hh,QK] at hw;rw[QK];unfold V1;unfold Pg at hw;refine O6 es.length (oU es t.1.1 x.Piece) (fun j u=>u.2.1.length<=t.2.1.length+1+2*j/\u.2.2.length<=t.2.2.length+2*j) (fun u=>o7 F _ n es a1 (a1.length:Int) ((i+1:Nat):Int) y0 y1 y2 y3 y4 y5 y6 y7 y8 (eP y4 y5 y6 y8 es t.1 x).1 (eP y4 y5 y6 y8 es t.1 x).2.1 (eP y4 y5 y6 y8 es t.1 x).2.2.1 (eP y4 y5 y6 y8 es t.1 x).2.2.2.1 (eP y4 y5 y6 y8 es t.1 x).2.2.2.2.1 u.2.1 u.2.2)
     (fun n j u=>Rx F _ n es u.1 a1 (a1.length:Int) i es (es.length:Int) j y0 y1 y2 y3 y4 y5 y6 y7 y8 t.1.1 t.1.2.1 t.1.2.2.1 t.1.2.2.2.1 t.1.2.2.2.2.1 x.Piece x.Hole x.Joints x.Lead_X x.Lead_Y u.2.1 u.2.2) (fun u j hj hu=>?_) (fun n j u hj hu hw'=>?_) (fun n u hu I=>?_) F 0 (x.Joints,t.2.1++[mvO 1 x.Lead_X x.Lead_Y],t.2.2) KI KI XQ hw
    ·grind [Zt,oU]
    ·obtain⟨h3,h4⟩:=Zt (es.getD j default) (decide (0<u.1));show cond (decide ((j:Int)<(es.length:Int))) _ _;rw[dD KI,QY,QZ,dX hj KI];grind [oU,edO]
    ·show cond (decide ((es.length:Int)<(es.length:Int))) _ _;rw[dB KI,QK];refine⟨hpd _ _ _ _ _ _,?_⟩;rw[L];show o7 _ _ _ _ _ _ (aB ((i:Int)+1)) _ _ _ _ _ _ _ _ _ _ _ _ _ _ _ _;rw[dX hi KI];exact I
  ·obtain⟨t1,t2,_⟩:=ht;show cond (decide ((a1.length:Int)<(a1.length:Int))) _ _;rw[dB KI,QK];exact⟨KI,I⟩
def rP:CnT:=cnL [(0,⟨[0,1,2,7,19,20,21],[],[],[],[]⟩),(2,⟨[0,1,2,7,33,34,35],[],[],[],[]⟩),(4,⟨[1,2,6,7,47,48,49],[],[],[],[]⟩),(6,⟨[1,2,7,13,14,47,48,49,53,54,55],[13],[],[],[]⟩),(8,⟨[1,2,7,13,14,47,48,49,65,66,67],[13],[],[],[]⟩)]
abbrev pY:=List aA->List aA->List aA->Int->List aA->Int->Int->Prop
def aFa (a0 a1 j:List aA) (Q:Bool->Prop) (f:pY):Prop:=f a0 a1 j 0 a1 (a1.length:Int) 0
def aF9 (G S:pY):pY:=fun O L J I j u f=>cond (decide (f<u)) ((let e0:=(j.getD f.toNat default);((0<=f/\f<j.length)/\G O L J (aB (I+(aB (e0.W*e0.H)))) j u (aB (f+1))))) (S O L J I j u f)
def ga (Q:Bool->Prop) (I:pY):pY:=fun G u f j O L J=>I G u f j f (f.length:Int) 0
def aF8 (G S:pY):pY:=fun O L J I j u f=>cond (decide (f<u)) ((let e0:=(j.getD f.toNat default);((0<=f/\f<j.length)/\G O L J (aB (I-(aB (e0.W*e0.H)))) j u (aB (f+1))))) (S O L J I j u f)
abbrev uS:=List aA->List aA->Int->List aA->Int->Int->Prop
def fy (Q:Bool->Prop) (I:uS):pY:=fun f G u j O L J=>I G u j f (f.length:Int) 0
abbrev Ie:=List aA->List aA->Bool->Int->List aA->Int->Int->Prop
abbrev pX:=List aA->List aA->Int->Int->List aA->Int->Int->List aA->Int->Int->Int->Int->Int->Int->Prop
def aF7 (S L:uS) (V:Ie) (O:pX):uS:=fun G J I j u f=>cond (decide (f<u)) ((let e0:=(j.getD f.toNat default);((0<=f/\f<j.length)/\O G J I 0 j u f G (G.length:Int) 0 e0.X e0.Y e0.W e0.H))) (L G J I j u f)
def aF6 (rec x0:pX):pX:=fun t1 t2 t7 L J I G j u f O S V Z=>cond (decide (f<u)) ((let e0:=(j.getD f.toNat default);((0<=f/\f<j.length)/\(let r1:=(Ku O S V Z e0.X e0.Y e0.W e0.H);rec t1 t2 t7 (aB (L+r1)) J I G j u (aB (f+1)) O S V Z)))) (x0 t1 t2 t7 L J I G j u f O S V Z)
def aFb (rec x0:uS) (x1:Ie) (V:pX):pX:=fun L f J I G u j t53 t54 t55 O S Z gW=>V L f J I G u j f (f.length:Int) 0 O S Z gW
def aF5 (rec x0:pX):pX:=fun t1 t2 t7 L J I G j u f O S V Z=>cond (decide (f<u)) ((let e0:=(j.getD f.toNat default);((0<=f/\f<j.length)/\(let r1:=(Ku O S V Z e0.X e0.Y e0.W e0.H);rec t1 t2 t7 (aB (L-r1)) J I G j u (aB (f+1)) O S V Z)))) (x0 t1 t2 t7 L J I G j u f O S V Z)
def Sa (F:Nat) (f:pX):Nat->pX
 |0=>fun _ _ _ _ _ _ _ _ _ _ _ _ _ _=>False
 |n+1=>aF5 (Sa F f n) f
def Wd (F:Nat) (I x0:uS) (S:Ie):pX:=Sa F (fun O L J G u j f _ _ _ _ _ V Z=>cond (G !=(aB (V*Z))) (S O L false J u j f) (I O L (aB (J-G)) u j (aB (f+1)))) F
def Jr (F:Nat) (f:pX):Nat->pX
 |0=>fun _ _ _ _ _ _ _ _ _ _ _ _ _ _=>False
 |n+1=>aF6 (Jr F f n) f
def V4 (F:Nat) (f u:uS) (j:Ie):pX:=Jr F (aFb f u j (Wd F f u j)) F
def Js (F:Nat) (j:uS) (f:Ie):Nat->uS
 |0=>fun _ _ _ _ _ _=>False
 |n+1=>aF7 (Js F j f n) j f (V4 F (Js F j f n) j f)
def Ml (F:Nat) (Q:Bool->Prop):uS:=Js F (fun _ _ f _ _ _=>Q (f==0)) (fun _ _ j _ _ _ _=>Q j) F
def Jt (F:Nat) (f:pY):Nat->pY
 |0=>fun _ _ _ _ _ _ _=>False
 |n+1=>aF8 (Jt F f n) f
def Mm (F:Nat) (Q:Bool->Prop):pY:=Jt F (fy Q (Ml F Q)) F
def Ju (F:Nat) (f:pY):Nat->pY
 |0=>fun _ _ _ _ _ _ _=>False
 |n+1=>aF9 (Ju F f n) f
def We (F:Nat) (Q:Bool->Prop):pY:=Ju F (ga Q (Mm F Q)) F
def aKr (F:Nat) (a0 a1 f:List aA) (Q:Bool->Prop):Prop:=aFa a0 a1 f Q (We F Q)
theorem maE (a b:Int):ma a b=max a b:=by grind [ma]
theorem miE (a b:Int):mi a b=min a b:=by grind [mi]
theorem P4 {a b c d:Int} (h:Aa a b c d=true): -1048576<=a/\a+c<=1048576/\1<=c/\c<=2097152/\ -1048576<=b/\b+d<=1048576/\1<=d/\d<=2097152:=by
 grind [Aa,y9,cN]
def Xc (R:List aA) (m:Int×Int):Int×Int:=R.foldl (fun (m:Int×Int) r=>(mi m.1 r.X,mi m.2 r.Y)) m
theorem aTh (R:List aA):∀(m:Int×Int), -1048576<=m.1->m.1<=1048576-> -1048576<=m.2->m.2<=1048576->(∀r∈R, -1048576<=r.X/\r.X<=1048576/\ -1048576<=r.Y/\r.Y<=1048576)->
  -1048576<=(Xc R m).1/\(Xc R m).1<=1048576/\ -1048576<=(Xc R m).2/\(Xc R m).2<=1048576:=by
 induction R with
 |nil=>exact fun m a b c d _=>⟨a,b,c,d⟩
 |cons r R f=>
  intro m a b c d h;obtain⟨J,I,G,u⟩:=h r (QI ..);refine f _ ?_ ?_ ?_ ?_ fun s j=>h s (QA _ j)<;>simp only[miE]<;>omega
theorem rv {r:aA} (h:iV r=true): -1048576<=r.X/\r.X<=1048576/\ -1048576<=r.Y/\r.Y<=1048576:=by
 unfold iV at h;rw[Sz] at h;have:=P4 h;omega
theorem nS {b:Bool} {x y:Int} (h:cond b x y=0) (f:x≠0):b=false/\y=0:=by
 grind
theorem lk {x y:Int} (h:cond (x !=0) x y=0):x=0/\y=0:=by
 grind
theorem aHD {α:Type} {f:α->Int}:∀{l:List α},zD f l=0->∀x∈l,f x=0
 |[],_,x,j=>by cases j
 |y::l,h,x,j=>by
  obtain⟨G,u⟩:=lk h;rcases List.mem_cons.1 j with rfl|j
  ·exact G
  ·exact aHD u x j
structure bBw (xs xs':zzI) (w w':Nat):Prop where
 ax:asc xs
 ax':asc xs'
 sub:∀x∈xs,x∈xs'
 len:xs.length=w+1
 len':xs'.length=w'+1
 lo:xs.getD 0 default=xs'.getD 0 default
 hi:xs.getD w default=xs'.getD w' default
theorem asc.mono {l:zzI} (h:asc l) {i j:Nat} (f:i<=j) (u:j<l.length):l.getD i default<=l.getD j default:=by
 rcases Nat.lt_or_eq_of_le f with q|q
 ·exact Int.le_of_lt (h.get q u)
 grind
theorem asc.Xu {l:zzI} (h:asc l) {i j:Nat} (hi:i<l.length) (f:l.getD i default<l.getD j default) (u:j<l.length):i<j:=by
 rcases Nat.lt_or_ge i j with q|q
 ·exact q
 ·have:=h.mono q hi;omega
theorem asc.bBv {l:zzI} (h:asc l) {i:Nat} (hi:i<l.length):dU l (l.getD i default)=i:=by
 obtain⟨f,j⟩:=uO h (gL hi);rcases Nat.lt_trichotomy (dU l (l.getD i default)) i with q|q|q
 ·have:=h.get q hi;omega
 ·exact q
 ·have:=h.get q f;omega
where
 gL {l:zzI} {j:Nat} (h:j<l.length):l.getD j default∈l:=by
  grind
theorem Wx {l:zzI} {x:Int} (h:x∈l):∃j,j<l.length/\l.getD j default=x:=by
 obtain⟨i,hi,rfl⟩:=List.getElem_of_mem h;exact⟨i,hi,by grind⟩
theorem gL {l:zzI} {j:Nat} (h:j<l.length):l.getD j default∈l:=by
 grind
theorem aTP {w h:Nat} {lf bl:Nat->Nat->Bool} {d e:Pl} (he:e∈nbs w h lf bl d) (R:Pl->Pl->Prop) (j:∀x y,R x y->R y x)
  (G:∀i k,i+1<w->k<h->lf (i+1) k=false->R (i,k) (i+1,k)) (u:∀i k,i<w->k+1<h->bl i (k+1)=false->R (i,k) (i,k+1)):R d e:=by
 have f:=T9 he;obtain⟨i,k⟩:=d;unfold nbs at he;rw[JQ f] at he;replace f:i<w/\k<h:=f;simp only[QO] at he;rcases he with ((he|he)|he)|he
 ·split at he
  ·grind
  grind
 ·simp_all
 ·split at he
  ·grind
  grind
 simp_all
theorem aTO {w h:Nat} {lf bl:Nat->Nat->Bool} {i k:Nat} (u:i+1<w) (j:k<h) (f:lf (i+1) k=false):(i+1,k)∈nbs w h lf bl (i,k):=by
 grind [nbs]
theorem aTN {w h:Nat} {lf bl:Nat->Nat->Bool} {i k:Nat} (u:i<w) (j:k+1<h) (f:bl i (k+1)=false):(i,k+1)∈nbs w h lf bl (i,k):=by
 grind [nbs]
def mU (l:List aA):Int:=(l.map fun r=>r.W*r.H).sum
def apart (a b:aA):Prop:=a.X+a.W<=b.X\/b.X+b.W<=a.X\/a.Y+a.H<=b.Y\/b.Y+b.H<=a.Y
def Su (f:Int->Int) (lo:Int):Nat->Int
 |0=>0
 |n+1=>Su f lo n+f (lo+n)
theorem np {f g:Int->Int} {lo:Int} (h:∀x,f x=g x):∀n,Su f lo n=Su g lo n
 |0=>rfl
 |n+1=>by
  show Su f lo n+f (lo+n)=Su g lo n+g (lo+n);rw[np h n,h]
theorem aJV (f g:Int->Int) (lo:Int):∀n,Su (fun x=>f x+g x) lo n=Su f lo n+Su g lo n
 |0=>rfl
 |n+1=>by
  show Su (fun x=>f x+g x) lo n+(f (lo+n)+g (lo+n))=Su f lo n+f (lo+n)+(Su g lo n+g (lo+n));rw[aJV f g lo n];omega
theorem aJU (lo:Int):∀n,Su (fun _=>0) lo n=0
 |0=>rfl
 |n+1=>by
  show Su (fun _=>0) lo n+0=0;rw[aJU lo n];rfl
theorem nj (c:Int) (f:Int->Int) (lo:Int):∀n,Su (fun x=>c*f x) lo n=c*Su f lo n
 |0=>by simp[Su]
 |n+1=>by
  show Su (fun x=>c*f x) lo n+c*f (lo+n)=c*(Su f lo n+f (lo+n));rw[nj c f lo n,Int.mul_add]
theorem bBg (c:Int) (f:Int->Int) (lo:Int) (n:Nat):Su (fun x=>f x*c) lo n=Su f lo n*c:=by
 rw[Int.mul_comm,<- nj];exact np (fun x=>Int.mul_comm _ _) n
def ind (a b x:Int):Int:=if a<=x/\x<b then 1 else 0
def kA (a b c d:Int):Int:=max (min (a+b) (c+d)-max a c) 0
theorem nk (a b lo:Int):∀n:Nat,Su (ind a b) lo n=max (min (lo+n) b-max lo a) 0
 |0=>by
  show 0=_;omega
 |n+1=>by
  show Su (ind a b) lo n+ind a b (lo+n)=_;rw[nk a b lo n];unfold ind;split<;>omega
def shP (c r:aA):Int:=kA c.X c.W r.X r.W*kA c.Y c.H r.Y r.H
def qK (r:aA) (x y:Int):Int:=ind r.X (r.X+r.W) x*ind r.Y (r.Y+r.H) y
theorem aM3 (c r:aA) (hw:0<=c.W) (hh:0<=c.H):shP c r=Su (fun x=>Su (fun y=>qK r x y) c.Y c.H.toNat) c.X c.W.toNat:=by
 have e:∀x,Su (fun y=>qK r x y) c.Y c.H.toNat=ind r.X (r.X+r.W) x*kA c.Y c.H r.Y r.H:=fun x=>by
  unfold qK;rw[nj,nk];unfold kA;rw[show c.Y+((c.H.toNat:Nat):Int)=c.Y+c.H by omega]
 rw[np e,bBg,nk];unfold shP kA;rw[show c.X+((c.W.toNat:Nat):Int)=c.X+c.W by omega]
theorem tq (c r:aA):0<=shP c r:=Int.mul_nonneg (by unfold kA;omega) (by unfold kA;omega)
def dG (f:aA->Int) (l:List aA):Int:=(l.map f).sum
theorem pB (f:aA->Int) (r:aA) (l:List aA):dG f (r::l)=f r+dG f l:=rfl
theorem M3 {f:aA->Int} (h:∀r,0<=f r):∀l,0<=dG f l
 |[]=>Int.le_refl _
 |r::l=>by
  have:=h r;have:=M3 h l;rw[pB];omega
theorem M5 (g:aA->Int->Int) (lo:Int) (n:Nat):∀l,dG (fun r=>Su (g r) lo n) l=Su (fun x=>dG (fun r=>g r x) l) lo n
 |[]=>(aJU lo n).symm
 |r::l=>by
  rw[pB,M5 g lo n l,<- aJV];rfl
theorem aLp {f g:aA->Int} (h:∀r,f r=g r) (l:List aA):dG f l=dG g l:=by
 rw[show f=g from funext h]
def kB (rects f:List aA) (c:aA):Int:=dG (shP c) rects-dG (shP c) f
def Ud (r:aA):Prop:=(0<=r.X/\r.X<=1048576)/\(0<=r.Y/\r.Y<=1048576)/\(0<=r.W/\r.W<=1048576)/\(0<=r.H/\r.H<=1048576)
theorem aIP {l:zzI} (h:asc l) {a b:Int} (u:a∈l) (hb:b∈l) (f:∀x∈l,a<=x/\x<=b):l.getD 0 default=a/\l.getD (l.length-1) default=b:=by
 obtain⟨i,hi,I⟩:=Wx u;obtain⟨j,V,G⟩:=Wx hb;have S:=h.mono (Nat.zero_le i) hi;have O:=h.mono (show j<=l.length-1 by omega) KI;have L:=f _ (gL (show 0<l.length by omega));have J:=f _ (gL (show l.length-1<l.length by omega));omega
theorem tu {nm mt:ByteArray} {g gr w h:Int} {cl us:List aA} {ls:List Seg} (f:(kG nm mt g gr w h cl us ls).2=0):
  (kG nm mt g gr w h cl us ls).1=pF w h ls/\(1<=w/\w<=1048576/\1<=h/\h<=1048576)/\(∀s∈ls,jY w h s)/\ls.length<=200:=by
 unfold kG at f ⊢;cases j:(jX nm mt g gr w h cl us !=0) with
 |true=>
  rw[j] at f;simp only[QY] at f;rw[f] at j;cases j
 |false=>
  have J:=tm j;rw[j] at f;simp only[QK] at f ⊢
  by_cases I:200<(ls.length:Int)
  ·rw[dD I] at f;cases f
  rw[dB I] at f ⊢;simp only[QK] at f ⊢;cases u:ls.all (Gh nm mt g gr w h cl us) with
  |false=>
   rw[u] at f;cases f
  |true=>
   rw[u] at f;simp only[Bool.not_true,QK] at f ⊢
   by_cases G:6000<(((gxs w ls).length:Int)-1)*(((gys h ls).length:Int)-1)
   ·rw[dD G] at f;cases f
   ·rw[dB G];exact⟨rfl,J,fun s L=>aDE.1 (QT.1 u s L),KI⟩
theorem aVe {w h:Int} {ls:List Seg} (hw:1<=w) (hok:∀s∈ls,jY w h s):(∀x∈gxs w ls,0<=x/\x<=w)/\(gxs w ls).getD 0 default=0/\(gxs w ls).getD ((gxs w ls).length-1) default=w:=by
 have hb:∀x∈gxs w ls,0<=x/\x<=w:=fun x f=>by
  rcases nP.1 f with e|e|⟨s,j,e⟩
  ·omega
  ·omega
  ·have:=(hok s j).1;omega
 exact⟨hb,aIP (lX w ls) (nP.2 (.inl rfl)) (nP.2 (.inr (.inl rfl))) hb⟩
theorem aVc {w h:Int} {ls:List Seg} (hw:1<=h) (hok:∀s∈ls,jY w h s):(∀x∈gys h ls,0<=x/\x<=h)/\(gys h ls).getD 0 default=0/\(gys h ls).getD ((gys h ls).length-1) default=h:=by
 have hb:∀x∈gys h ls,0<=x/\x<=h:=fun x f=>by
  rcases nO.1 f with e|e|⟨s,j,e⟩
  ·omega
  ·omega
  ·have:=(hok s j).1;omega
 exact⟨hb,aIP (lW h ls) (nO.2 (.inl rfl)) (nO.2 (.inr (.inl rfl))) hb⟩
theorem aQW (w h:Int) (ls:List Seg):(pF w h ls).flatten.Perm ((cellsOf ((gxs w ls).length-1) ((gys h ls).length-1)).map (hG (gxs w ls) (gys h ls))):=by
 obtain⟨L,hi⟩:=tv (nb:=nbG (gxs w ls) (gys h ls) ls) Gf (hG (gxs w ls) (gys h ls)) (cellsOf ((gxs w ls).length-1) ((gys h ls).length-1));exact hi.perm
theorem aQV {w h:Int} {ls:List Seg} (hw:1<=w/\w<=1048576) (hh:1<=h/\h<=1048576) (hok:∀s∈ls,jY w h s):∀r∈(pF w h ls).flatten,Ud r:=fun r j=>by
 obtain⟨c,u,rfl⟩:=JK.1 ((aQW w h ls).mem_iff.1 j);obtain⟨Z,V⟩:=vY.1 u;have bx:=(aVe hw.1 hok).1;have f:=(aVc hh.1 hok).1;have S:=bx _ (gL (show c.1<(gxs w ls).length by omega));have O:=bx _ (gL (show c.1+1<(gxs w ls).length by omega));have L:=f _ (gL (show c.2<(gys h ls).length by omega));have J:=f _ (gL (show c.2+1<(gys h ls).length by omega));have I:=(lX w ls).get (show c.1<c.1+1 by omega) KI;have G:=(lW h ls).get (show c.2<c.2+1 by omega) KI;unfold Ud hG;simp only;omega
theorem aQX (w h:Int) (ls:List Seg):(pF w h ls).length<=(cellsOf ((gxs w ls).length-1) ((gys h ls).length-1)).length/\∀l∈pF w h ls,l.length<=(cellsOf ((gxs w ls).length-1) ((gys h ls).length-1)).length:=by
 refine⟨?_,fun l f=>?_⟩
 ·have:=O3 (nbG (gxs w ls) (gys h ls) ls) (hG (gxs w ls) (gys h ls)) (cellsOf ((gxs w ls).length-1) ((gys h ls).length-1)) (fun _=>none,[]);simpa[pF,yA] using this
 ·obtain⟨L,hi⟩:=tv (nb:=nbG (gxs w ls) (gys h ls) ls) Gf (hG (gxs w ls) (gys h ls)) (cellsOf ((gxs w ls).length-1) ((gys h ls).length-1));have e:=hi.perm.length_eq;rw[KJ] at e;rw[<- e];exact(List.sublist_flatten_of_mem f).length_le
theorem aM9 (nm mt:ByteArray) (g gr w h:Int) (cl us:List aA) (ls:List Seg):(kG nm mt g gr w h cl us ls).1.length<=10000/\∀l∈(kG nm mt g gr w h cl us ls).1,l.length<=10000:=by
 unfold kG;cases (jX nm mt g gr w h cl us !=0)
 ·simp only[QK]
  by_cases j:200<(ls.length:Int)
  ·rw[dD j];exact⟨XQ,XQ⟩
  rw[dB j];cases (!(ls.all (Gh nm mt g gr w h cl us)))
  ·simp only[QK]
   by_cases f:6000<(((gxs w ls).length:Int)-1)*(((gys h ls).length:Int)-1)
   ·rw[dD f];exact⟨XQ,XQ⟩
   rw[dB f];simp only[QK];have O:=Yj w ls;have L:=Yi h ls;have e1:(((gxs w ls).length:Int)-1)=(((gxs w ls).length-1:Nat):Int):=KI;have I:(((gys h ls).length:Int)-1)=(((gys h ls).length-1:Nat):Int):=KI;rw[e1,I] at f;have S:(cellsOf ((gxs w ls).length-1) ((gys h ls).length-1)).length<=6000:=by
    rw[lq,Nat.mul_comm];have:((((gxs w ls).length-1)*((gys h ls).length-1):Nat):Int)<=6000:=by
     rw[Int.natCast_mul];exact Int.not_lt.1 f
    omega
   obtain⟨J,u⟩:=aQX w h ls;exact⟨KI,fun l G=>by have:=u l G;omega⟩
  ·exact⟨XQ,XQ⟩
 ·exact⟨XQ,XQ⟩
end
end Go.Proofs.YtgcpildegdgekaaGreatDoor
