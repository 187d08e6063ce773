/- Lemmas, walks and laws of this proof, part 9. Conditions: those that each names. -/
import Derived.Test.YtjjbojomlfgjlaaGreatDoorMK6
import Derived.Test.YtjjbojomlfgjlaaGreatDoorMK8
import Derived.Test.YtjjbojomlfgjlaaGreatDoorMK7
namespace Go.Proofs.YtjjbojomlfgjlaaGreatDoor
open Go.Proofs.Tryz
open Go.Vm Go.RowKit
set_option linter.unusedVariables false
set_option maxRecDepth 100000
noncomputable section
def bB9 (F:Nat):=cY (bM zO F 0 tL) tL f43.ntmps zO F
def aR8 (F:Nat):=dO (bM zO F 0 tL) tL f43.ntmps zO F
abbrev bDU:=Int->ByteArray->ByteArray->Int->Int->Int->Int->List aA->List aA->List Pce->List (List aA)->Prop
def aO6 (k:ASt UU->Prop):bDU:=(fun f I J L O Z V S u G r=>k ⟨tmL [(1,.ptr 1 0),(3,.osl 72 0),(4,.int .i64 f)],obL [(72,.row .rects 0 r),(1,.cells [.str I,.str J,.int .i64 L,.int .i64 O,.int .i64 Z,.int .i64 V,.sl .rect S,.sl .rect u,.sl .pc G])]⟩)
def aO5 (k:ASt UU->Prop):Int->List Lin->List Edg->Prop:=(fun f u r=>k ⟨tmL [(5,.osl 72 0),(6,.osl 73 0),(7,.int .i64 f)],obL [(72,.row .lin 0 u),(73,.row .edge 0 r)]⟩)
def bUr:=(cL (cB (cS (cF (cS (cS (bo f43)))))))
def bUq:=(cL (cB (cS (cF (cS4 (cS (bo f43)))))))
def aLI (F:Nat) (K:zK) (n r:Nat):bDU:=aO6 fun s=>iter (bB9 F 0 bUr) (zO 0 0) n r s K
def aLH (F:Nat) (K:zK) (n r:Nat):Int->List Lin->List Edg->Prop:=aO5 fun s=>iter (bB9 F 2 bUq) (zO 0 2) n r s K
def aX1 (F:Nat) (Post:aC UU->Prop):zK:=bU 0 (aR8 F 0 (cS (cS (cS (bo f43)))) (bJ tL false f43 Post))
def aX0 (F:Nat) (Post:aC UU->Prop):zK:=bU 2 (aR8 F 0 (cS4 (cS (cS (bo f43)))) (bJ tL false f43 Post))
theorem aV4 (F:Nat) (K:zK):∀n r,aLH F K n r=aGn F (aO5 (K (.exit 2))) n
 |0,_=>XW
 |n+1,r=>QY (b:=(fun f G u=>bAP (aLH F K n (r+1)) (aO5 (K (.exit 2))) f G u)) XW (by rewrite[aV4 F K n (r+1)];kernel_rfl)
theorem bMp (F:Nat) (Post:aC UU->Prop):aLH F (aX0 F Post) F 0=aI7 F (fun f=>Post (.sl .edge f)):=
 (aV4 F _ F 0).trans XW
theorem aV5 (F:Nat) (K:zK):∀n r,aLI F K n r=aDW F (aO6 (K (.exit 0))) n
 |0,_=>XW
 |n+1,r=>QY (b:=(fun f J L O S aD Z V G I u=>bAQ (aLI F K n (r+1)) (aO6 (K (.exit 0))) f J L O S aD Z V G I u)) XW (by rewrite[aV5 F K n (r+1)];kernel_rfl)
theorem bMq (F:Nat) (Post:aC UU->Prop):aLI F (aX1 F Post) F 0=aI8 F (fun f=>Post (.sl .edge f)):=
 (aV5 F _ F 0).trans (QY (b:=aDW F (fun r J L O S aD Z V G I u=>bAS (fun f=>Post (.sl .edge f)) r J L O S aD Z V G I u (aLH F (aX0 F Post) F 0)) F) XW (by rewrite[bMp F Post];kernel_rfl))
theorem bRc (F:Nat) (Post:aC UU->Prop) (S O:ByteArray) (L J I G:Int) (u r:List aA) (f:List Pce):exec tL f43.ntmps zO F 0 (bo f43) (dD [.agg [.str S,.str O,.int .i64 L,.int .i64 J,.int .i64 I,.int .i64 G,.sl .rect u,.sl .rect r,.sl .pc f]]) (bJ tL false f43 Post)=aQc F S O L J I G u r f (fun V=>Post (.sl .edge V)):=
 QY (b:=bAR S O L J I G u r f (fun V=>Post (.sl .edge V)) (aLI F (aX1 F Post) F 0)) XW (by rewrite[bMq F Post];kernel_rfl)
def aTA:Model UU
 |[.agg [.str S,.str O,.int .i64 L,.int .i64 J,.int .i64 I,.int .i64 G,.sl .rect u,.sl .rect r,.sl .pc f]]=>some ([aCM S O L J I G u r f],.sl .edge (k8 S O L J I G u r f))
 |_=>none
def bDr:Cfg UU:=tL.add 43 aTA
theorem bGe:aW bDr:=cV bGG mixed func43 XW XW fun xs cs r h Z=>by
 unfold aTA at h;split at h
 ·rename_i V S O L J I G u f;cases h;obtain⟨F,hF⟩:=bLR V S O L J I G u f Z;exact⟨XW,zO,F,false,⟨by rw[bRc];exact hF _ rfl⟩⟩
 ·cases h
set_option maxRecDepth 100000
def aTT:Model UU
 |[.agg [.str S,.str O,.int .i64 L,.int .i64 J,.int .i64 I,.int .i64 G,.sl .rect u,.sl .rect r,.sl .pc f]]=>some ([aDz S O L J I G u r f],.tup [.sl .edge ((nR S O L J I G u r f).1),.int .i64 ((nR S O L J I G u r f).2)])
 |_=>none
def wI:Cfg UU:=bDr.add 19 aTT
theorem bGz:aW wI:=cV bGe mixed func19 XW XW fun xs cs r h hc=>by
 unfold aTT at h;split at h
 ·rename_i V S O L J I G u f;cases h;refine⟨XW,M0,0,false,⟨kF (fun Q:(List Edg)->Int->Prop=>((aCK V S O L J I G u f)/\cond ((mG V S O L J I G u f) !=0) (Q ([]) (mG V S O L J I G u f)) (((aCM V S O L J I G u f)/\Q (k8 V S O L J I G u f) 0)))) (fun Q=>Q ((nR V S O L J I G u f).1) ((nR V S O L J I G u f).2)) (fun r0 r1=>(.tup [.sl .edge r0,.int .i64 r1]:aC UU)=.tup [.sl .edge ((nR V S O L J I G u f).1),.int .i64 ((nR V S O L J I G u f).2)]) XW (fun Q h=>?_) rfl⟩⟩
  try dsimp only at h ⊢
  unfold nR at h;have hp:aDz V S O L J I G u f:=hc;unfold aDz at hp;obtain⟨hJ,hp⟩:=hp;refine⟨hJ,?_⟩;cases Z:((mG V S O L J I G u f) !=0)
  ·try simp only[Z,QJ] at h hp ⊢
   have uW:=hp;refine⟨uW,?_⟩;exact h
  ·try simp only[Z,QX] at h hp ⊢
   exact h
 ·cases h
def bSq (F:Nat):=cY (bM aBR F 0 wI.eO) wI.eO f96.ntmps aBR F
def bJF (F:Nat):=dO (bM aBR F 0 wI.eO) wI.eO f96.ntmps aBR F
abbrev bDT:=Int->Int->ByteArray->ByteArray->Int->Int->Int->Int->List aA->List aA->List Pce->List Bool->List Bool->zzI->List Bool->zzB->Prop
def aO4 (k:ASt UU->Prop):bDT:=(fun r f V Z aH aG aD aE aF O S u G I J L=>k ⟨tmL [(1,.ptr 1 0),(2,.ptr 2 0),(3,.int .i64 r),(4,.ptr 4 0),(5,.int .i64 f)],obL [(39,.row .bool 0 u),(40,.row .bool 0 G),(41,.row .int 0 I),(42,.row .bool 0 J),(43,.deep .bools 0 0 L),(1,.cells [.str V,.str Z,.int .i64 aH,.int .i64 aG,.int .i64 aD,.int .i64 aE,.sl .rect aF,.sl .rect O,.sl .pc S]),(2,.cells [.nils,.nils,.nils,.nils,.nils]),(4,.cells [.osl 39 0,.osl 43 0,.osl 40 0,.osl 41 0,.osl 42 0])]⟩)
def bUp:=(cL (cB (cS (cF (cS (cS (cS (bo f96))))))))
def aLG (F:Nat) (K:zK) (n r:Nat):bDT:=aO4 fun s=>iter (bSq F 0 bUp) (aBR 0 0) n r s K
def aXZ (F:Nat) (Post:aC UU->Prop):zK:=bU 0 (bJF F 0 (cS4 (bo f96)) (bJ wI.eO false f96 Post))
theorem aV3 (F:Nat) (K:zK):∀n r,aLG F K n r=aGm F (aO4 (K (.exit 0))) n
 |0,_=>XW
 |n+1,r=>QY (b:=(fun u f Z aI aH aG aD aE aF S V G I J L O=>bAM (aLG F K n (r+1)) (aO4 (K (.exit 0))) u f Z aI aH aG aD aE aF S V G I J L O)) XW (by rewrite[aV3 F K n (r+1)];kernel_rfl)
theorem bMo (F:Nat) (Post:aC UU->Prop):aLG F (aXZ F Post) F 0=aI6 F (fun f G r I u=>Post (.agg [.sl .bool f,.sl .bools G,.sl .bool r,.sl .int I,.sl .bool u])):=
 (aV3 F _ F 0).trans XW
theorem bRa (F:Nat) (Post:aC UU->Prop) (S O:ByteArray) (L J I G:Int) (u r:List aA) (f:List Pce):exec wI.eO f96.ntmps aBR F 0 (bo f96) (dD [.agg [.str S,.str O,.int .i64 L,.int .i64 J,.int .i64 I,.int .i64 G,.sl .rect u,.sl .rect r,.sl .pc f]]) (bJ wI.eO false f96 Post)=aQb F S O L J I G u r f (fun V eK Z eJ eL=>Post (.agg [.sl .bool V,.sl .bools eK,.sl .bool Z,.sl .int eJ,.sl .bool eL])):=
 QY (b:=bAN S O L J I G u r f (fun V eK Z eJ eL=>Post (.agg [.sl .bool V,.sl .bools eK,.sl .bool Z,.sl .int eJ,.sl .bool eL])) (aLG F (aXZ F Post) F 0)) XW (by rewrite[bMo F Post];kernel_rfl)
def aSy:Model UU
 |[.agg [.str S,.str O,.int .i64 L,.int .i64 J,.int .i64 I,.int .i64 G,.sl .rect u,.sl .rect r,.sl .pc f]]=>some ([aDy S O L J I G u r f],.agg [.sl .bool ((jD S O L J I G u r f).1),.sl .bools ((jD S O L J I G u r f).2.1),.sl .bool ((jD S O L J I G u r f).2.2.1),.sl .int ((jD S O L J I G u r f).2.2.2.1),.sl .bool ((jD S O L J I G u r f).2.2.2.2)])
 |_=>none
def wB:Cfg UU:=wI.add 96 aSy
theorem bGc:aW wB:=(bGz.aPk) mixed (c:=bo f96) func96 XW XW fun xs cs r h Z=>by
 unfold aSy at h;split at h
 ·rename_i V S O L J I G u f;cases h;obtain⟨F,hF⟩:=bLP V S O L J I G u f Z;exact⟨XW,aBR,F,false,⟨by rw[bRa];exact hF _ rfl⟩⟩
 ·cases h
def bSj (F:Nat):=cY (bM aBK F 0 wB) wB f188.ntmps aBK F
def bIy (F:Nat):=dO (bM aBK F 0 wB) wB f188.ntmps aBK F
abbrev bDK:=Bool->Int->Int->ByteArray->ByteArray->Int->Int->Int->Int->List aA->List aA->List Pce->List Bool->zzB->List Bool->zzI->List Bool->Prop
def aEd (k:ASt UU->Prop):bDK:=(fun u r f bQ bP bR bS O G I J L bX bY S V Z=>k ⟨tmL [(3,.ptr 3 0),(4,.ptr 4 0),(6,.bool u),(7,.int .i64 r),(8,.int .i64 f)],obL [(3,.cells [.str bQ,.str bP,.int .i64 bR,.int .i64 bS,.int .i64 O,.int .i64 G,.sl .rect I,.sl .rect J,.sl .pc L]),(4,.cells [.sl .bool bX,.sl .bools bY,.sl .bool S,.sl .int V,.sl .bool Z])]⟩)
def bUd:=(cL (cB (cS (cF (cS (cS (cS (bo f188))))))))
def aKv (F:Nat) (K:zK) (n r:Nat):bDK:=aEd fun s=>iter (bSj F 0 bUd) (aBK 0 0) n r s K
def aXN (F:Nat) (Post:aC UU->Prop):zK:=bU 0 (bIy F 0 (cS4 (bo f188)) (bJ wB false f188 Post))
theorem aVQ (F:Nat) (K:zK):∀n r,aKv F K n r=aGe F (aEd (K .ret)) (aEd (K (.exit 0))) n
 |0,_=>XW
 |n+1,r=>QY (b:=(fun G u f bQ bP bR bS S I J L O bX bY V Z bZ=>aZp (aKv F K n (r+1)) (aEd (K .ret)) (aEd (K (.exit 0))) G u f bQ bP bR bS S I J L O bX bY V Z bZ)) XW (by rewrite[aVQ F K n (r+1)];kernel_rfl)
theorem bMc (F:Nat) (Post:aC UU->Prop):aKv F (aXN F Post) F 0=aNZ F (fun f=>Post (.bool f)):=
 (aVQ F _ F 0).trans XW
theorem bR0 (F:Nat) (Post:aC UU->Prop) (y0 y1:ByteArray) (Z V S O:Int) (L J:List aA) (I:List Pce) (qy:List Bool) (G:zzB) (u:List Bool) (r:zzI) (f:List Bool) (a2:Int):exec wB f188.ntmps aBK F 0 (bo f188) (dD [.agg [.str y0,.str y1,.int .i64 Z,.int .i64 V,.int .i64 S,.int .i64 O,.sl .rect L,.sl .rect J,.sl .pc I],.agg [.sl .bool qy,.sl .bools G,.sl .bool u,.sl .int r,.sl .bool f],.int .i64 a2]) (bJ wB false f188 Post)=aQ2 F y0 y1 Z V S O L J I qy G u r f a2 (fun r0=>Post (.bool r0)):=
 QY (b:=aZq y0 y1 Z V S O L J I qy G u r f a2 (fun r0=>Post (.bool r0)) (aKv F (aXN F Post) F 0)) XW (by rewrite[bMc F Post];kernel_rfl)
def aSo:Model UU
 |[.agg [.str y0,.str y1,.int .i64 Z,.int .i64 V,.int .i64 S,.int .i64 O,.sl .rect L,.sl .rect J,.sl .pc I],.agg [.sl .bool qy,.sl .bools G,.sl .bool u,.sl .int r,.sl .bool f],.int .i64 a2]=>some ([aHk y0 y1 Z V S O L J I qy G u r f a2],.bool (sH y0 y1 Z V S O L J I qy G u r f a2))
 |_=>none
def vW:Cfg UU:=wB.add 188 aSo
theorem bG3:aW vW:=cV bGc mixed func188 XW XW fun xs cs r h hc=>by
 unfold aSo at h;split at h
 ·rename_i y0 y1 y2 Z V S O L J qy I G u f a2;cases h;obtain⟨F,hF⟩:=bLF y0 y1 y2 Z V S O L J qy I G u f a2 hc;exact⟨XW,aBK,F,false,⟨by rw[bR0];exact hF _ rfl⟩⟩
 ·cases h
def bSn (F:Nat):=cY (bM aBO F 0 vW) vW f189.ntmps aBO F
def bJC (F:Nat):=dO (bM aBO F 0 vW) vW f189.ntmps aBO F
abbrev bDQ:=List Edg->Int->Bool->Int->List Bool->zzB->List Bool->zzI->List Bool->Prop
def aEh (k:ASt UU->Prop):bDQ:=(fun G u r f S O I J L=>k ⟨tmL [(0,.sl .edge G),(2,.int .i64 u),(4,.ptr 4 0),(6,.bool r),(7,.int .i64 f)],obL [(4,.cells [.sl .bool S,.sl .bools O,.sl .bool I,.sl .int J,.sl .bool L])]⟩)
def bUm:=(cL (cB (cS (cF (cS (bo f189))))))
def aLD (F:Nat) (K:zK) (n r:Nat):bDQ:=aEh fun s=>iter (bSn F 0 bUm) (aBO 0 0) n r s K
def aXW (F:Nat) (Post:aC UU->Prop):zK:=bU 0 (bJC F 0 (cS (cS (bo f189))) (bJ vW false f189 Post))
theorem aV0 (F:Nat) (K:zK):∀n r,aLD F K n r=aGj F (aEh (K .ret)) (aEh (K (.exit 0))) n
 |0,_=>XW
 |n+1,r=>QY (b:=(fun I G u f V S J L O=>bAH (aLD F K n (r+1)) (aEh (K .ret)) (aEh (K (.exit 0))) I G u f V S J L O)) XW (by rewrite[aV0 F K n (r+1)];kernel_rfl)
theorem bMl (F:Nat) (Post:aC UU->Prop):aLD F (aXW F Post) F 0=aI4 F (fun f=>Post (.bool f)):=
 (aV0 F _ F 0).trans XW
theorem bR7 (F:Nat) (Post:aC UU->Prop) (O:List Edg) (J:List Bool) (G:zzB) (u:List Bool) (r:zzI) (f:List Bool) (L:Int):exec vW f189.ntmps aBO F 0 (bo f189) (dD [.sl .edge O,.agg [.sl .bool J,.sl .bools G,.sl .bool u,.sl .int r,.sl .bool f],.int .i64 L]) (bJ vW false f189 Post)=aQ9 F O J G u r f L (fun I=>Post (.bool I)):=
 QY (b:=bAI O J G u r f L (fun I=>Post (.bool I)) (aLD F (aXW F Post) F 0)) XW (by rewrite[bMl F Post];kernel_rfl)
def aSv:Model UU
 |[.sl .edge L,.agg [.sl .bool I,.sl .bools G,.sl .bool u,.sl .int r,.sl .bool f],.int .i64 J]=>some ([yB L I G u r f J],.bool (oE L I G u r f J))
 |_=>none
def wA:Cfg UU:=vW.add 189 aSv
theorem bG9:aW wA:=cV bG3 mixed func189 XW XW fun xs V r h L=>by
 unfold aSv at h;split at h
 ·rename_i S J I G u f O;cases h;obtain⟨F,hF⟩:=bLM S J I G u f O L;exact⟨XW,aBO,F,false,⟨by rw[bR7];exact hF _ rfl⟩⟩
 ·cases h
def bSh (F:Nat):=cY (bM aBI F 0 wA) wA f42.ntmps aBI F
def bIw (F:Nat):=dO (bM aBI F 0 wA) wA f42.ntmps aBI F
def aEb (k:ASt UU->Prop):List Bool->Bool->Int->Prop:=(fun u r f=>k ⟨tmL [(0,.sl .bool u),(2,.bool r),(3,.int .i64 f)],obL []⟩)
def bUb:=(cL (cB (cS (cF (cS (bo f42))))))
def aKt (F:Nat) (K:zK) (n r:Nat):List Bool->Bool->Int->Prop:=aEb fun s=>iter (bSh F 0 bUb) (aBI 0 0) n r s K
def aXL (F:Nat) (Post:aC UU->Prop):zK:=bU 0 (bIw F 0 (cS (cS (bo f42))) (bJ wA false f42 Post))
theorem aVO (F:Nat) (K:zK):∀n r,aKt F K n r=aGc F (aEb (K .ret)) (aEb (K (.exit 0))) n
 |0,_=>XW
 |n+1,r=>QY (b:=(fun G u f=>aZl (aKt F K n (r+1)) (aEb (K .ret)) (aEb (K (.exit 0))) G u f)) XW (by rewrite[aVO F K n (r+1)];kernel_rfl)
theorem bMa (F:Nat) (Post:aC UU->Prop):aKt F (aXL F Post) F 0=aIY F (fun f=>Post (.bool f)):=
 (aVO F _ F 0).trans XW
theorem bRY (F:Nat) (Post:aC UU->Prop) (r:List Bool):exec wA f42.ntmps aBI F 0 (bo f42) (dD [.sl .bool r]) (bJ wA false f42 Post)=aQ0 F r (fun f=>Post (.bool f)):=
 QY (b:=aZm r (fun f=>Post (.bool f)) (aKt F (aXL F Post) F 0)) XW (by rewrite[bMa F Post];kernel_rfl)
def aSm:Model UU
 |[.sl .bool f]=>some ([uH f],.bool (iJ f))
 |_=>none
def vU:Cfg UU:=wA.add 42 aSm
theorem bG1:aW vU:=cV bG9 mixed func42 XW XW fun xs G r h f=>by
 unfold aSm at h;split at h
 ·rename_i u;cases h;obtain⟨F,hF⟩:=bLD u f;exact⟨XW,aBI,F,false,⟨by rw[bRY];exact hF _ rfl⟩⟩
 ·cases h
def bSu (F:Nat):=cY (bM aBV F 0 vU) vU f190.ntmps aBV F
def bJJ (F:Nat):=dO (bM aBV F 0 vU) vU f190.ntmps aBV F
abbrev bDX:=Bool->Int->Int->Int->Int->Int->ByteArray->ByteArray->Int->Int->List aA->List aA->List aA->Prop
def aO9 (k:ASt UU->Prop):bDX:=(fun J I G u r f L O S V aD aE Z=>k ⟨tmL [(1,.ptr 1 0),(3,.bool J),(4,.int .i64 I),(5,.int .i64 G),(6,.int .i64 u),(7,.int .i64 r),(8,.int .i64 f)],obL [(1,.cells [.str L,.str O,.int .i64 S,.int .i64 V,.sl .rect aD,.sl .rect aE,.sl .rect Z])]⟩)
def bUx:=(cL (cB (cS (cF (cS (cS (cS (bo f190))))))))
def aLO (F:Nat) (K:zK) (n r:Nat):bDX:=aO9 fun s=>iter (bSu F 0 bUx) (aBV 0 0) n r s K
def aX7 (F:Nat) (Post:aC UU->Prop):zK:=bU 0 (bJJ F 0 (cS4 (bo f190)) (bJ vU false f190 Post))
theorem aVb (F:Nat) (K:zK):∀n r,aLO F K n r=aGs F (aO9 (K (.exit 0))) n
 |0,_=>XW
 |n+1,r=>QY (b:=(fun L J I G u f O S V Z aD aE aF=>bA4 (aLO F K n (r+1)) (aO9 (K (.exit 0))) L J I G u f O S V Z aD aE aF)) XW (by rewrite[aVb F K n (r+1)];kernel_rfl)
theorem bMw (F:Nat) (Post:aC UU->Prop):aLO F (aX7 F Post) F 0=aIc F (fun f=>Post (.bool f)):=
 (aVb F _ F 0).trans XW
theorem bRh (F:Nat) (Post:aC UU->Prop) (L J:ByteArray) (I G:Int) (O u r:List aA):exec vU f190.ntmps aBV F 0 (bo f190) (dD [.agg [.str L,.str J,.int .i64 I,.int .i64 G,.sl .rect O,.sl .rect u,.sl .rect r]]) (bJ vU false f190 Post)=aQh F L J I G O u r (fun f=>Post (.bool f)):=
 QY (b:=bA5 L J I G O u r (fun f=>Post (.bool f)) (aLO F (aX7 F Post) F 0)) XW (by rewrite[bMw F Post];kernel_rfl)
def aTF:Model UU
 |[.agg [.str J,.str I,.int .i64 G,.int .i64 u,.sl .rect L,.sl .rect r,.sl .rect f]]=>some ([w9 J I G u L r f],.bool (rB J I G u L r f))
 |_=>none
def wE:Cfg UU:=vU.add 190 aTF
theorem bGj:aW wE:=cV bG1 mixed func190 XW XW fun xs V r h S=>by
 unfold aTF at h;split at h
 ·rename_i L J I G O u f;cases h;obtain⟨F,hF⟩:=bLW L J I G O u f S;exact⟨XW,aBV,F,false,⟨by rw[bRh];exact hF _ rfl⟩⟩
 ·cases h
def bSw (F:Nat):=cY (bM aBX F 0 wE) wE f254.ntmps aBX F
def bJL (F:Nat):=dO (bM aBX F 0 wE) wE f254.ntmps aBX F
abbrev bDZ:=List aA->Int->Int->Bool->Int->Prop
def aEr (k:ASt UU->Prop):bDZ:=(fun I G u r f=>k ⟨tmL [(0,.sl .rect I),(1,.int .i64 G),(2,.int .i64 u),(6,.bool r),(7,.int .i64 f)],obL []⟩)
def bVC:=(cL (cB (cS (cF (cS (bo f254))))))
def aLT (F:Nat) (K:zK) (n r:Nat):bDZ:=aEr fun s=>iter (bSw F 0 bVC) (aBX 0 0) n r s K
def aXf (F:Nat) (Post:aC UU->Prop):zK:=bU 0 (bJL F 0 (cS (cS (bo f254))) (bJ wE false f254 Post))
theorem aVj (F:Nat) (K:zK):∀n r,aLT F K n r=aGw F (aEr (K .ret)) (aEr (K (.exit 0))) n
 |0,_=>XW
 |n+1,r=>QY (b:=(fun J I G u f=>bAe (aLT F K n (r+1)) (aEr (K .ret)) (aEr (K (.exit 0))) J I G u f)) XW (by rewrite[aVj F K n (r+1)];kernel_rfl)
theorem bNE (F:Nat) (Post:aC UU->Prop):aLT F (aXf F Post) F 0=aIe F (fun f=>Post (.bool f)):=
 (aVj F _ F 0).trans XW
theorem bRk (F:Nat) (Post:aC UU->Prop) (G:List aA) (u r:Int):exec wE f254.ntmps aBX F 0 (bo f254) (dD [.sl .rect G,.int .i64 u,.int .i64 r]) (bJ wE false f254 Post)=aQj F G u r (fun f=>Post (.bool f)):=
 QY (b:=bAf G u r (fun f=>Post (.bool f)) (aLT F (aXf F Post) F 0)) XW (by rewrite[bNE F Post];kernel_rfl)
def aTI:Model UU
 |[.sl .rect u,.int .i64 r,.int .i64 f]=>some ([sR u r f],.bool (iC u r f))
 |_=>none
def bDv:Cfg UU:=wE.add 254 aTI
theorem bGm:aW bDv:=cV bGj mixed func254 XW XW fun xs J r h f=>by
 unfold aTI at h;split at h
 ·rename_i I G u;cases h;obtain⟨F,hF⟩:=bLZ I G u f;exact⟨XW,aBX,F,false,⟨by rw[bRk];exact hF _ rfl⟩⟩
 ·cases h
set_option maxRecDepth 100000
def aTS:Model UU
 |[.sl .rect u,.agg [.int .i64 f,.int .i64 r]]=>some ([x7 u f r],.bool (oH u f r))
 |_=>none
def bEA:Cfg UU:=bDv.add 230 aTS
theorem bGy:aW bEA:=cV bGm mixed func230 XW XW fun xs cs r h Z=>by
 unfold aTS at h;split at h
 ·rename_i G f u;cases h;refine⟨XW,M0,0,false,⟨kF (fun Q:Bool->Prop=>cond ((((decide (f<=(-1048576)))||(decide (1048576<=f)))||(decide (u<=(-1048576))))||(decide (1048576<=u))) (Q false) ((((sR G f u)/\(((iC G f u)=true->sR G (aB (f-1)) u)/\((((iC G f u)&&(iC G (aB (f-1)) u))=true->sR G f (aB (u-1)))/\((((iC G f u)&&(iC G (aB (f-1)) u))&&(iC G f (aB (u-1))))=true->sR G (aB (f-1)) (aB (u-1))))))/\Q ((((iC G f u)&&(iC G (aB (f-1)) u))&&(iC G f (aB (u-1))))&&(iC G (aB (f-1)) (aB (u-1))))))) (fun Q=>Q (oH G f u)) (fun V=>(.bool V:aC UU)=.bool (oH G f u)) XW (fun Q h=>?_) rfl⟩⟩
  try dsimp only at h ⊢
  unfold oH at h;have hp:x7 G f u:=Z;unfold x7 at hp;cases O:(((((decide (f<=(-1048576)))||(decide (1048576<=f)))||(decide (u<=(-1048576))))||(decide (1048576<=u))))
  ·try simp only[O,QJ] at h hp ⊢
   obtain⟨S,I,J,L⟩:=hp;refine⟨⟨S,I,J,L⟩,?_⟩;exact h
  ·try simp only[O,QX] at h hp ⊢
   exact h
 ·cases h
def aTQ:Model UU
 |[.agg [.int .i64 I,.int .i64 J],.agg [.int .i64 G,.int .i64 u,.int .i64 r,.int .i64 f]]=>some ([],.int .i64 (xV I J G u r f))
 |_=>none
def tR:Cfg UU:=bEA.add 231 aTQ
theorem bGw:aW tR:=tin bGy mixed func231 XW XW false fun xs f r h=>by
 unfold aTQ at h;split at h
 ·cases h;exact⟨XW,XW⟩
 ·cases h
set_option maxRecDepth 100000
def bBa (F:Nat):=cY (bM zP F 0 tR) tR f191.ntmps zP F
def aR9 (F:Nat):=dO (bM zP F 0 tR) tR f191.ntmps zP F
abbrev bDW:=List Edg->Int->Bool->Int->ByteArray->ByteArray->Int->Int->Int->Int->List aA->List aA->List Pce->List Bool->zzB->List Bool->zzI->List Bool->Int->Int->Prop
def aEl (k:ASt UU->Prop):bDW:=(fun G u r f cU cX Z S V I J L O aX bE bG bH bW aP aT=>k ⟨tmL [(1,.sl .edge G),(3,.int .i64 u),(5,.ptr 5 0),(7,.ptr 7 0),(9,.ptr 9 0),(10,.bool r),(11,.int .i64 f)],obL [(5,.cells [.str cU,.str cX,.int .i64 Z,.int .i64 S,.int .i64 V,.int .i64 I,.sl .rect J,.sl .rect L,.sl .pc O]),(7,.cells [.sl .bool aX,.sl .bools bE,.sl .bool bG,.sl .int bH,.sl .bool bW]),(9,.cells [.int .i64 aP,.int .i64 aT])]⟩)
abbrev bDV:=List Edg->Int->Bool->Int->List Bool->zzB->List Bool->zzI->List Bool->Int->Int->Prop
def aEk (k:ASt UU->Prop):bDV:=(fun G u r f S O L J I Z V=>k ⟨tmL [(1,.sl .edge G),(3,.int .i64 u),(7,.ptr 7 0),(9,.ptr 9 0),(10,.bool r),(12,.int .i64 f)],obL [(7,.cells [.sl .bool S,.sl .bools O,.sl .bool L,.sl .int J,.sl .bool I]),(9,.cells [.int .i64 Z,.int .i64 V])]⟩)
def bUu:=(cL (cB (cS (cF (cS (cS (bo f191)))))))
def bUt:=(cL (cB (cS (cF (cS (cS (cS (bo f191))))))))
def aLL (F:Nat) (K:zK) (n r:Nat):bDW:=aEl fun s=>iter (bBa F 0 bUu) (zP 0 0) n r s K
def aLK (F:Nat) (K:zK) (n r:Nat):bDV:=aEk fun s=>iter (bBa F 2 bUt) (zP 0 2) n r s K
def aX4 (F:Nat) (Post:aC UU->Prop):zK:=bU 0 (aR9 F 0 (cS (cS (cS (bo f191)))) (bJ tR false f191 Post))
def aX3 (F:Nat) (Post:aC UU->Prop):zK:=bU 2 (aR9 F 0 (cS4 (bo f191)) (bJ tR false f191 Post))
theorem aV7 (F:Nat) (K:zK):∀n r,aLK F K n r=aGp F (aEk (K .ret)) (aEk (K (.exit 2))) n
 |0,_=>XW
 |n+1,r=>QY (b:=(fun I G u f V S O L J aP Z=>bAV (aLK F K n (r+1)) (aEk (K .ret)) (aEk (K (.exit 2))) I G u f V S O L J aP Z)) XW (by rewrite[aV7 F K n (r+1)];kernel_rfl)
theorem bMs (F:Nat) (Post:aC UU->Prop):aLK F (aX3 F Post) F 0=aI9 F (fun f=>Post (.bool f)):=
 (aV7 F _ F 0).trans XW
theorem aV8 (F:Nat) (K:zK):∀n r,aLL F K n r=aDX F (aEl (K .ret)) (aEl (K (.exit 0))) n
 |0,_=>XW
 |n+1,r=>QY (b:=(fun I G u f cU cX dB V Z J L O S aX bE bG bH bW aP aT=>bAW (aLL F K n (r+1)) (aEl (K .ret)) (aEl (K (.exit 0))) I G u f cU cX dB V Z J L O S aX bE bG bH bW aP aT)) XW (by rewrite[aV8 F K n (r+1)];kernel_rfl)
theorem bMt (F:Nat) (Post:aC UU->Prop):aLL F (aX4 F Post) F 0=aN4 F (fun u=>Post (.bool u)):=
 (aV8 F _ F 0).trans (QY (b:=aDX F (fun I G r f cU cX dB V Z J L O S aX bE bG bH bW aP aT=>bAZ (fun u=>Post (.bool u)) I G r f cU cX dB V Z J L O S aX bE bG bH bW aP aT) (fun I G r f cU cX dB V Z J L O S aX bE bG bH bW aP aT=>bAY (fun u=>Post (.bool u)) I G r f cU cX dB V Z J L O S aX bE bG bH bW aP aT (aLK F (aX3 F Post) F 0)) F) XW (by rewrite[bMs F Post];kernel_rfl))
theorem bRe (F:Nat) (Post:aC UU->Prop) (V S:ByteArray) (O L J I:Int) (G u:List aA) (r:List Pce) (a1:List Edg) (f:List Bool) (qo:zzB) (qt:List Bool) (qm:zzI) (qq:List Bool) (a3 fG fF:Int):exec tR f191.ntmps zP F 0 (bo f191) (dD [.agg [.str V,.str S,.int .i64 O,.int .i64 L,.int .i64 J,.int .i64 I,.sl .rect G,.sl .rect u,.sl .pc r],.sl .edge a1,.agg [.sl .bool f,.sl .bools qo,.sl .bool qt,.sl .int qm,.sl .bool qq],.int .i64 a3,.agg [.int .i64 fG,.int .i64 fF]]) (bJ tR false f191 Post)=aQe F V S O L J I G u r a1 f qo qt qm qq a3 fG fF (fun Z=>Post (.bool Z)):=
 QY (b:=bAX V S O L J I G u r a1 f qo qt qm qq a3 fG fF (fun Z=>Post (.bool Z)) (aLL F (aX4 F Post) F 0)) XW (by rewrite[bMt F Post];kernel_rfl)
def aTC:Model UU
 |[.agg [.str V,.str S,.int .i64 O,.int .i64 L,.int .i64 J,.int .i64 I,.sl .rect G,.sl .rect u,.sl .pc r],.sl .edge a1,.agg [.sl .bool f,.sl .bools qo,.sl .bool Z,.sl .int qm,.sl .bool qq],.int .i64 a3,.agg [.int .i64 fG,.int .i64 fF]]=>some ([w8 V S O L J I G u r a1 f qo Z qm qq a3 fG fF],.bool (xR V S O L J I G u r a1 f qo Z qm qq a3 fG fF))
 |_=>none
def bDs:Cfg UU:=tR.add 191 aTC
theorem bGg:aW bDs:=cV bGw mixed func191 XW XW fun xs cs r h hc=>by
 unfold aTC at h;split at h
 ·rename_i Z V S O L J I G u a1 f qo qt qm qq a3 fG fF;cases h;obtain⟨F,hF⟩:=bLT Z V S O L J I G u a1 f qo qt qm qq a3 fG fF hc;exact⟨XW,zP,F,false,⟨by rw[bRe];exact hF _ rfl⟩⟩
 ·cases h
set_option maxRecDepth 100000
def aTP:Model UU
 |[.agg [.str Z,.str V,.int .i64 S,.int .i64 O,.int .i64 L,.int .i64 J,.sl .rect I,.sl .rect G,.sl .pc u],.sl .edge a1,.agg [.sl .bool r,.sl .bools qo,.sl .bool qt,.sl .int qm,.sl .bool qq],.agg [.int .i64 qb,.int .i64 qn,.int .i64 f,.int .i64 qu,.int .i64 qv]]=>some ([aCP Z V S O L J I G u a1 r qo qt qm qq qb qn f qu qv],.int .i64 (lI Z V S O L J I G u a1 r qo qt qm qq qb qn f qu qv))
 |_=>none
def mZ:Cfg UU:=bDs.add 156 aTP
theorem bGv:aW mZ:=cV bGg mixed func156 XW XW fun xs cs r h hc=>by
 unfold aTP at h;split at h
 ·rename_i y0 y1 y2 y3 y4 y5 y6 y7 u Z I L S V J f G O qu qv;cases h;refine⟨XW,M0,0,false,⟨kF (fun Q:Int->Prop=>((aHk y0 y1 y2 y3 y4 y5 y6 y7 u I L S V J (Z.length:Int))/\cond (!(sH y0 y1 y2 y3 y4 y5 y6 y7 u I L S V J (Z.length:Int))) (Q 1) (cond (decide (f<0)) (Q 1) (cond (decide ((u.length:Int)<=f)) (Q 1) (cond (decide (G<(-1))) (Q 1) (((0<=f/\f<u.length)/\cond (decide ((((u.getD f.toNat default).Cuts).length:Int)<=G)) (Q 1) (cond (decide (O<0)) (Q 1) (cond (decide (4<O)) (Q 1) (cond (decide (0<=G)) (cond (O !=0) (Q 1) (((0<=f/\f<u.length)/\cond (decide (0<=G)) (((0<=f/\f<J.length)/\cond (J.getD f.toNat default) (Q 12) (((0<=f/\f<L.length)/\((0<=G/\G<(L.getD f.toNat default).length)/\cond ((L.getD f.toNat default).getD G.toNat default) (Q 12) (((0<=G/\G<((u.getD f.toNat default).Cuts).length)/\cond ((((decide (qu<=((((u.getD f.toNat default).Cuts).getD G.toNat default).X)))||(decide ((aB (((((u.getD f.toNat default).Cuts).getD G.toNat default).X)+((((u.getD f.toNat default).Cuts).getD G.toNat default).W)))<=qu)))||(decide (qv<=((((u.getD f.toNat default).Cuts).getD G.toNat default).Y))))||(decide ((aB (((((u.getD f.toNat default).Cuts).getD G.toNat default).Y)+((((u.getD f.toNat default).Cuts).getD G.toNat default).H)))<=qv))) (Q 14) (Q 0)))))))) ((((0<=f/\f<J.length)/\(((J.getD f.toNat default)=false->0<=f/\f<S.length)/\((((J.getD f.toNat default)||(S.getD f.toNat default))=false->((0<=f/\f<L.length)/\uH (L.getD f.toNat default)))/\((((J.getD f.toNat default)||(S.getD f.toNat default))||(!(iJ (L.getD f.toNat default))))=false->yB Z I L S V J f))))/\cond ((((J.getD f.toNat default)||(S.getD f.toNat default))||(!(iJ (L.getD f.toNat default))))||(oE Z I L S V J f)) (Q 12) ((((O==0)=true->w9 ((u.getD f.toNat default).Name) ((u.getD f.toNat default).Material) ((u.getD f.toNat default).Gauge) ((u.getD f.toNat default).Grain) ((u.getD f.toNat default).Rects) ((u.getD f.toNat default).Cuts) ((u.getD f.toNat default).Forms))/\cond ((O==0)&&(rB ((u.getD f.toNat default).Name) ((u.getD f.toNat default).Material) ((u.getD f.toNat default).Gauge) ((u.getD f.toNat default).Grain) ((u.getD f.toNat default).Rects) ((u.getD f.toNat default).Cuts) ((u.getD f.toNat default).Forms))) (Q 15) (((w8 y0 y1 y2 y3 y4 y5 y6 y7 u Z I L S V J f qu qv)/\cond (!(xR y0 y1 y2 y3 y4 y5 y6 y7 u Z I L S V J f qu qv)) (Q 14) (Q 0)))))))))) (((0<=f/\f<u.length)/\cond (decide (0<=G)) (((0<=f/\f<J.length)/\cond (J.getD f.toNat default) (Q 12) (((0<=f/\f<L.length)/\((0<=G/\G<(L.getD f.toNat default).length)/\cond ((L.getD f.toNat default).getD G.toNat default) (Q 12) (((0<=G/\G<((u.getD f.toNat default).Cuts).length)/\cond ((((decide (qu<=((((u.getD f.toNat default).Cuts).getD G.toNat default).X)))||(decide ((aB (((((u.getD f.toNat default).Cuts).getD G.toNat default).X)+((((u.getD f.toNat default).Cuts).getD G.toNat default).W)))<=qu)))||(decide (qv<=((((u.getD f.toNat default).Cuts).getD G.toNat default).Y))))||(decide ((aB (((((u.getD f.toNat default).Cuts).getD G.toNat default).Y)+((((u.getD f.toNat default).Cuts).getD G.toNat default).H)))<=qv))) (Q 14) (Q 0)))))))) ((((0<=f/\f<J.length)/\(((J.getD f.toNat default)=false->0<=f/\f<S.length)/\((((J.getD f.toNat default)||(S.getD f.toNat default))=false->((0<=f/\f<L.length)/\uH (L.getD f.toNat default)))/\((((J.getD f.toNat default)||(S.getD f.toNat default))||(!(iJ (L.getD f.toNat default))))=false->yB Z I L S V J f))))/\cond ((((J.getD f.toNat default)||(S.getD f.toNat default))||(!(iJ (L.getD f.toNat default))))||(oE Z I L S V J f)) (Q 12) ((((O==0)=true->w9 ((u.getD f.toNat default).Name) ((u.getD f.toNat default).Material) ((u.getD f.toNat default).Gauge) ((u.getD f.toNat default).Grain) ((u.getD f.toNat default).Rects) ((u.getD f.toNat default).Cuts) ((u.getD f.toNat default).Forms))/\cond ((O==0)&&(rB ((u.getD f.toNat default).Name) ((u.getD f.toNat default).Material) ((u.getD f.toNat default).Gauge) ((u.getD f.toNat default).Grain) ((u.getD f.toNat default).Rects) ((u.getD f.toNat default).Cuts) ((u.getD f.toNat default).Forms))) (Q 15) (((w8 y0 y1 y2 y3 y4 y5 y6 y7 u Z I L S V J f qu qv)/\cond (!(xR y0 y1 y2 y3 y4 y5 y6 y7 u Z I L S V J f qu qv)) (Q 14) (Q 0))))))))))))))))))) (fun Q=>Q (lI y0 y1 y2 y3 y4 y5 y6 y7 u Z I L S V J f G O qu qv)) (fun r0=>(.int .i64 r0:aC UU)=.int .i64 (lI y0 y1 y2 y3 y4 y5 y6 y7 u Z I L S V J f G O qu qv)) XW (fun Q h=>?_) rfl⟩⟩
  try dsimp only at h ⊢
  unfold lI at h;have hp:aCP y0 y1 y2 y3 y4 y5 y6 y7 u Z I L S V J f G O qu qv:=hc;unfold aCP at hp;obtain⟨hJ,hp⟩:=hp;refine⟨hJ,?_⟩;cases cQ:(!(sH y0 y1 y2 y3 y4 y5 y6 y7 u I L S V J (Z.length:Int)))
  ·try simp only[cQ,QJ] at h hp ⊢
   cases dE:(decide (f<0))
   ·try simp only[dE,QJ] at h hp ⊢
    cases nW:(decide ((u.length:Int)<=f))
    ·try simp only[nW,QJ] at h hp ⊢
     cases uY:(decide (G<(-1)))
     ·try simp only[uY,QJ] at h hp ⊢
      obtain⟨aFH,hp⟩:=hp;refine⟨aFH,?_⟩;cases hb6:(decide ((((u.getD f.toNat default).Cuts).length:Int)<=G))
      ·try simp only[hb6,QJ] at h hp ⊢
       cases hb7:(decide (O<0))
       ·try simp only[hb7,QJ] at h hp ⊢
        cases hb8:(decide (4<O))
        ·try simp only[hb8,QJ] at h hp ⊢
         cases hb9:(decide (0<=G))
         ·try simp only[hb9,QJ] at h hp ⊢
          obtain⟨bPK,hp⟩:=hp;refine⟨bPK,?_⟩;obtain⟨bPJ,bPI,bPH,bPG,hp⟩:=hp;refine⟨⟨bPJ,bPI,bPH,bPG⟩,?_⟩;cases aYJ:(((((J.getD f.toNat default)||(S.getD f.toNat default))||(!(iJ (L.getD f.toNat default))))||(oE Z I L S V J f)))
          ·try simp only[aYJ,QJ] at h hp ⊢
           obtain⟨bPF,hp⟩:=hp;refine⟨bPF,?_⟩;cases aYI:(((O==0)&&(rB ((u.getD f.toNat default).Name) ((u.getD f.toNat default).Material) ((u.getD f.toNat default).Gauge) ((u.getD f.toNat default).Grain) ((u.getD f.toNat default).Rects) ((u.getD f.toNat default).Cuts) ((u.getD f.toNat default).Forms))))
           ·try simp only[aYI,QJ] at h hp ⊢
            have bPE:=hp;refine⟨bPE,?_⟩;cases aYH:(!(xR y0 y1 y2 y3 y4 y5 y6 y7 u Z I L S V J f qu qv))
            ·try simp only[aYH,QJ] at h ⊢
             exact h
            ·try simp only[aYH,QX] at h ⊢
             exact h
           ·try simp only[aYI,QX] at h hp ⊢
            exact h
          ·try simp only[aYJ,QX] at h hp ⊢
           exact h
         ·try simp only[hb9,QX] at h hp ⊢
          cases aYG:(O !=0)
          ·try simp only[aYG,QJ] at h hp ⊢
           obtain⟨bPD,hp⟩:=hp;refine⟨bPD,?_⟩;obtain⟨bPC,hp⟩:=hp;refine⟨bPC,?_⟩;cases aYF:((J.getD f.toNat default))
           ·try simp only[aYF,QJ] at h hp ⊢
            obtain⟨bOy,hp⟩:=hp;refine⟨bOy,?_⟩;obtain⟨bOx,hp⟩:=hp;refine⟨bOx,?_⟩;cases aYE:(((L.getD f.toNat default).getD G.toNat default))
            ·try simp only[aYE,QJ] at h hp ⊢
             have bOw:=hp;refine⟨bOw,?_⟩;cases aYD:(((((decide (qu<=((((u.getD f.toNat default).Cuts).getD G.toNat default).X)))||(decide ((aB (((((u.getD f.toNat default).Cuts).getD G.toNat default).X)+((((u.getD f.toNat default).Cuts).getD G.toNat default).W)))<=qu)))||(decide (qv<=((((u.getD f.toNat default).Cuts).getD G.toNat default).Y))))||(decide ((aB (((((u.getD f.toNat default).Cuts).getD G.toNat default).Y)+((((u.getD f.toNat default).Cuts).getD G.toNat default).H)))<=qv))))
             ·try simp only[aYD,QJ] at h ⊢
              exact h
             ·try simp only[aYD,QX] at h ⊢
              exact h
            ·try simp only[aYE,QX] at h hp ⊢
             exact h
           ·try simp only[aYF,QX] at h hp ⊢
            exact h
          ·try simp only[aYG,QX] at h hp ⊢
           exact h
        ·try simp only[hb8,QX] at h hp ⊢
         exact h
       ·try simp only[hb7,QX] at h hp ⊢
        exact h
      ·try simp only[hb6,QX] at h hp ⊢
       exact h
     ·try simp only[uY,QX] at h hp ⊢
      exact h
    ·try simp only[nW,QX] at h hp ⊢
     exact h
   ·try simp only[dE,QX] at h hp ⊢
    exact h
  ·try simp only[cQ,QX] at h hp ⊢
   exact h
 ·cases h
set_option maxRecDepth 100000
def bB8 (F:Nat):=cY (bM pG F 4 (gK mZ).eO) (gK mZ).eO f157.ntmps pG F
def aM4 (F:Nat):=dO (bM pG F 4 (gK mZ).eO) (gK mZ).eO f157.ntmps pG F
abbrev bDO:=Int->List Edg->Int->Int->Int->Int->Int->List Bool->zzB->List Bool->zzI->List Bool->List Bool->List Bool->zzI->List Bool->zzB->Prop
def aO2 (k:ASt UU->Prop):bDO:=(fun t4 f cU cX dB dG dF Z V S O L J I G u r=>k ⟨tmL [(1,.ptr 12001 0),(2,.ptr 12002 0),(3,.ptr 12003 0),(4,.int .i64 t4),(1000000,.sl .edge f),(1000005,.ptr 5 0),(1000006,.ptr 6 0)],obL [(12042,.row .bool 0 J),(12043,.row .bool 0 I),(12044,.row .int 0 G),(12045,.row .bool 0 u),(12046,.deep .bools 0 0 r),(5,.cells [.int .i64 cU,.int .i64 cX,.int .i64 dB,.int .i64 dG,.int .i64 dF]),(6,.cells [.nils,.nils,.nils,.nils,.nils]),(12001,.cells [.sl .bool Z,.sl .bools V,.sl .bool S,.sl .int O,.sl .bool L]),(12002,.cells [.nils,.nils,.nils,.nils,.nils]),(12003,.cells [.osl 12042 0,.osl 12046 0,.osl 12043 0,.osl 12044 0,.osl 12045 0])]⟩)
abbrev bDN:=List Edg->Int->List Bool->zzB->List Bool->zzI->List Bool->Prop
def aO1 (k:ASt UU->Prop):bDN:=(fun r f I u L J G=>k ⟨tmL [(0,.sl .edge r),(6,.ptr 6 0),(7,.ptr 7 0),(9,.int .i64 f)],obL [(96,.row .bool 0 I),(97,.deep .bools 0 0 u),(98,.row .bool 0 L),(99,.row .int 0 J),(100,.row .bool 0 G),(6,.cells [.nils,.nils,.nils,.nils,.nils]),(7,.cells [.osl 96 0,.osl 97 0,.osl 98 0,.osl 99 0,.osl 100 0])]⟩)
abbrev bDM:=List Edg->Int->Int->Int->Int->Int->Int->List Bool->zzB->List Bool->zzI->List Bool->Prop
def aO0 (k:ASt UU->Prop):bDM:=(fun r f cU Z V O S I u L J G=>k ⟨tmL [(0,.sl .edge r),(5,.ptr 5 0),(6,.ptr 6 0),(7,.ptr 7 0),(8,.int .i64 f)],obL [(96,.row .bool 0 I),(97,.deep .bools 0 0 u),(98,.row .bool 0 L),(99,.row .int 0 J),(100,.row .bool 0 G),(5,.cells [.int .i64 cU,.int .i64 Z,.int .i64 V,.int .i64 O,.int .i64 S]),(6,.cells [.nils,.nils,.nils,.nils,.nils]),(7,.cells [.osl 96 0,.osl 97 0,.osl 98 0,.osl 99 0,.osl 100 0])]⟩)
def bUh:=(cL (cB (cS (cF (cS (cS (bo f192)))))))
def bUg:=(cL (cB (cS (cF (cS (cS (cS (bo f157))))))))
def bUf:=(cL (cB (cS (cS (cS (cE (cS (cF (cS (cS (bo f157)))))))))))
def aKy (F:Nat) (K:zK) (n r:Nat):bDO:=aO2 fun s=>iter (cY (bM pG F 3 ((gK mZ).eO.at 12000)) ((gK mZ).eO.at 12000) f192.ntmps pG F 0 bUh) (pG 12000 0) n r s K
def aFq (F:Nat) (K:zK) (n r:Nat):bDN:=aO1 fun s=>iter (bB8 F 2 bUg) (pG 0 2) n r s K
def aKx (F:Nat) (K:zK) (n r:Nat):bDM:=aO0 fun s=>iter (bB8 F 0 bUf) (pG 0 0) n r s K
def aXQ (F:Nat) (Post:aC UU->Prop):zK:=bU 0 (dO (bM pG F 3 ((gK mZ).eO.at 12000)) ((gK mZ).eO.at 12000) f192.ntmps pG F 0 (cS (cS (cS (bo f192)))) (aOf (bM pG F 4 (gK mZ).eO) (gK mZ).eO f157.ntmps (cR (cF (cS (bo f157)))) 4 2 f192 (some 11) (fun f=>(aM4 F 0 (cS (cS (bo f157))) (bJ (gK mZ).eO false f157 Post)) .normal f)))
def aOe (F:Nat) (Post:aC UU->Prop):zK:=bU 2 (aM4 F 0 (cS4 (bo f157)) (bJ (gK mZ).eO false f157 Post))
def aXP (F:Nat) (Post:aC UU->Prop):zK:=bU 0 (aM4 F 0 (cS (cS (cS (bo f157)))) (bJ (gK mZ).eO false f157 Post))
theorem aVT (F:Nat) (K:zK):∀n r,aFq F K n r=aGg F (aO1 (K (.exit 2))) n
 |0,_=>XW
 |n+1,r=>QY (b:=(fun u f J G O L I=>aZu (aFq F K n (r+1)) (aO1 (K (.exit 2))) u f J G O L I)) XW (by rewrite[aVT F K n (r+1)];kernel_rfl)
theorem aRu (F:Nat) (Post:aC UU->Prop):aFq F (aOe F Post) F 0=aEM F (fun f G r I u=>Post (.agg [.sl .bool f,.sl .bools G,.sl .bool r,.sl .int I,.sl .bool u])):=
 (aVT F _ F 0).trans XW
theorem aVS (F:Nat) (K:zK):∀n r,aKx F K n r=aDS F (aO0 (K (.exit 0))) n
 |0,_=>XW
 |n+1,r=>QY (b:=(fun u f cU cX Z S V J G O L I=>aZt (aKx F K n (r+1)) (aO0 (K (.exit 0))) u f cU cX Z S V J G O L I)) XW (by rewrite[aVS F K n (r+1)];kernel_rfl)
theorem bMe (F:Nat) (Post:aC UU->Prop):aKx F (aXP F Post) F 0=aI1 F (fun f G r I u=>Post (.agg [.sl .bool f,.sl .bools G,.sl .bool r,.sl .int I,.sl .bool u])):=
 (aVS F _ F 0).trans (QY (b:=aDS F (fun L J cU cX dB dG dF V O fI Z S=>aZx (fun f G r I u=>Post (.agg [.sl .bool f,.sl .bools G,.sl .bool r,.sl .int I,.sl .bool u])) L J cU cX dB dG dF V O fI Z S (aFq F (aOe F Post) F 0)) F) XW (by rewrite[aRu F Post];kernel_rfl))
theorem aVU (F:Nat) (K:zK):∀n r,aKy F K n r=aDT F (aO2 (K (.exit 0))) n
 |0,_=>XW
 |n+1,r=>QY (b:=(fun t4 f cU cX dB dG dF qbh Z V S O L J I G u=>aZv (aKy F K n (r+1)) (aO2 (K (.exit 0))) t4 f cU cX dB dG dF qbh Z V S O L J I G u)) XW (by rewrite[aVU F K n (r+1)];kernel_rfl)
theorem bMf (F:Nat) (Post:aC UU->Prop):aKy F (aXQ F Post) F 0=aI2 F (fun f G r I u=>Post (.agg [.sl .bool f,.sl .bools G,.sl .bool r,.sl .int I,.sl .bool u])):=
 (aVU F _ F 0).trans (QY (b:=aDT F (fun t4 J cU cX dB dG dF qbh qbi qbj qbk qbl Z V S O L=>aZy (fun f G r I u=>Post (.agg [.sl .bool f,.sl .bools G,.sl .bool r,.sl .int I,.sl .bool u])) t4 J cU cX dB dG dF qbh qbi qbj qbk qbl Z V S O L (aFq F (aOe F Post) F 0) (aKx F (aXP F Post) F 0)) F) XW (by rewrite[aRu F Post,bMe F Post];kernel_rfl))
theorem bR2 (F:Nat) (Post:aC UU->Prop) (a0:List Edg) (S:List Bool) (L:zzB) (J:List Bool) (I:zzI) (G:List Bool) (O u V r f:Int):exec (gK mZ).eO f157.ntmps pG F 0 (bo f157) (dD [.sl .edge a0,.agg [.sl .bool S,.sl .bools L,.sl .bool J,.sl .int I,.sl .bool G],.agg [.int .i64 O,.int .i64 u,.int .i64 V,.int .i64 r,.int .i64 f]]) (bJ (gK mZ).eO false f157 Post)=aQ4 F a0 S L J I G O u V r f (fun Z eK eM eJ eL=>Post (.agg [.sl .bool Z,.sl .bools eK,.sl .bool eM,.sl .int eJ,.sl .bool eL])):=
 QY (b:=aZw a0 S L J I G O u V r f (fun Z eK eM eJ eL=>Post (.agg [.sl .bool Z,.sl .bools eK,.sl .bool eM,.sl .int eJ,.sl .bool eL])) (aKy F (aXQ F Post) F 0)) XW (by rewrite[bMf F Post];kernel_rfl)
def aSq:Model UU
 |[.sl .edge Z,.agg [.sl .bool S,.sl .bools L,.sl .bool J,.sl .int I,.sl .bool G],.agg [.int .i64 O,.int .i64 u,.int .i64 V,.int .i64 r,.int .i64 f]]=>some ([aMn Z S L J I G O u V r f],.agg [.sl .bool ((qG Z S L J I G O u V r f).1),.sl .bools ((qG Z S L J I G O u V r f).2.1),.sl .bool ((qG Z S L J I G O u V r f).2.2.1),.sl .int ((qG Z S L J I G O u V r f).2.2.2.1),.sl .bool ((qG Z S L J I G O u V r f).2.2.2.2)])
 |_=>none
def vY:Cfg UU:=mZ.add 157 aSq
theorem bG5:aW vY:=(bC6 rfl bGv) mixed (c:=bo f157) func157 XW XW fun xs cs r h hc=>by
 unfold aSq at h;split at h
 ·rename_i a0 V O L J I S G Z u f;cases h;obtain⟨F,hF⟩:=bLH a0 V O L J I S G Z u f hc;exact⟨XW,pG,F,false,⟨by rw[bR2];exact hF _ rfl⟩⟩
 ·cases h
set_option maxRecDepth 100000
def bSv (F:Nat):=cY (bM aBW F 0 vY) vY f97.ntmps aBW F
def bJK (F:Nat):=dO (bM aBW F 0 vY) vY f97.ntmps aBW F
abbrev bDY:=List Itm->Int->Int->List Edg->Int->ByteArray->ByteArray->Int->Int->Int->Int->List aA->List aA->List Pce->List Bool->zzB->List Bool->zzI->List Bool->List Sta->Prop
def aEn (k:ASt UU->Prop):bDY:=(fun I G u r f aR aQ aV aU bB bA bD bC bI O S V Z L J=>k ⟨tmL [(1,.sl .item I),(2,.ptr 2 0),(4,.nils),(5,.int .i64 G),(6,.int .i64 u),(7,.sl .edge r),(8,.ptr 8 0),(9,.osl 46 0),(10,.int .i64 f)],obL [(46,.row .st 0 J),(2,.cells [.str aR,.str aQ,.int .i64 aV,.int .i64 aU,.int .i64 bB,.int .i64 bA,.sl .rect bD,.sl .rect bC,.sl .pc bI]),(8,.cells [.sl .bool O,.sl .bools S,.sl .bool V,.sl .int Z,.sl .bool L])]⟩)
def bUy:=(cL (cB (cS (cF (cS4 (bo f97))))))
def aLP (F:Nat) (K:zK) (n r:Nat):bDY:=aEn fun s=>iter (bSv F 0 bUy) (aBW 0 0) n r s K
def aX8 (F:Nat) (Post:aC UU->Prop):zK:=bU 0 (bJK F 0 (cS4 (cS (bo f97))) (bJ vY false f97 Post))
theorem aVc (F:Nat) (K:zK):∀n r,aLP F K n r=aGt F (aEn (K .ret)) (aEn (K (.exit 0))) n
 |0,_=>XW
 |n+1,r=>QY (b:=(fun J I G u f aR aQ aV aU bB bA bD bC bI S V Z iQ O L=>bA6 (aLP F K n (r+1)) (aEn (K .ret)) (aEn (K (.exit 0))) J I G u f aR aQ aV aU bB bA bD bC bI S V Z iQ O L)) XW (by rewrite[aVc F K n (r+1)];kernel_rfl)
theorem bMx (F:Nat) (Post:aC UU->Prop):aLP F (aX8 F Post) F 0=aId F (fun u r f=>Post (.tup [.sl .st u,.int .i64 r,.int .i64 f])):=
 (aVc F _ F 0).trans XW
theorem bRi (F:Nat) (Post:aC UU->Prop) (S O:ByteArray) (L J I G:Int) (u r:List aA) (f:List Pce) (a1:List Itm):exec vY f97.ntmps aBW F 0 (bo f97) (dD [.agg [.str S,.str O,.int .i64 L,.int .i64 J,.int .i64 I,.int .i64 G,.sl .rect u,.sl .rect r,.sl .pc f],.sl .item a1]) (bJ vY false f97 Post)=aQi F S O L J I G u r f a1 (fun r0 Z V=>Post (.tup [.sl .st r0,.int .i64 Z,.int .i64 V])):=
 QY (b:=bA7 S O L J I G u r f a1 (fun r0 Z V=>Post (.tup [.sl .st r0,.int .i64 Z,.int .i64 V])) (aLP F (aX8 F Post) F 0)) XW (by rewrite[bMx F Post];kernel_rfl)
def aTG:Model UU
 |[.agg [.str S,.str O,.int .i64 L,.int .i64 J,.int .i64 I,.int .i64 G,.sl .rect u,.sl .rect r,.sl .pc f],.sl .item V]=>some ([aHm S O L J I G u r f V],.tup [.sl .st ((fA S O L J I G u r f V).1),.int .i64 ((fA S O L J I G u r f V).2.1),.int .i64 ((fA S O L J I G u r f V).2.2)])
 |_=>none
def bDu:Cfg UU:=vY.add 97 aTG
theorem bGk:aW bDu:=cV bG5 mixed func97 XW XW fun xs cs r h Z=>by
 unfold aTG at h;split at h
 ·rename_i V S O L J I G u f a1;cases h;obtain⟨F,hF⟩:=bLX V S O L J I G u f a1 Z;exact⟨XW,aBW,F,false,⟨by rw[bRi];exact hF _ rfl⟩⟩
 ·cases h
set_option maxRecDepth 100000
def aTR:Model UU
 |[.agg [.str S,.str O,.int .i64 L,.int .i64 J,.int .i64 I,.int .i64 G,.sl .rect u,.sl .rect r,.sl .pc f],.sl .item V]=>some ([aCQ S O L J I G u r f V],.tup [.agg [.sl .bool ((iE S O L J I G u r f V).1),.sl .bools ((iE S O L J I G u r f V).2.1),.sl .bool ((iE S O L J I G u r f V).2.2.1),.sl .int ((iE S O L J I G u r f V).2.2.2.1),.sl .bool ((iE S O L J I G u r f V).2.2.2.2.1)],.int .i64 ((iE S O L J I G u r f V).2.2.2.2.2.1),.int .i64 ((iE S O L J I G u r f V).2.2.2.2.2.2)])
 |_=>none
def wH:Cfg UU:=bDu.add 41 aTR
theorem bGx:aW wH:=cV bGk mixed func41 XW XW fun xs cs r h hc=>by
 unfold aTR at h;split at h
 ·rename_i V S O L J I G u f Z;cases h;refine⟨XW,M0,0,false,⟨kF (fun Q:(List Bool)->(zzB)->(List Bool)->(zzI)->(List Bool)->Int->Int->Prop=>((aCK V S O L J I G u f)/\cond ((mG V S O L J I G u f) !=0) (Q ([]) ([]) ([]) ([]) ([]) 0 (mG V S O L J I G u f)) (cond (decide (128<(Z.length:Int))) (Q ([]) ([]) ([]) ([]) ([]) 0 4) (cond ((Z.length:Int)==0) (((aDy V S O L J I G u f)/\Q ((jD V S O L J I G u f).1) ((jD V S O L J I G u f).2.1) ((jD V S O L J I G u f).2.2.1) ((jD V S O L J I G u f).2.2.2.1) ((jD V S O L J I G u f).2.2.2.2) 0 0)) (((aHm V S O L J I G u f Z)/\cond (((fA V S O L J I G u f Z).2.2) !=0) (Q ([]) ([]) ([]) ([]) ([]) ((fA V S O L J I G u f Z).2.1) ((fA V S O L J I G u f Z).2.2)) (((0<=(aB ((((fA V S O L J I G u f Z).1).length:Int)-1))/\(aB ((((fA V S O L J I G u f Z).1).length:Int)-1))<((fA V S O L J I G u f Z).1).length)/\Q ((((fA V S O L J I G u f Z).1).getD ((aB ((((fA V S O L J I G u f Z).1).length:Int)-1)).toNat) default).Cut) ((((fA V S O L J I G u f Z).1).getD ((aB ((((fA V S O L J I G u f Z).1).length:Int)-1)).toNat) default).Holes) ((((fA V S O L J I G u f Z).1).getD ((aB ((((fA V S O L J I G u f Z).1).length:Int)-1)).toNat) default).sA) ((((fA V S O L J I G u f Z).1).getD ((aB ((((fA V S O L J I G u f Z).1).length:Int)-1)).toNat) default).Joints) ((((fA V S O L J I G u f Z).1).getD ((aB ((((fA V S O L J I G u f Z).1).length:Int)-1)).toNat) default).Fallen) 0 0)))))))) (fun Q=>Q ((iE V S O L J I G u f Z).1) ((iE V S O L J I G u f Z).2.1) ((iE V S O L J I G u f Z).2.2.1) ((iE V S O L J I G u f Z).2.2.2.1) ((iE V S O L J I G u f Z).2.2.2.2.1) ((iE V S O L J I G u f Z).2.2.2.2.2.1) ((iE V S O L J I G u f Z).2.2.2.2.2.2)) (fun eN eK eM eJ eL r1 r2=>(.tup [.agg [.sl .bool eN,.sl .bools eK,.sl .bool eM,.sl .int eJ,.sl .bool eL],.int .i64 r1,.int .i64 r2]:aC UU)=.tup [.agg [.sl .bool ((iE V S O L J I G u f Z).1),.sl .bools ((iE V S O L J I G u f Z).2.1),.sl .bool ((iE V S O L J I G u f Z).2.2.1),.sl .int ((iE V S O L J I G u f Z).2.2.2.1),.sl .bool ((iE V S O L J I G u f Z).2.2.2.2.1)],.int .i64 ((iE V S O L J I G u f Z).2.2.2.2.2.1),.int .i64 ((iE V S O L J I G u f Z).2.2.2.2.2.2)]) XW (fun Q h=>?_) rfl⟩⟩
  try dsimp only at h ⊢
  unfold iE at h;have hp:aCQ V S O L J I G u f Z:=hc;unfold aCQ at hp;obtain⟨hJ,hp⟩:=hp;refine⟨hJ,?_⟩;cases cQ:((mG V S O L J I G u f) !=0)
  ·try simp only[cQ,QJ] at h hp ⊢
   cases dE:(decide (128<(Z.length:Int)))
   ·try simp only[dE,QJ] at h hp ⊢
    cases nW:((Z.length:Int)==0)
    ·try simp only[nW,QJ] at h hp ⊢
     obtain⟨aOp,hp⟩:=hp;refine⟨aOp,?_⟩;cases hb5:(((fA V S O L J I G u f Z).2.2) !=0)
     ·try simp only[hb5,QJ] at h hp ⊢
      have bOt:=hp;refine⟨bOt,?_⟩;exact h
     ·try simp only[hb5,QX] at h hp ⊢
      exact h
    ·try simp only[nW,QX] at h hp ⊢
     have bOs:=hp;refine⟨bOs,?_⟩;exact h
   ·try simp only[dE,QX] at h hp ⊢
    exact h
  ·try simp only[cQ,QX] at h hp ⊢
   exact h
 ·cases h
def bSo (F:Nat):=cY (bM aBP F 0 wH) wH f18.ntmps aBP F
def bJD (F:Nat):=dO (bM aBP F 0 wH) wH f18.ntmps aBP F
abbrev bDR:=Int->Int->List Bool->zzB->List Bool->zzI->List Bool->Prop
def aEi (k:ASt UU->Prop):bDR:=(fun r f L J I u G=>k ⟨tmL [(4,.int .i64 r),(5,.ptr 5 0),(8,.int .i64 f)],obL [(5,.cells [.sl .bool L,.sl .bools J,.sl .bool I,.sl .int u,.sl .bool G])]⟩)
def bUn:=(cL (cB (cS (cF (cS4 (bo f18))))))
def aLE (F:Nat) (K:zK) (n r:Nat):bDR:=aEi fun s=>iter (bSo F 0 bUn) (aBP 0 0) n r s K
def aXX (F:Nat) (Post:aC UU->Prop):zK:=bU 0 (bJD F 0 (cS4 (cS (bo f18))) (bJ wH false f18 Post))
theorem aV1 (F:Nat) (K:zK):∀n r,aLE F K n r=aGk F (aEi (K .ret)) (aEi (K (.exit 0))) n
 |0,_=>XW
 |n+1,r=>QY (b:=(fun u f O L J G I=>bAJ (aLE F K n (r+1)) (aEi (K .ret)) (aEi (K (.exit 0))) u f O L J G I)) XW (by rewrite[aV1 F K n (r+1)];kernel_rfl)
theorem bMm (F:Nat) (Post:aC UU->Prop):aLE F (aXX F Post) F 0=aN2 F (fun f=>Post (.int .i64 f)):=
 (aV1 F _ F 0).trans XW
theorem bR8 (F:Nat) (Post:aC UU->Prop) (S O:ByteArray) (L J I G:Int) (u r:List aA) (f:List Pce) (Z:List Itm):exec wH f18.ntmps aBP F 0 (bo f18) (dD [.agg [.str S,.str O,.int .i64 L,.int .i64 J,.int .i64 I,.int .i64 G,.sl .rect u,.sl .rect r,.sl .pc f],.sl .item Z]) (bJ wH false f18 Post)=aLt F S O L J I G u r f Z (fun V=>Post (.int .i64 V)):=
 QY (b:=aPE S O L J I G u r f Z (fun V=>Post (.int .i64 V)) (aLE F (aXX F Post) F 0)) XW (by rewrite[bMm F Post];kernel_rfl)
def aSw:Model UU
 |[.agg [.str S,.str O,.int .i64 L,.int .i64 J,.int .i64 I,.int .i64 G,.sl .rect u,.sl .rect r,.sl .pc f],.sl .item V]=>some ([aDx S O L J I G u r f V],.int .i64 (sI S O L J I G u r f V))
 |_=>none
def bDp:Cfg UU:=wH.add 18 aSw
theorem bGa:aW bDp:=cV bGx mixed func18 XW XW fun xs cs r h Z=>by
 unfold aSw at h;split at h
 ·rename_i V S O L J I G u f a1;cases h;obtain⟨F,hF⟩:=bLN V S O L J I G u f a1 Z;exact⟨XW,aBP,F,false,⟨by rw[bR8];exact hF _ rfl⟩⟩
 ·cases h
set_option maxRecDepth 100000
def aTL:Model UU
 |[.int .i64 r,.int .i64 f]=>some ([],.agg [.int .i64 ((oF r f).1),.int .i64 ((oF r f).2.1),.int .i64 ((oF r f).2.2.1),.int .i64 ((oF r f).2.2.2.1),.int .i64 ((oF r f).2.2.2.2.1),.int .i64 ((oF r f).2.2.2.2.2)])
 |_=>none
def bDx:Cfg UU:=bDp.add 20 aTL
theorem bGr:aW bDx:=tin bGa mixed func20 XW XW false fun xs f r h=>by
 unfold aTL at h;split at h
 ·cases h;exact⟨XW,XW⟩
 ·cases h
def aTM:Model UU
 |[.int .i64 r,.int .i64 f]=>some ([],.agg [.int .i64 ((oG r f).1),.int .i64 ((oG r f).2.1),.int .i64 ((oG r f).2.2.1),.int .i64 ((oG r f).2.2.2.1),.int .i64 ((oG r f).2.2.2.2.1),.int .i64 ((oG r f).2.2.2.2.2)])
 |_=>none
def bDy:Cfg UU:=bDx.add 21 aTM
theorem bGs:aW bDy:=tin bGr mixed func21 XW XW false fun xs f r h=>by
 unfold aTM at h;split at h
 ·cases h;exact⟨XW,XW⟩
 ·cases h
def aTN:Model UU
 |[.agg [.int .i64 u,.int .i64 G,.int .i64 f,.int .i64 r]]=>some ([],.int .i64 (k9 u G f r))
 |_=>none
def bDz:Cfg UU:=bDy.add 22 aTN
theorem bGt:aW bDz:=cV bGs mixed func22 XW XW fun xs O r h L=>by
 unfold aTN at h;split at h
 ·rename_i G I f u;cases h;refine⟨XW,M0,0,false,⟨kF (fun Q:Int->Prop=>(((2:Int)≠0)/\Q (mi 720 (aB (Int.tdiv (aB ((aB ((aB (f-G))+u))-I)) 2))))) (fun Q=>Q (k9 G I f u)) (fun J=>(.int .i64 J:aC UU)=.int .i64 (k9 G I f u)) XW (fun Q h=>?_) rfl⟩⟩
  try dsimp only at h ⊢
  unfold k9 at h;refine⟨by decide,?_⟩;exact h
 ·cases h
def aTO:Model UU
 |[.agg [.int .i64 u,.int .i64 G,.int .i64 f,.int .i64 r],.int .i64 I]=>some ([],.tup [.int .i64 ((sJ u G f r I).1),.int .i64 ((sJ u G f r I).2)])
 |_=>none
def tQ:Cfg UU:=bDz.add 23 aTO
theorem bGu:aW tQ:=cV bGt mixed func23 XW XW fun xs V r h S=>by
 unfold aTO at h;split at h
 ·rename_i J G u f I;cases h;refine⟨XW,M0,0,false,⟨of_eq (q:=(fun Q:Int->Int->Prop=>cond (G==f) (Q (aB (u-I)) f) (Q u (aB (f-I)))) fun O L=>(.tup [.int .i64 O,.int .i64 L]:aC UU)=.tup [.int .i64 ((sJ J G u f I).1),.int .i64 ((sJ J G u f I).2)]) XW ?_⟩⟩;unfold sJ;cases (G==f)<;>rfl
 ·cases h
def aCi (F:Nat):=cY (bM qX F 0 tQ) tQ Tryz.f6.ntmps qX F
def aHc (F:Nat):=dO (bM qX F 0 tQ) tQ Tryz.f6.ntmps qX F
abbrev bCf:=List Itm->List Edg->Int->ByteArray->ByteArray->Int->Int->Int->Int->List aA->List aA->List Pce->List Bool->List Opn->Prop
def aIy (k:ASt UU->Prop):bCf:=(fun u r f aR aQ Z aU S V L O J G I=>k ⟨tmL [(1,.sl .item u),(2,.ptr 2 0),(7,.sl .edge r),(9,.osl 230 0),(10,.osl 231 0),(11,.nils),(12,.int .i64 f)],obL [(230,.row .bool 0 G),(231,.row .op 0 I),(2,.cells [.str aR,.str aQ,.int .i64 Z,.int .i64 aU,.int .i64 S,.int .i64 V,.sl .rect L,.sl .rect O,.sl .pc J])]⟩)
abbrev bCe:=List Itm->List Edg->Int->Int->ByteArray->ByteArray->Int->Int->Int->Int->List aA->List aA->List Pce->List Bool->List Opn->Prop
def aNz (k:ASt UU->Prop):bCe:=(fun G u r f aR aQ aV aU V Z O S L I J=>k ⟨tmL [(1,.sl .item G),(2,.ptr 2 0),(7,.sl .edge u),(9,.osl 230 0),(10,.osl 231 0),(11,.nils),(12,.int .i64 r),(13,.int .i64 f)],obL [(230,.row .bool 0 I),(231,.row .op 0 J),(2,.cells [.str aR,.str aQ,.int .i64 aV,.int .i64 aU,.int .i64 V,.int .i64 Z,.sl .rect O,.sl .rect S,.sl .pc L])]⟩)
abbrev bCd:=List Itm->List Edg->Int->ByteArray->ByteArray->Int->Int->Int->Int->List aA->List aA->List Pce->List Bool->List Opn->List Opn->Prop
def aIx (k:ASt UU->Prop):bCd:=(fun u r f aR aQ aV aU V Z O S L I J G=>k ⟨tmL [(1,.sl .item u),(2,.ptr 2 0),(7,.sl .edge r),(9,.osl 230 0),(10,.osl 231 0),(11,.osl 232 0),(15,.int .i64 f)],obL [(230,.row .bool 0 I),(231,.row .op 0 J),(232,.row .op 0 G),(2,.cells [.str aR,.str aQ,.int .i64 aV,.int .i64 aU,.int .i64 V,.int .i64 Z,.sl .rect O,.sl .rect S,.sl .pc L])]⟩)
abbrev bCc:=List Itm->List Edg->Int->Int->Int->ByteArray->ByteArray->Int->Int->Int->Int->List aA->List aA->List Pce->Int->Int->Int->Int->Int->List Bool->List Opn->List Opn->Prop
def aNy (k:ASt UU->Prop):bCc:=(fun I G u r f aR aQ aV aU bB bA bD bC bI V J L O S dA cZ Z=>k ⟨tmL [(1,.sl .item I),(2,.ptr 2 0),(7,.sl .edge G),(9,.osl 230 0),(10,.osl 231 0),(11,.osl 232 0),(15,.int .i64 u),(16,.ptr 16 0),(18,.int .i64 r),(19,.int .i64 f)],obL [(230,.row .bool 0 dA),(231,.row .op 0 cZ),(232,.row .op 0 Z),(2,.cells [.str aR,.str aQ,.int .i64 aV,.int .i64 aU,.int .i64 bB,.int .i64 bA,.sl .rect bD,.sl .rect bC,.sl .pc bI]),(16,.cells [.int .i64 V,.int .i64 J,.int .i64 L,.int .i64 O,.int .i64 S])]⟩)
def aJq:=(cL (cB (cS (cF (cS4 (cS (cS (bo Tryz.f6))))))))
def bTy:=(cL (cB (cS (cB (cF (cS aJq))))))
def aJp:=(cL (cB (cS (cF (cS4 (cS (cS (cS (bo Tryz.f6)))))))))
def bTx:=(cL (cB (cS4 (cS (cB (cF (cS aJp)))))))
def aFb (F:Nat) (K:zK) (n r:Nat):bCf:=aIy fun s=>iter (aCi F 0 aJq) (qX 0 0) n r s K
def aKR (F:Nat) (K:zK) (n r:Nat):bCe:=aNz fun s=>iter (aCi F 2 bTy) (qX 0 2) n r s K
def aFa (F:Nat) (K:zK) (n r:Nat):bCd:=aIx fun s=>iter (aCi F 4 aJp) (qX 0 4) n r s K
def aKQ (F:Nat) (K:zK) (n r:Nat):bCc:=aNy fun s=>iter (aCi F 6 bTx) (qX 0 6) n r s K
def aWW (F:Nat) (Post:aC UU->Prop):zK:=bU 0 (aHc F 0 (cS4 (cS (cS (cS (bo Tryz.f6))))) (bJ tQ false Tryz.f6 Post))
def aWV (F n r:Nat) (K:zK):zK:=bU 2 (bU 1 (aHc F 0 (cS (cS aJq)) (kN (aCi F 0 aJq) (qX 0 0) n r K)))
def aWU (F:Nat) (Post:aC UU->Prop):zK:=bU 4 (aHc F 0 (cS4 (cS4 (bo Tryz.f6))) (bJ tQ false Tryz.f6 Post))
def aWT (F n r:Nat) (K:zK):zK:=bU 6 (bU 5 (aHc F 4 (cS (cS aJp)) (kN (aCi F 4 aJp) (qX 0 4) n r K)))
theorem aUX (F:Nat) (K:zK):∀n r,aKR F K n r=aGN F (aNz (K (.exit 2))) n
 |0,_=>XW
 |n+1,r=>QY (b:=(fun I G u f aR aQ aV aU Z bA S V O J L=>aYV (aKR F K n (r+1)) (aNz (K (.exit 2))) I G u f aR aQ aV aU Z bA S V O J L)) XW (by rewrite[aUX F K n (r+1)];kernel_rfl)
theorem bLk (F n r:Nat) (K:zK):aKR F (aWV F n r K) F 0=aND F (aFb F K n (r+1)) (aIy (K (.exit 0))):=
 (aUX F _ F 0).trans XW
theorem aUV (F:Nat) (K:zK):∀n r,aKQ F K n r=aGM F (aNy (K (.exit 6))) n
 |0,_=>XW
 |n+1,r=>QY (b:=(fun J I G u f aR aQ aV aU bB bA bD bC bI Z L O S V dA cZ fE=>aYT (aKQ F K n (r+1)) (aNy (K (.exit 6))) J I G u f aR aQ aV aU bB bA bD bC bI Z L O S V dA cZ fE)) XW (by rewrite[aUV F K n (r+1)];kernel_rfl)
theorem bLi (F n r:Nat) (K:zK):aKQ F (aWT F n r K) F 0=aNC F (aFa F K n (r+1)) (aIx (K (.exit 4))):=
 (aUV F _ F 0).trans XW
theorem aUW (F:Nat) (K:zK):∀n r,aFa F K n r=zT F (aIx (K (.exit 4))) n
 |0,_=>XW
 |n+1,r=>QY (b:=(fun G u f aR aQ aV aU Z bA S V O J L I=>aYU (aFa F K n (r+1)) (aIx (K (.exit 4))) G u f aR aQ aV aU Z bA S V O J L I (aKQ F (aWT F n r K) F 0))) XW (by rewrite[bLi F n r K,aUW F K n (r+1)];kernel_rfl)
theorem bLj (F:Nat) (Post:aC UU->Prop):aFa F (aWU F Post) F 0=aIE F (fun r f=>Post (.tup [.sl .op r,.int .i64 f])):=
 (aUW F _ F 0).trans XW
theorem aUY (F:Nat) (K:zK):∀n r,aFb F K n r=wY F (aIy (K (.exit 0))) n
 |0,_=>XW
 |n+1,r=>QY (b:=(fun G u f aR aQ aV aU V Z O S L I J=>aYW (aFb F K n (r+1)) (aIy (K (.exit 0))) G u f aR aQ aV aU V Z O S L I J (aKR F (aWV F n r K) F 0))) XW (by rewrite[bLk F n r K,aUY F K n (r+1)];kernel_rfl)
theorem bLl (F:Nat) (Post:aC UU->Prop):aFb F (aWW F Post) F 0=aIF F (fun r f=>Post (.tup [.sl .op r,.int .i64 f])):=
 (aUY F _ F 0).trans (QY (b:=wY F (fun I G u aR aQ aV aU Z bA S V O J L=>aYY (fun r f=>Post (.tup [.sl .op r,.int .i64 f])) I G u aR aQ aV aU Z bA S V O J L (aFa F (aWU F Post) F 0)) F) XW (by rewrite[bLj F Post];kernel_rfl))
theorem bQy (F:Nat) (Post:aC UU->Prop) (S O:ByteArray) (L J I G:Int) (u r:List aA) (f:List Pce) (a1:List Itm):exec tQ Tryz.f6.ntmps qX F 0 (bo Tryz.f6) (dD [.agg [.str S,.str O,.int .i64 L,.int .i64 J,.int .i64 I,.int .i64 G,.sl .rect u,.sl .rect r,.sl .pc f],.sl .item a1]) (bJ tQ false Tryz.f6 Post)=aQE F S O L J I G u r f a1 (fun Z V=>Post (.tup [.sl .op Z,.int .i64 V])):=
 QY (b:=aYX S O L J I G u r f a1 (fun Z V=>Post (.tup [.sl .op Z,.int .i64 V])) (aFb F (aWW F Post) F 0)) XW (by rewrite[bLl F Post];kernel_rfl)
def aSX:Model UU
 |[.agg [.str S,.str O,.int .i64 L,.int .i64 J,.int .i64 I,.int .i64 G,.sl .rect u,.sl .rect r,.sl .pc f],.sl .item V]=>some ([aHg S O L J I G u r f V],.tup [.sl .op ((xN S O L J I G u r f V).1),.int .i64 ((xN S O L J I G u r f V).2)])
 |_=>none
def vM:Cfg UU:=tQ.add 6 aSX
theorem bGC:aW vM:=cV bGu mixed func6 XW XW fun xs cs r h Z=>by
 unfold aSX at h;split at h
 ·rename_i V S O L J I G u f a1;cases h;obtain⟨F,hF⟩:=bKe V S O L J I G u f a1 Z;exact⟨XW,qX,F,false,⟨by rw[bQy];exact hF _ rfl⟩⟩
 ·cases h
def bS7 (F:Nat):=cY (bM aAy F 0 vM) vM Tryz.f7.ntmps aAy F
def bIm (F:Nat):=dO (bM aAy F 0 vM) vM Tryz.f7.ntmps aAy F
abbrev bCk:=List Opn->List Opn->Bool->Int->Prop
def aEY (k:ASt UU->Prop):bCk:=(fun G u r f=>k ⟨tmL [(0,.sl .op G),(1,.sl .op u),(4,.bool r),(5,.int .i64 f)],obL []⟩)
def bUH:=(cL (cB (cS (cF (cS (cS (bo Tryz.f7)))))))
def aK0 (F:Nat) (K:zK) (n r:Nat):bCk:=aEY fun s=>iter (bS7 F 0 bUH) (aAy 0 0) n r s K
def aW8 (F:Nat) (Post:aC UU->Prop):zK:=bU 0 (bIm F 0 (cS (cS (cS (bo Tryz.f7)))) (bJ vM false Tryz.f7 Post))
theorem aUa (F:Nat) (K:zK):∀n r,aK0 F K n r=aGT F (aEY (K .ret)) (aEY (K (.exit 0))) n
 |0,_=>XW
 |n+1,r=>QY (b:=(fun I G u f=>aYi (aK0 F K n (r+1)) (aEY (K .ret)) (aEY (K (.exit 0))) I G u f)) XW (by rewrite[aUa F K n (r+1)];kernel_rfl)
theorem bLx (F:Nat) (Post:aC UU->Prop):aK0 F (aW8 F Post) F 0=aNH F (fun f=>Post (.bool f)):=
 (aUa F _ F 0).trans XW
theorem bRD (F:Nat) (Post:aC UU->Prop) (u r:List Opn):exec vM Tryz.f7.ntmps aAy F 0 (bo Tryz.f7) (dD [.sl .op u,.sl .op r]) (bJ vM false Tryz.f7 Post)=aQJ F u r (fun f=>Post (.bool f)):=
 QY (b:=aYj u r (fun f=>Post (.bool f)) (aK0 F (aW8 F Post) F 0)) XW (by rewrite[bLx F Post];kernel_rfl)
def aS2:Model UU
 |[.sl .op r,.sl .op f]=>some ([aMg r f],.bool (aHJ r f))
 |_=>none
def aLi:Cfg UU:=vM.add 7 aS2
theorem bGH:aW aLi:=cV bGC mixed func7 XW XW fun xs I r h f=>by
 unfold aS2 at h;split at h
 ·rename_i G u;cases h;obtain⟨F,hF⟩:=bKj G u f;exact⟨XW,aAy,F,false,⟨by rw[bRD];exact hF _ rfl⟩⟩
 ·cases h
set_option maxRecDepth 100000
theorem bRO (F:Nat) (Post:aC UU->Prop) (S O:ByteArray) (L J I G:Int) (u r:List aA) (f:List Pce) (V:List Itm):exec aLi Tryz.f3.ntmps bDb F 0 (bo Tryz.f3) (dD [.agg [.str S,.str O,.int .i64 L,.int .i64 J,.int .i64 I,.int .i64 G,.sl .rect u,.sl .rect r,.sl .pc f],.sl .item V]) (bJ aLi false Tryz.f3 Post)=aQS F S O L J I G u r f V (fun Z=>Post (.bool Z)):=
 by kernel_rfl
end
end Go.Proofs.YtjjbojomlfgjlaaGreatDoor
