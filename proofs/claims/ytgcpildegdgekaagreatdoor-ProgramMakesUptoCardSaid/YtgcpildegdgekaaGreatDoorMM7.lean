/- Lemmas, walks and laws of this proof, part 7. Conditions: those that each names. -/
import Derived.Test.YtgcpildegdgekaaGreatDoorMM4
import Derived.Test.YtgcpildegdgekaaGreatDoorMM6
import Derived.Test.YtgcpildegdgekaaGreatDoorMM3
import Derived.OwnWalkIn
import Derived.OrdersIn
import Derived.RangeFuncCalls
import Derived.RangeFuncRecord
import Derived.Laws.IdiomRangeMap
import Derived.Test.YtgcpildegdgekaaGreatDoorMM5
import Derived.WalkKit
import Derived.OwnWalk
import Derived.Lib.Walk
import Derived.Lib.SliceRun
import Derived.Deep.LoopGhost
set_option maxRecDepth 100000
set_option linter.unusedVariables false
namespace Go.Proofs.YtgcpildegdgekaaGreatDoor
open Go.Proofs.Tryz
open Go.RowKit Go.Vm
noncomputable section
def aYD (F:Nat):=cX (aU dI F 3 (dH dM).bZ) (dH dM).bZ f11.ntmps dI F
def Ll (F:Nat):=cA (aU dI F 3 (dH dM).bZ) (dH dM).bZ f11.ntmps dI F
abbrev aIw:=List Seg->Int->List Seg->Int->Int->ByteArray->ByteArray->Int->Int->Int->Int->List aA->List aA->Prop
def Nn (k:ASt UU->Prop):aIw:=(fun I G u j f bE bD V Z O S J L=>k ⟨tmL [(1,.sl .seg I),(2,.ptr 2 0),(4,.nils),(5,.i G),(19,.sl .seg u),(20,.i j),(21,.i f)],obL [(2,.cells [.str bE,.str bD,.i V,.i Z,.i O,.i S,.sl .rect J,.sl .rect L])]⟩)
abbrev aIv:=List Seg->List Seg->Int->Int->zzI->zzI->Prop
def bt (k:ASt UU->Prop):aIv:=(fun J u j f I G=>k ⟨tmL [(1,.sl .seg J),(6,.osl 34188 0),(7,.osl 34189 0),(23,.sl .seg u),(24,.i j),(25,.i f)],obL [(34188,.row .int 0 I),(34189,.row .int 0 G)]⟩)
abbrev K3:=List Seg->Int->Int->zzI->zzI->zzB->zzB->zzZ->Prop
def br (k:ASt UU->Prop):K3:=(fun O j f L J I G u=>k ⟨tmL [(1,.sl .seg O),(10,.ptr 34049 0),(68,.i j),(69,.i f)],obL [(34188,.row .int 0 L),(34189,.row .int 0 J),(34190,.deep .bools 0 0 I),(34191,.deep .bools 0 0 G),(34192,.deep .ints 0 0 u),(34049,.cells [.osl 34188 0,.osl 34189 0,.osl 34190 0,.osl 34191 0,.osl 34192 0])]⟩)
def Gk (k:ASt UU->Prop):K3:=(fun u j f O L J I G=>k ⟨tmL [(10,.ptr 34049 0),(118,.sl .seg u),(119,.i j),(120,.i f)],obL [(34188,.row .int 0 O),(34189,.row .int 0 L),(34190,.deep .bools 0 0 J),(34191,.deep .bools 0 0 I),(34192,.deep .ints 0 0 G),(34049,.cells [.osl 34188 0,.osl 34189 0,.osl 34190 0,.osl 34191 0,.osl 34192 0])]⟩)
abbrev K2:=Int->Int->List Seg->Int->Int->Int->Int->Int->Int->zzI->zzI->zzB->zzB->zzZ->Prop
def bq (k:ASt UU->Prop):K2:=(fun I G u j f qbc qbd qbe Z V S O L J=>k ⟨tmL [(10,.ptr 34049 0),(12,.ptr 34012 0),(13,.i I),(15,.i G),(118,.sl .seg u),(119,.i j),(120,.i f)],obL [(34188,.row .int 0 V),(34189,.row .int 0 S),(34190,.deep .bools 0 0 O),(34191,.deep .bools 0 0 L),(34192,.deep .ints 0 0 J),(34012,.cells [.i qbc,.i qbd,.i qbe,.i Z]),(34049,.cells [.osl 34188 0,.osl 34189 0,.osl 34190 0,.osl 34191 0,.osl 34192 0])]⟩)
abbrev aIu:=Int->Int->zzI->zzI->zzB->zzB->zzZ->List (List aA)->Prop
def Xn (k:ASt UU->Prop):aIu:=(fun j f O L J I G u=>k ⟨tmL [(0,.ptr 34049 0),(3,.osl 40119 0),(12,.i j),(13,.i f)],obL [(40114,.row .int 0 O),(40115,.row .int 0 L),(40116,.deep .bools 0 0 J),(40117,.deep .bools 0 0 I),(40118,.deep .ints 0 0 G),(40119,.deep .rects 0 0 u),(34049,.cells [.osl 40114 0,.osl 40115 0,.osl 40116 0,.osl 40117 0,.osl 40118 0])]⟩)
def bp (k:ASt UU->Prop):K2:=(fun I G u j f qbc qbd qbe Z V S O L J=>k ⟨tmL [(10,.ptr 34049 0),(12,.ptr 34012 0),(13,.i I),(15,.i G),(118,.sl .seg u),(119,.i j),(120,.i f)],obL [(34188,.row .int 0 V),(34189,.row .int 0 S),(34190,.deep .bools 0 0 O),(34191,.deep .bools 0 0 L),(34192,.deep .ints 0 0 J),(34012,.cells [.i qbc,.i qbd,.i qbe,.i Z]),(34049,.cells [.osl 34188 0,.osl 34189 0,.osl 34190 0,.osl 34191 0,.osl 34192 0])]⟩)
abbrev aIt:=Int->Int->Int->Int->Int->zzI->zzI->zzB->zzB->zzZ->List (List aA)->Prop
def Xm (k:ASt UU->Prop):aIt:=(fun Z G u j f V S O L J I=>k ⟨tmL [(0,.ptr 34049 0),(3,.osl 40119 0),(4,.i Z),(12,.i G),(13,.i u),(21,.i j),(22,.i f)],obL [(40114,.row .int 0 V),(40115,.row .int 0 S),(40116,.deep .bools 0 0 O),(40117,.deep .bools 0 0 L),(40118,.deep .ints 0 0 J),(40119,.deep .rects 0 0 I),(34049,.cells [.osl 40114 0,.osl 40115 0,.osl 40116 0,.osl 40117 0,.osl 40118 0])]⟩)
abbrev aIs:=Int->Int->Int->Int->Int->Int->Int->zzI->zzI->zzB->zzB->zzZ->List Par->List (List aA)->Prop
def bn (k:ASt UU->Prop):aIs:=(fun J I G u j f qbg qbr qbs Z V S O L=>k ⟨tmL [(4,.ptr 40042004 0),(7,.ptr 40042007 0),(8,.ptr 40042008 0),(2000000,.ptr 34049 0),(2000003,.osl 40042151 0),(2000004,.i J),(2000005,.i I),(2000012,.i G),(2000013,.i u),(2000021,.i j),(2000022,.i f)],obL [(40042145,.row .int 0 qbr),(40042146,.row .int 0 qbs),(40042147,.deep .bools 0 0 Z),(40042148,.deep .bools 0 0 V),(40042149,.deep .ints 0 0 S),(40042150,.row .par 0 O),(40042151,.deep .rects 0 0 L),(34049,.cells [.osl 40042145 0,.osl 40042146 0,.osl 40042147 0,.osl 40042148 0,.osl 40042149 0]),(40042004,.cells [.ptr 34049 0]),(40042007,.cells [.i qbg]),(40042008,.cells [.osl 40042150 0])]⟩)
def aZz:=(cL (cB (cS (cF (cS (cS (cS (bo f11))))))))
def aZy:=(cL (cB (cS (cF (cS (cS (bo f37)))))))
def aZx:=(cL (cB (cS (cF (cS4 (cS (bo f37)))))))
def zI:=(cL (cB (cS (cF (cS4 (cS (cS (bo f37))))))))
def aZw:=(cL (cB (cF (cS (cS (cS (cB (cF (cS (cS zI))))))))))
def C0:=(cL (cB (cS (cF (cS (cS (bo f38)))))))
def aZv:=(cL (cB (cS4 (cB (cF (cS (cS zI)))))))
def Hq:=(cL (cB (cS (cS (cB (cF (cS (cS C0))))))))
def aZu:=(cL (cB (cS (cS (cS (bo f81))))))
def G3 (F:Nat) (K:zK) (n r:Nat):aIw:=Nn fun s=>iter (aYD F 0 aZz) (dI 0 0) n r s K
def G2 (F:Nat) (K:zK) (n r:Nat):aIv:=bt fun s=>iter (cX (aU dI F 2 ((dH dM).bZ.at 34000)) ((dH dM).bZ.at 34000) f37.ntmps dI F 0 aZy) (dI 34000 0) n r s K
def G1 (F:Nat) (K:zK) (n r:Nat):K3:=br fun s=>iter (cX (aU dI F 2 ((dH dM).bZ.at 34000)) ((dH dM).bZ.at 34000) f37.ntmps dI F 2 aZx) (dI 34000 2) n r s K
def Cg (F:Nat) (K:zK) (n r:Nat):K3:=Gk fun s=>iter (cX (aU dI F 2 ((dH dM).bZ.at 34000)) ((dH dM).bZ.at 34000) f37.ntmps dI F 4 zI) (dI 34000 4) n r s K
def G0 (F:Nat) (K:zK) (n r:Nat):K2:=bq fun s=>iter (cX (aU dI F 2 ((dH dM).bZ.at 34000)) ((dH dM).bZ.at 34000) f37.ntmps dI F 6 aZw) (dI 34000 6) n r s K
def Qn (F:Nat) (K:zK) (n r:Nat):aIu:=Xn fun s=>iter (cX (aU dI F 2 ((dH dM).bZ.at 40000)) ((dH dM).bZ.at 40000) f38.ntmps dI F 0 C0) (dI 40000 0) n r s K
def F9 (F:Nat) (K:zK) (n r:Nat):K2:=bp fun s=>iter (cX (aU dI F 2 ((dH dM).bZ.at 34000)) ((dH dM).bZ.at 34000) f37.ntmps dI F 8 aZv) (dI 34000 8) n r s K
def Qm (F:Nat) (K:zK) (n r:Nat):aIt:=Xm fun s=>iter (cX (aU dI F 2 ((dH dM).bZ.at 40000)) ((dH dM).bZ.at 40000) f38.ntmps dI F 2 Hq) (dI 40000 2) n r s K
def F8 (F:Nat) (K:zK) (n r:Nat):aIs:=bn fun s=>iter (cX (aU dI F 1 (((dH dM).bZ.at 40000).at 40042000)) (((dH dM).bZ.at 40000).at 40042000) f81.ntmps dI F 0 aZu) (dI 40042000 0) n r s K
def aEG (F:Nat) (Post:aC UU->Prop):zK:=bW 0 (Ll F 0 (cS4 (bo f11)) (bN (dH dM).bZ true f11 Post))
def aEF (F:Nat) (Post:aC UU->Prop):zK:=bW 0 (cA (aU dI F 2 ((dH dM).bZ.at 34000)) ((dH dM).bZ.at 34000) f37.ntmps dI F 0 (cS (cS (cS (bo f37)))) (Gl (aU dI F 3 (dH dM).bZ) (dH dM).bZ f11.ntmps (cR (cF (cS4 (bo f11)))) 8 3 f37 (some 33) (fun f=>(Ll F 0 (cS4 (cS (bo f11))) (bN (dH dM).bZ true f11 Post)) .normal f)))
def aEE (F:Nat) (Post:aC UU->Prop):zK:=bW 2 (cA (aU dI F 2 ((dH dM).bZ.at 34000)) ((dH dM).bZ.at 34000) f37.ntmps dI F 0 (cS4 (cS (cS (bo f37)))) (Gl (aU dI F 3 (dH dM).bZ) (dH dM).bZ f11.ntmps (cR (cF (cS4 (bo f11)))) 8 3 f37 (some 33) (fun f=>(Ll F 0 (cS4 (cS (bo f11))) (bN (dH dM).bZ true f11 Post)) .normal f)))
def aED (F:Nat) (Post:aC UU->Prop):zK:=bW 4 (cA (aU dI F 2 ((dH dM).bZ.at 34000)) ((dH dM).bZ.at 34000) f37.ntmps dI F 0 (cS4 (cS (cS (cS (bo f37))))) (Gl (aU dI F 3 (dH dM).bZ) (dH dM).bZ f11.ntmps (cR (cF (cS4 (bo f11)))) 8 3 f37 (some 33) (fun f=>(Ll F 0 (cS4 (cS (bo f11))) (bN (dH dM).bZ true f11 Post)) .normal f)))
def aEC (F n r:Nat) (K:zK):zK:=bW 6 (cA (aU dI F 2 ((dH dM).bZ.at 34000)) ((dH dM).bZ.at 34000) f37.ntmps dI F 5 (cS4 (cB (cF (cS (cS zI))))) (bW 5 (cA (aU dI F 2 ((dH dM).bZ.at 34000)) ((dH dM).bZ.at 34000) f37.ntmps dI F 4 (cS (cS (cS zI))) (lT (cX (aU dI F 2 ((dH dM).bZ.at 34000)) ((dH dM).bZ.at 34000) f37.ntmps dI F 4 zI) (dI 34000 4) n r K))))
def aEB (F:Nat) (Post:aC UU->Prop):zK:=bW 0 (cA (aU dI F 2 ((dH dM).bZ.at 40000)) ((dH dM).bZ.at 40000) f38.ntmps dI F 0 (cS (cS (cS (bo f38)))) (Gl (aU dI F 3 (dH dM).bZ) (dH dM).bZ f11.ntmps (cR (cF (cS4 (cS (cS (bo f11)))))) 4 2 f38 (some 39) (fun f=>(Ll F 0 (cS4 (cS (cS (cS (bo f11))))) (bN (dH dM).bZ true f11 Post)) .normal f)))
def aEA (F n r:Nat) (K:zK):zK:=bW 8 (bW 5 (cA (aU dI F 2 ((dH dM).bZ.at 34000)) ((dH dM).bZ.at 34000) f37.ntmps dI F 4 (cS (cS (cS zI))) (lT (cX (aU dI F 2 ((dH dM).bZ.at 34000)) ((dH dM).bZ.at 34000) f37.ntmps dI F 4 zI) (dI 34000 4) n r K)))
def aDz (F n r:Nat) (K:zK):zK:=bW 2 (bW 1 (cA (aU dI F 2 ((dH dM).bZ.at 40000)) ((dH dM).bZ.at 40000) f38.ntmps dI F 0 (cS (cS (cS C0))) (lT (cX (aU dI F 2 ((dH dM).bZ.at 40000)) ((dH dM).bZ.at 40000) f38.ntmps dI F 0 C0) (dI 40000 0) n r K)))
def aDy (F n r:Nat) (K:zK):zK:=bW 0 (Gl (aU dI F 2 ((dH dM).bZ.at 40000)) ((dH dM).bZ.at 40000) f38.ntmps (cR (cF (cT (cS (cF (cS (cB (cF (cS (cS Hq)))))))))) 6 6 f81 (some 41) (fun f=>(cA (aU dI F 2 ((dH dM).bZ.at 40000)) ((dH dM).bZ.at 40000) f38.ntmps dI F 3 (cS (cT (cS (cF (cS (cB (cF (cS (cS Hq))))))))) (cA (aU dI F 2 ((dH dM).bZ.at 40000)) ((dH dM).bZ.at 40000) f38.ntmps dI F 3 (cS (cS (cB (cF (cS (cS Hq)))))) (bW 3 (cA (aU dI F 2 ((dH dM).bZ.at 40000)) ((dH dM).bZ.at 40000) f38.ntmps dI F 2 (cS (cS (cS Hq))) (lT (cX (aU dI F 2 ((dH dM).bZ.at 40000)) ((dH dM).bZ.at 40000) f38.ntmps dI F 2 Hq) (dI 40000 2) n r K))))) .normal f))
theorem aCO (F:Nat) (K:zK):∀n r,F9 F K n r=Jz F (bp (K (.exit 8))) n
 |0,_=>KA
 |n+1,r=>QG (b:=Yq (F9 F K n (r+1)) (bp (K (.exit 8)))) KA (by rewrite[aCO F K n (r+1)];kernel_rfl)
theorem aS5 (F n r:Nat) (K:zK):F9 F (aEA F n r K) F 0=V9 F (Cg F K n (r+1)) (Gk (K (.exit 4))):=
 (aCO F _ F 0).trans KA
theorem aCQ (F:Nat) (K:zK):∀n r,G0 F K n r=En F (bq (K (.exit 6))) n
 |0,_=>KA
 |n+1,r=>QG (b:=Ys (G0 F K n (r+1)) (bq (K (.exit 6)))) KA (by rewrite[aCQ F K n (r+1)];kernel_rfl)
theorem aS7 (F n r:Nat) (K:zK):G0 F (aEC F n r K) F 0=yy F (Cg F K n (r+1)) (Gk (K (.exit 4))):=
 (aCQ F _ F 0).trans (QG (b:=En F (fun I G u j f qbc qbd qbe Z V S O L J=>gh (Cg F K n (r+1)) (Gk (K (.exit 4))) I G u j f qbc qbd qbe Z V S O L J (F9 F (aEA F n r K) F 0)) F) KA (by rewrite[aS5 F n r K];kernel_rfl))
theorem aCM (F:Nat) (K:zK):∀n r,F8 F K n r=Jy F (bn (K (.exit 0))) n
 |0,_=>KA
 |n+1,r=>QG (b:=Yo (F8 F K n (r+1)) (bn (K (.exit 0)))) KA (by rewrite[aCM F K n (r+1)];kernel_rfl)
theorem aS3 (F n r:Nat) (K:zK):F8 F (aDy F n r K) F 0=yw F (Qm F K n (r+1)) (Xm (K (.exit 2))):=
 (aCM F _ F 0).trans KA
theorem aCN (F:Nat) (K:zK):∀n r,Qm F K n r=p8 F (Xm (K (.exit 2))) n
 |0,_=>KA
 |n+1,r=>QG (b:=(fun Z G u j f V S O L J I=>Yp (Qm F K n (r+1)) (Xm (K (.exit 2))) Z G u j f V S O L J I (F8 F (aDy F n r K) F 0))) KA (by rewrite[aS3 F n r K,aCN F K n (r+1)];kernel_rfl)
theorem aS4 (F n r:Nat) (K:zK):Qm F (aDz F n r K) F 0=yx F (Qn F K n (r+1)) (Xn (K (.exit 0))):=
 (aCN F _ F 0).trans KA
theorem aCP (F:Nat) (K:zK):∀n r,Qn F K n r=xE F (Xn (K (.exit 0))) n
 |0,_=>KA
 |n+1,r=>QG (b:=(fun j f O L J I G u=>Yr (Qn F K n (r+1)) (Xn (K (.exit 0))) j f O L J I G u (Qm F (aDz F n r K) F 0))) KA (by rewrite[aS4 F n r K,aCP F K n (r+1)];kernel_rfl)
theorem aS6 (F:Nat) (Post:aC UU->Prop):Qn F (aEB F Post) F 0=W0 F (fun j f=>Post (.tup [.newd .rects j,.i f])):=
 (aCP F _ F 0).trans KA
theorem aCR (F:Nat) (K:zK):∀n r,Cg F K n r=rU F (Gk (K (.exit 4))) n
 |0,_=>KA
 |n+1,r=>QG (b:=(fun u j f O L J I G=>Yt (Cg F K n (r+1)) (Gk (K (.exit 4))) u j f O L J I G (G0 F (aEC F n r K) F 0))) KA (by rewrite[aS7 F n r K,aCR F K n (r+1)];kernel_rfl)
theorem aS8 (F:Nat) (Post:aC UU->Prop):Cg F (aED F Post) F 0=W4 F (fun I G=>Post (.tup [.newd .rects I,.i G])):=
 (aCR F _ F 0).trans (QG (b:=rU F (fun u j f V S O L J=>gl (fun I G=>Post (.tup [.newd .rects I,.i G])) u j f V S O L J (Qn F (aEB F Post) F 0)) F) KA (by rewrite[aS6 F Post];kernel_rfl))
theorem aCS (F:Nat) (K:zK):∀n r,G1 F K n r=Eo F (br (K (.exit 2))) n
 |0,_=>KA
 |n+1,r=>QG (b:=Yu (G1 F K n (r+1)) (br (K (.exit 2)))) KA (by rewrite[aCS F K n (r+1)];kernel_rfl)
theorem aS9 (F:Nat) (Post:aC UU->Prop):G1 F (aEE F Post) F 0=Wg F (fun j f=>Post (.tup [.newd .rects j,.i f])):=
 (aCS F _ F 0).trans (QG (b:=Eo F (fun V G u S O L J I=>gn (fun j f=>Post (.tup [.newd .rects j,.i f])) V G u S O L J I (Cg F (aED F Post) F 0)) F) KA (by rewrite[aS8 F Post];kernel_rfl))
theorem aCT (F:Nat) (K:zK):∀n r,G2 F K n r=Ep F (bt (K (.exit 0))) n
 |0,_=>KA
 |n+1,r=>QG (b:=Yv (G2 F K n (r+1)) (bt (K (.exit 0)))) KA (by rewrite[aCT F K n (r+1)];kernel_rfl)
theorem aSa (F:Nat) (Post:aC UU->Prop):G2 F (aEF F Post) F 0=yz F (fun j f=>Post (.tup [.newd .rects j,.i f])):=
 (aCT F _ F 0).trans (QG (b:=Ep F (fun O I G u L J=>Ox (fun j f=>Post (.tup [.newd .rects j,.i f])) O I G u L J (G1 F (aEE F Post) F 0)) F) KA (by rewrite[aS9 F Post];kernel_rfl))
theorem aCU (F:Nat) (K:zK):∀n r,G3 F K n r=Ka F (Nn (K .ret)) (Nn (K (.exit 0))) n
 |0,_=>KA
 |n+1,r=>QG (b:=aFr (G3 F K n (r+1)) (Nn (K .ret)) (Nn (K (.exit 0)))) KA (by rewrite[aCU F K n (r+1)];kernel_rfl)
theorem aSb (F:Nat) (Post:aC UU->Prop):G3 F (aEG F Post) F 0=za F (fun j f=>Post (.tup [.newd .rects j,.i f])):=
 (aCU F _ F 0).trans (QG (b:=Ka F (aFw (fun j f=>Post (.tup [.newd .rects j,.i f]))) (fun L J I G u bE bD bG bF V Z O S=>aFv (fun j f=>Post (.tup [.newd .rects j,.i f])) L J I G u bE bD bG bF V Z O S (G2 F (aEF F Post) F 0)) F) KA (by rewrite[aSa F Post];kernel_rfl))
def aAU:Model UU
 |[.agg [.str O,.str L,.int .i64 J,.int .i64 I,.int .i64 G,.int .i64 u,.sl .rect j,.sl .rect f],.sl .seg S]=>some ([Ut O L J I G u j f S],.tup [.newd .rects ((kG O L J I G u j f S).1),.i ((kG O L J I G u j f S).2)])
 |_=>none
def aJ9:Cfg UU:=dM.add 11 aAU
theorem aMx:aE aJ9:=(bB5 rfl aNO) mixed (c:=bo f11) func11 KA KA fun xs cs r h hc=>by
 unfold aAU at h;split at h
 ·rename_i V S O L J I G u Z;cases h;obtain⟨F,hF⟩:=aRW V S O L J I G u Z hc;exact⟨KA,dI,F,true,fS fun Post hP=>fT (QG (b:=gg V S O L J I G u Z (fun j f=>Post (.tup [.newd .rects j,.i f])) (G3 F (aEG F Post) F 0)) KA (by rewrite[aSb F Post];kernel_rfl)) (hF (fun j f=>Post (.tup [.newd .rects j,.i f])) hP)⟩
 ·cases h
def aBH:Model UU
 |[.agg [.int .i64 L,.int .i64 O,.int .i64 I,.int .i64 J],.agg [.int .i64 u,.int .i64 G,.int .i64 j,.int .i64 f]]=>some ([],.bool (Kv L O I J u G j f))
 |_=>none
def aKL:Cfg UU:=aJ9.add 129 aBH
theorem aNs:aE aKL:=tin aMx mixed func129 KA KA false fun xs f r h=>by
 unfold aBH at h;split at h
 ·cases h;exact⟨KA,KA⟩
 ·cases h
def aBJ:Model UU
 |[.agg [.int .i64 L,.int .i64 O,.int .i64 I,.int .i64 J],.agg [.int .i64 u,.int .i64 G,.int .i64 j,.int .i64 f]]=>some ([],.i (Fg L O I J u G j f))
 |_=>none
def aKN:Cfg UU:=aKL.add 199 aBJ
theorem aNu:aE aKN:=dN aNs mixed func199 KA KA fun xs Z r h V=>by
 unfold aBJ at h;split at h
 ·rename_i u G L O f j J I;cases h;refine⟨KA,M0,0,false,⟨of_eq (q:=(fun Q:Int->Prop=>cond ((!(lF u G L O))||(!(lF f j J I))) (Q 0) (Q (ma (ma (ma (ma 0 (aB ((aB (f-u))-L))) (aB ((aB (u-f))-J))) (aB ((aB (j-G))-O))) (aB ((aB (G-j))-I))))) fun S=>(.i S:aC UU)=.i (Fg u G L O f j J I)) KA ?_⟩⟩;unfold Fg;cases (((!(lF u G L O))||(!(lF f j J I))))<;>rfl
 ·cases h
def aAp:Model UU
 |[.agg [.int .i64 L,.int .i64 O,.int .i64 I,.int .i64 J],.agg [.int .i64 u,.int .i64 G,.int .i64 j,.int .i64 f]]=>some ([],.bool (M7 L O I J u G j f))
 |_=>none
def aJu:Cfg UU:=aKN.add 197 aAp
theorem aN6:aE aJu:=tin aNu mixed func197 KA KA false fun xs f r h=>by
 unfold aAp at h;split at h
 ·cases h;exact⟨KA,KA⟩
 ·cases h
def aAd:Model UU
 |[.agg [.int .i64 L,.int .i64 O,.int .i64 I,.int .i64 J],.agg [.int .i64 u,.int .i64 G,.int .i64 j,.int .i64 f]]=>some ([],.i (Ku L O I J u G j f))
 |_=>none
def aJk:Cfg UU:=aJu.add 131 aAd
theorem aNT:aE aJk:=tin aN6 mixed func131 KA KA false fun xs f r h=>by
 unfold aAd at h;split at h
 ·cases h;exact⟨KA,KA⟩
 ·cases h
def aAt:Model UU
 |[.agg [.int .i64 O,.int .i64 L,.int .i64 J,.int .i64 I],.ref [.int .i64 G,.int .i64 u,.int .i64 j,.int .i64 f] 0]=>some ([],.bool (M8 O L J I G u j f))
 |_=>none
def Dy:Cfg UU:=aJk.add 128 aAt
theorem aNb:aE Dy:=tin aNT mixed func128 KA KA false fun xs f r h=>by
 unfold aAt at h;split at h
 ·cases h;exact⟨KA,KA⟩
 ·cases h
def aYM (F:Nat):=cX (aU Ja F 0 Dy) Dy f104.ntmps Ja F
def aPb (F:Nat):=cA (aU Ja F 0 Dy) Dy f104.ntmps Ja F
def Nu (k:ASt UU->Prop):Dd:=(fun G O I J L u j f=>k ⟨tmL [(0,.sl .rect G),(1,.fn 128 [.ref [.i O,.i I,.i J,.i L] 0]),(4,.i u),(7,.i j),(8,.i f)],obL []⟩)
def bAS:=(cL (cB (cS (cF (cS (bo f104))))))
def I3 (F:Nat) (K:zK) (n r:Nat):Dd:=Nu fun s=>iter (aYM F 0 bAS) (Ja 0 0) n r s K
def aE2 (F:Nat) (Post:aC UU->Prop):zK:=bW 0 (aPb F 0 (cS (cS (bo f104))) (bN Dy false f104 Post))
theorem aCi (F:Nat) (K:zK):∀n r,I3 F K n r=Sv F (Nu (K .ret)) (Nu (K (.exit 0))) n
 |0,_=>KA
 |n+1,r=>QG (b:=aG8 (I3 F K n (r+1)) (Nu (K .ret)) (Nu (K (.exit 0)))) KA (by rewrite[aCi F K n (r+1)];kernel_rfl)
theorem aTA (F:Nat) (Post:aC UU->Prop):I3 F (aE2 F Post) F 0=Wr F (fun f=>Post (.i f)):=
 (aCi F _ F 0).trans KA
def aAy:Model UU
 |[.sl .rect l,.fn 128 [.ref [.int .i64 G,.int .i64 u,.int .i64 j,.int .i64 f] 0]]=>some ([Vc l G u j f],.i (Tu l G u j f))
 |_=>none
def aKD:Cfg UU:=Dy.add 104 aAy
theorem aNh:aE aKD:=dN aNb mixed func104 KA KA fun xs O r h J=>by
 unfold aAy at h;split at h
 ·rename_i l G u j f;cases h;obtain⟨F,hF⟩:=aRa l G u j f J;exact⟨KA,Ja,F,false,fS fun Post L=>fT (QG (b:=aG9 l G u j f (fun I=>Post (.i I)) (I3 F (aE2 F Post) F 0)) KA (by rewrite[aTA F Post];kernel_rfl)) (hF (fun I=>Post (.i I)) L)⟩
 ·cases h
def aB3:Model UU
 |[.sl .rect l,.fn 128 [.ref [.int .i64 G,.int .i64 u,.int .i64 j,.int .i64 f] 0]]=>some ([Mc l G u j f],.bool (Fl l G u j f))
 |_=>none
def aKZ:Cfg UU:=aKD.add 58 aB3
theorem aOR:aE aKZ:=dN aNh mixed func58 KA KA fun xs O r h J=>by
 unfold aB3 at h;split at h
 ·rename_i l G u j f;cases h;refine⟨KA,M0,0,false,⟨iY (fun Q:Bool->Prop=>((Vc l G u j f)/\Q (decide (0<=(Tu l G u j f))))) (fun Q=>Q (Fl l G u j f)) (fun I=>(.bool I:aC UU)=.bool (Fl l G u j f)) KA (fun Q h=>?_) rfl⟩⟩
  try dsimp only at h ⊢
  unfold Fl at h;have hp:Mc l G u j f:=J;unfold Mc at hp;have L:=hp;refine⟨L,?_⟩;exact h
 ·cases h
def aBR:Model UU
 |[.agg [.int .i64 u,.int .i64 G,.int .i64 f,.int .i64 j],.sl .rect I]=>some ([Fy u G f j I],.bool (tS u G f j I))
 |_=>none
def Ee:Cfg UU:=aKZ.add 83 aBR
theorem aOE:aE Ee:=dN aOR mixed func83 KA KA fun xs S r h L=>by
 unfold aBR at h;split at h
 ·rename_i u G f j I;cases h;refine⟨KA,M0,0,false,⟨iY (fun Q:Bool->Prop=>((Mc I u G f j)/\Q (Fl I u G f j))) (fun Q=>Q (tS u G f j I)) (fun J=>(.bool J:aC UU)=.bool (tS u G f j I)) KA (fun Q h=>?_) rfl⟩⟩
  try dsimp only at h ⊢
  unfold tS at h;have hp:Fy u G f j I:=L;unfold Fy at hp;have O:=hp;refine⟨O,?_⟩;exact h
 ·cases h
def aYG (F:Nat):=cX (aU Iu F 0 Ee) Ee f127.ntmps Iu F
def aP5 (F:Nat):=cA (aU Iu F 0 Ee) Ee f127.ntmps Iu F
def ck (k:ASt UU->Prop):Cz:=(fun G u j f I=>k ⟨tmL [(1,.i G),(2,.i u),(7,.osl 67 0),(13,.i j),(14,.i f)],obL [(67,.row .rect 0 I)]⟩)
def bAH:=(cL (cB (cS (cF (cS (cS (bo f127)))))))
def H0 (F:Nat) (K:zK) (n r:Nat):Cz:=ck fun s=>iter (aYG F 0 bAH) (Iu 0 0) n r s K
def aEP (F:Nat) (Post:aC UU->Prop):zK:=bW 0 (aP5 F 0 (cS (cS (cS (bo f127)))) (bN Ee true f127 Post))
theorem aC4 (F:Nat) (K:zK):∀n r,H0 F K n r=Sh F (ck (K (.exit 0))) n
 |0,_=>KA
 |n+1,r=>QG (b:=aGK (H0 F K n (r+1)) (ck (K (.exit 0)))) KA (by rewrite[aC4 F K n (r+1)];kernel_rfl)
theorem aSl (F:Nat) (Post:aC UU->Prop):H0 F (aEP F Post) F 0=Wk F (fun f=>Post (.new .rect f)):=
 (aC4 F _ F 0).trans KA
def aA0:Model UU
 |[.sl .rect a0,.int .i64 j,.int .i64 f]=>some ([Lv a0 j f],.new .rect (xR a0 j f))
 |_=>none
def Dr:Cfg UU:=Ee.add 127 aA0
theorem aND:aE Dr:=dN aOE mixed func127 KA KA fun xs J r h G=>by
 unfold aA0 at h;split at h
 ·rename_i a0 u j;cases h;obtain⟨F,hF⟩:=aR2 a0 u j G;exact⟨KA,Iu,F,true,fS fun Post I=>fT (QG (b:=aGL a0 u j (fun f=>Post (.new .rect f)) (H0 F (aEP F Post) F 0)) KA (by rewrite[aSl F Post];kernel_rfl)) (hF (fun f=>Post (.new .rect f)) I)⟩
 ·cases h
def aXx (F:Nat):=cX (aU Il F 0 Dr) Dr f198.ntmps Il F
def aPX (F:Nat):=cA (aU Il F 0 Dr) Dr f198.ntmps Il F
def Nb (k:ASt UU->Prop):Cv:=(fun G u j f L O I J=>k ⟨tmL [(2,.ptr 2 0),(4,.bool G),(7,.sl .rect u),(8,.i j),(9,.i f)],obL [(2,.cells [.i L,.i O,.i I,.i J])]⟩)
def aZd:=(cL (cB (cS (cF (cS (bo f198))))))
def E1 (F:Nat) (K:zK) (n r:Nat):Cv:=Nb fun s=>iter (aXx F 0 aZd) (Il 0 0) n r s K
def aDd (F:Nat) (Post:aC UU->Prop):zK:=bW 0 (aPX F 0 (cS (cS (bo f198))) (bN Dr false f198 Post))
theorem aBr (F:Nat) (K:zK):∀n r,E1 F K n r=Rv F (Nb (K .ret)) (Nb (K (.exit 0))) n
 |0,_=>KA
 |n+1,r=>QG (b:=aFQ (E1 F K n (r+1)) (Nb (K .ret)) (Nb (K (.exit 0)))) KA (by rewrite[aBr F K n (r+1)];kernel_rfl)
theorem aSI (F:Nat) (Post:aC UU->Prop):E1 F (aDd F Post) F 0=Vz F (fun f=>Post (.bool f)):=
 (aBr F _ F 0).trans KA
def aAJ:Model UU
 |[.agg [.int .i64 u,.int .i64 G,.int .i64 f,.int .i64 j],.sl .rect I]=>some ([R2 u G f j I],.bool (w9 u G f j I))
 |_=>none
def k9:Cfg UU:=Dr.add 198 aAJ
theorem aMm:aE k9:=dN aND mixed func198 KA KA fun xs S r h L=>by
 unfold aAJ at h;split at h
 ·rename_i G I j u J;cases h;obtain⟨F,hF⟩:=aRL G I j u J L;exact⟨KA,Il,F,false,fS fun Post O=>fT (QG (b:=aFR G I j u J (fun f=>Post (.bool f)) (E1 F (aDd F Post) F 0)) KA (by rewrite[aSI F Post];kernel_rfl)) (hF (fun f=>Post (.bool f)) O)⟩
 ·cases h
def Zu (F:Nat):=cX (aU wU F 0 k9) k9 f170.ntmps wU F
def Q1 (F:Nat):=cA (aU wU F 0 k9) k9 f170.ntmps wU F
def Mv (k:ASt UU->Prop):Cs:=(fun u j f I J L O Z S V G=>k ⟨tmL [(1,.ptr 1 0),(2,.i u),(3,.osl 12 1),(16,.osl 12 1),(17,.i j),(18,.i f)],obL [(1,.cells [.str I,.str J,.i L,.i O,.sl .rect Z,.sl .rect S,.sl .rect V]),(12,.row .rect 1 G)]⟩)
def Bb (k:ASt UU->Prop):zQ:=(fun u j f G=>k ⟨tmL [(2,.i u),(3,.osl 12 1),(46,.osl 12 1),(47,.i j),(48,.i f)],obL [(12,.row .rect 1 G)]⟩)
def Mu (k:ASt UU->Prop):Cr:=(fun J I G u j f Z V S O L=>k ⟨tmL [(2,.i J),(3,.osl 12 1),(7,.ptr 7 0),(46,.osl 12 1),(47,.i I),(48,.i G),(55,.ovw 12 1 0 u 4),(56,.i j),(57,.i f)],obL [(7,.cells [.i Z,.i V,.i S,.i O]),(12,.row .rect 1 L)]⟩)
def aZ7:=(cL (cB (cS (cF (cS (cS (bo f170)))))))
def B4:=(cL (cB (cS (cF (cS (cS (cS (bo f170))))))))
def aZ6:=(cL (cB (cS (cS (cB (cF (cS (cS B4))))))))
def D5 (F:Nat) (K:zK) (n r:Nat):Cs:=Mv fun s=>iter (Zu F 0 aZ7) (wU 0 0) n r s K
def Qf (F:Nat) (K:zK) (n r:Nat):zQ:=Bb fun s=>iter (Zu F 2 B4) (wU 0 2) n r s K
def D4 (F:Nat) (K:zK) (n r:Nat):Cr:=Mu fun s=>iter (Zu F 4 aZ6) (wU 0 4) n r s K
def aD4 (F:Nat) (Post:aC UU->Prop):zK:=bW 0 (Q1 F 0 (cS (cS (cS (bo f170)))) (bN k9 false f170 Post))
def aD3 (F:Nat) (Post:aC UU->Prop):zK:=bW 2 (Q1 F 0 (cS4 (bo f170)) (bN k9 false f170 Post))
def aD2 (F n r:Nat) (K:zK):zK:=bW 4 (bW 3 (Q1 F 2 (cS (cS (cS B4))) (lT (Zu F 2 B4) (wU 0 2) n r K)))
theorem aBg (F:Nat) (K:zK):∀n r,D4 F K n r=Rq F (Mu (K .ret)) (Mu (K (.exit 4))) n
 |0,_=>KA
 |n+1,r=>QG (b:=aFC (D4 F K n (r+1)) (Mu (K .ret)) (Mu (K (.exit 4)))) KA (by rewrite[aBg F K n (r+1)];kernel_rfl)
theorem aRx (F n r:Nat) (K:zK):D4 F (aD2 F n r K) F 0=U5 F (Qf F K n (r+1)) (Bb (K (.exit 2))) (Bb (K .ret)):=
 (aBg F _ F 0).trans KA
theorem aBh (F:Nat) (K:zK):∀n r,Qf F K n r=o5 F (Bb (K (.exit 2))) (Bb (K .ret)) n
 |0,_=>KA
 |n+1,r=>QG (b:=aFD (Qf F K n (r+1)) (Bb (K (.exit 2))) (Bb (K .ret)) (D4 F (aD2 F n r K) F 0)) KA (by rewrite[aRx F n r K,aBh F K n (r+1)];kernel_rfl)
theorem aRy (F:Nat) (Post:aC UU->Prop):Qf F (aD3 F Post) F 0=Mk F (fun f=>Post (.i f)):=
 (aBh F _ F 0).trans KA
theorem aBi (F:Nat) (K:zK):∀n r,D5 F K n r=Jo F (Mv (K .ret)) (Mv (K (.exit 0))) n
 |0,_=>KA
 |n+1,r=>QG (b:=aFE (D5 F K n (r+1)) (Mv (K .ret)) (Mv (K (.exit 0)))) KA (by rewrite[aBi F K n (r+1)];kernel_rfl)
theorem aRz (F:Nat) (Post:aC UU->Prop):D5 F (aD4 F Post) F 0=Vx F (fun f=>Post (.i f)):=
 (aBi F _ F 0).trans (QG (b:=Jo F (fq (fun f=>Post (.i f))) (fp (fun f=>Post (.i f)) (Qf F (aD3 F Post) F 0)) F) KA (by rewrite[aRy F Post];kernel_rfl))
def aAF:Model UU
 |[.agg [.str J,.str I,.int .i64 G,.int .i64 u,.sl .rect L,.sl .rect j,.sl .rect f]]=>some ([R0 J I G u L j f],.i (Tk J I G u L j f))
 |_=>none
def iF:Cfg UU:=k9.add 170 aAF
theorem uo:aE iF:=dN aMm mixed func170 KA KA fun xs Z r h S=>by
 unfold aAF at h;split at h
 ·rename_i L J I G O u j;cases h;obtain⟨F,hF⟩:=aRH L J I G O u j S;exact⟨KA,wU,F,false,fS fun Post V=>fT (QG (b:=aFF L J I G O u j (fun f=>Post (.i f)) (D5 F (aD4 F Post) F 0)) KA (by rewrite[aRz F Post];kernel_rfl)) (hF (fun f=>Post (.i f)) V)⟩
 ·cases h
end
end Go.Proofs.YtgcpildegdgekaaGreatDoor
namespace Go.Vm
open Go.RowKit
section
variable {U:eO} {E:Enc U} {n:Nat} {N N':Nat->Prop} {w0 F':Fr} {w w':World} {ρ ρ':Own} {s s':ASt U} {a a':Act} {C:Cfg U}
theorem RR.anchor (h:RR E n N w0 ρ s a w) (e0:F'.w0=w0.w0) (e1:∀id p,F'.pin id=some p->(∃ob,s.objs id=some ob)/\ρ (.ob id)=some p) (e2:F'.hv=w0.hv) (e3:a'.defers=F'.ds) (ea:a'.tmps=a.tmps) (e4:F'.we=w')
  (hN:∀b,N' b->b<w0.w0.heap.size\/F'.K b) (L:∀b,aD N ρ w b->¬N' b) (G:∀nm g u b,ρ nm=some (g,u)->blk u=some b->¬F'.K b) (S:∀nm g u b,ρ nm=some (g,u)->blk u=some b->¬N' b)
  (j:∀b,b<w.heap.size->¬N' b->w'.heap[b]?=w.heap[b]?) (hb:Below w0.w0.heap.size w0.w0 w') (Z:w.heap.size<=w'.heap.size):RR E n N' F' ρ s a' w':=by
 have f:∀b,aD N ρ w b->aD N' ρ w' b/\w'.heap[b]?=w.heap[b]?:=fun b J=>⟨⟨JX J.1 Z,L b J,J.2.2⟩,j b J.1 (L b J)⟩
 have V:∀t,a'.kE F' t=a.kE w0 t:=fun t=>by
  grind [Act.kE]
 have hh:F'.heap=w0.w0.heap:=by
  unfold Fr.heap;rw[e0]
 refine⟨e3,by rw[ea];exact h.size,fun t=>by rw[V];exact(h.tmps t).mono f (fun _ _ _ I=>.inl I),fun id ob ho=>?_,h.dom,h.sep,by grind,fun b hb'=>by grind,⟨by grind,fun b hk=>by rw[e4]⟩,G,e1,h.nle⟩;have:=(h.objs id ob ho).mono f (fun _ _ _ I=>.inl I) (fun _ _=>rfl) (fun nm g u b _ I O=>j b ((h.own I).2 b O).2 (S nm g u b I O));rw[hh];exact this
theorem RR.forget (h:RR E n N w0 ρ s a w) (ho:s'.objs=s.objs) (I:a'.defers=a.defers) (f:a'.tmps.size=a.tmps.size) (j:∀t,Rel E w ρ (aD N ρ w) (s'.tmps t) (a'.kE w0 t)):RR E n N w0 ρ s' a' w:=
 ⟨I.trans h.defers,f.trans h.size,j,fun id ob O=>h.objs id ob (by grind),fun nm g u G=>by obtain⟨ob,L,J⟩:=h.dom nm g u G;exact⟨ob,by grind,J⟩,h.sep,h.below,h.nlt,h.kept,h.free,fun id p hp=>by rw[ho];exact h.pin id p hp,h.nle⟩
theorem RR.less (h:RR E n N w0 ρ s a w) (ho:s'.objs=s.objs) (f:∀t,s'.tmps t=.any\/s'.tmps t=s.tmps t):RR E n N w0 ρ s' a w:=
 h.forget ho rfl rfl fun t=>by
  rcases f t with e|e
  ·rw[e];exact .any _
  ·rw[e];exact h.tmps t
theorem RR.sC (h:RR E n N w0 ρ s a w) {d:Nat} (j:d<n) (f:s.tmps d=.any) (u:Value):RR E n N w0 ρ s (a.put (some d) u) w:=by
 refine h.forget rfl rfl (by simp[Act.put]) fun t=>?_
 by_cases e:t=d
 ·subst e;rw[f];exact .any _
 ·have hv:(a.put (some d) u).kE w0 t=a.kE w0 t:=by
   grind [Act.kE,Act.put,Ow]
  rw[hv];exact h.tmps t
theorem RR.Ln (h:RR E n N w0 ρ s a w) {d:Nat} (j:d<n) {u:Value} {x:aC U} (G:Rel E w ρ (aD N ρ w) x u) (ho:s'.objs=s.objs) (f:s'.tmps d=x) (he:∀t,t≠d->s'.tmps t=s.tmps t):RR E n N w0 ρ s' (a.put (some d) u) w:=by
 refine h.forget ho rfl (by simp[Act.put]) fun t=>?_
 by_cases e:t=d
 ·subst e;rw[f];have hv:(a.put (some t) u).kE w0 t=u:=by
   rw[u4 (JX j h.nle)];simp only[Act.put];rw[Ow a.tmps t u (by rw[h.size];exact j) t,JQ rfl]
  grind
 ·have hv:(a.put (some d) u).kE w0 t=a.kE w0 t:=by
   grind [Act.kE,Act.put,Ow]
  rw[hv,he t e];exact h.tmps t
def FrA (w0 W:World) (Kp:Nat->Prop) (f:∀b,Kp b->b<W.heap.size) (j:w0.heap.size<=W.heap.size) (u:Nat->Option (Nat×Value)) (hp:∀id p,u id=some p->∃a,p.2=.pointer a) (ds:List Deferred):Fr:=
 {w0:=w0,we:=W,K:=Kp,lt:=f,le:=j,pin:=u,pinp:=hp,ds:=ds}
variable {P:Program} {Q:Exit->Act->World->Prop} {m r:Nat}
theorem xx {o:Oper} {K:Act->World->Prop} (f:∀c,o.op≠ .defer c) (h:o.wp P a w K Q):o.wpIn (Fence.wide.inRound r) m P a w K Q:=by
 refine⟨fun _ _=>trivial,?_⟩;rw[Oper.semAt_plain _ _ _ f];unfold Oper.wp at h;generalize (execOp a.eval o).run P w=R at h;unfold Oper.upon at h;unfold Oper.uponIn;split at h
 ·exact h
 ·exact h
 ·exact h
 ·exact⟨fun h=>by simp[Fence.wide] at h,CallsIn.inRound r (callsIn_wide.2 h)⟩
 ·refine⟨fun h=>by simp[Fence.wide] at h,fun c j _=>?_⟩;obtain⟨v,u,q,G⟩:=h c j;grind [fenced_inRound,stepsIn_wide]
 ·exact h
 grind
def pG (l:List Oper):Bool:=l.all fun o=>match o.op with
 | .defer _=>false
 |_=>true
theorem yl {l:List Oper} (h:pG l=true) {o:Oper} (ho:o∈l):∀c,o.op≠ .defer c:=fun c e=>by
 have:=QT.1 h o ho;grind
theorem aIb {P:Program} {o:Oper} {w:World} {f:Operand->Value}:∀g,o.about P w f=some g->(Fence.wide.inRound r).fn g:=fun _ _=>trivial
theorem aCx {ops:Array Oper}:∀(l:List Oper) (k:Nat),(∀j,l[j]?=ops[k+j]?)->pG l=true->∀a w,wpl P ops Q l (Q .normal) a w->wpOpsIn (Fence.wide.inRound r) m P ops Q (List.range' k l.length) a w
 |[],k,_,_,a,w,h=>h
 |o::l,k,u,I,a,w,h=>by
  have J:ops[k]?=some o:=by simpa using (u 0).symm
  have f:pG l=true:=by
   grind [pG]
  have G:=aCx l (k+1) (fun j=>by have:=u (j+1);simpa[KN,Nat.add_comm 1 j] using this) f;grind [List.range'_succ,wpOpsIn,wpl,xx,yl,Oper.wp_mono,aIb]
theorem vt {id:Nat} {ops:Array Oper} (f:pG ops.toList=true) (h:wpl P ops Q ops.toList (Q .normal) a w):(Code.region id ops false).wpIn (Fence.wide.inRound r) m P Q a w:=by
 grind [wpIn_region,aCx,Array.length_toList,List.range_eq_range']
theorem J6 {ops:Array Oper} (u:pG ops.toList=true) (G:¬LetsOut Q):∀(fuel:Nat) (f:Array Bool) (a:Act) (w:World),wpAny P .any ops Q fuel f a w->wpAnyIn (Fence.wide.inRound r) m P .any ops Q fuel f a w
 |0,_,_,_,h=>h
 |fuel+1,f,a,w,h=>by
  refine⟨h.1,fun i hi=>?_⟩;have j:=h.2 i hi;unfold wpOp at j;unfold wpOpIn;cases ho:ops[i]? with
  |none=>
   simp only[ho] at j ⊢;exact J6 u G fuel _ _ _ j
  |some o=>
   simp only[ho] at j ⊢;split
   ·rename_i hw;rw[JQ hw] at j;rcases j with j|j
    ·exact xx (yl u (by grind)) (Oper.wp_mono (J6 u G fuel _) j)
    grind
   ·rename_i hw;rw[QF hw] at j;exact⟨aIb,J6 u G fuel _ _ _ j⟩
variable {s0:ASt U} {ops:Array Oper}
theorem aYU (V:fY C w0) (f:C.P.follows .mixedOrders=true) {id:Nat} (hd:pG ops.toList=true) (hL:¬LetsOut Q) (h:RR C.E n N w0 ρ s0 a w) {K:ASt U->Prop}
  (S:tG C n ops ops.toList [] s0 (fun es s'=>cond (wR ops ops.toList [] es) (K s') False)) (hK:∀s' ρ' a' w',K s'->RR C.E n N w0 ρ' s' a' w'->Q .normal a' w'):(Code.region id ops true).wpIn (Fence.wide.inRound r) m C.P Q a w:=by
 obtain⟨es,O,G,L⟩:=ou (s0:=s0) ops.toList [] s0 _ (fun j=>XQ) rfl (fun i hi=>absurd hi XQ) S;obtain⟨u,J⟩:wR ops ops.toList [] es=true/\K _:=by
  cases I:wR ops ops.toList [] es with
  |true=>rw[I] at L;exact⟨rfl,L⟩
  |false=>grind
 have Z:es.length=ops.size:=by grind
 refine wpIn_region_any f (J6 hd hL _ _ _ _ (aIW (N:=N) (w0:=w0) V (zr u Z) G (fun ρ' a' w' hR=>hK _ ρ' a' w' J hR) ops.size (Array.replicate ops.size false) ρ a _ XQ ?_ ?_ ?_))
 ·grind [List.countP_le_length]
 ·intro j o ho hD;have hj:j<ops.size:=(QD.1 ho).1;simp_all
 ·have:SD (fun k=>(Array.replicate ops.size false).getD k true) 0 s0 es=s0:=Re es 0 s0 (fun i hi=>by
   simp_all)
  rw[this];exact h.drew
theorem aYo (j:fY C w0) {id:Nat} (u:pG ops.toList=true) (h:RR C.E n N w0 ρ s a w) {cs:List Prop} {s':ASt U} (f:qQ C n ops (ops.toList.length+1) [] ops.toList s=some (cs,s')) (G:dZ cs)
  (I:∀ρ' a' w',RR C.E n N w0 ρ' s' a' w'->Q .normal a' w'):(Code.region id ops false).wpIn (Fence.wide.inRound r) m C.P Q a w:=
 vt u (Pn _ C j _ _ _ _ _ f G ρ a w h _ I)
theorem aTJ (ty:TypeId) {b bm f J G:Nat} {u:Array Nat} {es:Array MapEntry} (hr:w.heap[b]?=some (.mapIter (some bm) f u J)) (hb:w.heap[bm]?=some (.map es G)) (hold:∀x∈es.toList,x.born<f) (V:f<=J):
  ((leftOf es u).size=0/\(Instr.next (.pointer (some ⟨b,0,none⟩)) false ty).run P w=.ok (.tuple #[.bool false]) w)\/
  ∃e∈(leftOf es u).toList,∃I:World,(I=w\/I=w.drew)/\(Instr.next (.pointer (some ⟨b,0,none⟩)) false ty).run P w=.ok (.tuple #[.bool true,e.key,e.val]) (I.putObj b (.mapIter (some bm) f (u.push e.born) G)):=by
 have gb:(getObj b).run P w=.ok (.mapIter (some bm) f u J) w:=by grind [getObj,Sem.run]
 have gm:(getObj bm).run P w=.ok (.map es G) w:=by grind [getObj,Sem.run]
 unfold Instr.next;simp only[QE,gb,gm,QL,next_test_false u es f J hold V,Bool.false_eq_true,if_false];unfold leftOf;have S:∀x∈(Array.filter (fun e=>!u.contains e.born) es).toList,x.born<f:=fun x hx=>hold x (by grind)
 generalize Array.filter (fun e=>!u.contains e.born) es=L at S ⊢;have e1:L.filter (fun x=>decide (x.born<f))=L:=Array.filter_eq_self.2 (fun x hx=>by grind);have e2:L.filter (fun x=>decide (x.born>=f))=#[]:=by
  simp_all
 simp only[e1,e2,Array.append_empty]
 by_cases h0:L.size=0
 ·simp_all[Question.forced]
 ·right;have Z:L.isEmpty=false:=by grind
  simp only[Z,Bool.false_eq_true,if_false,Array.empty_append,Array.size_map];have hch:∃(j:Nat) (I:World),j<L.size/\(I=w\/I=w.drew)/\(choose (Question.mapNext L.size)).run P w=.ok j I:=by
   by_cases hf:L.size<=1
   ·exact⟨0,w,KI,.inl rfl,by grind [choose,Sem.run,Question.forced]⟩
   ·exact⟨_,w.drew,Nat.mod_lt _ KI,.inr rfl,by
     simp only[choose,Sem.run,Question.forced,JN,hf,if_false,Question.cut];rfl⟩
  obtain⟨j,I,hj,O,hrun⟩:=hch;refine⟨L[j],XQ,I,O,?_⟩;have wH:I.heap[b]?=some (.mapIter (some bm) f u J):=by
   rcases O with rfl|rfl
   ·exact hr
   ·exact hr
  simp_all[setObj,Sem.run,World.putObj]
theorem aX3 {b bm j f:Nat} {u:Array Nat} {es:Array MapEntry} {e:MapEntry} (G:w.heap[b]?=some (.mapIter (some bm) j (u.push e.born) f)) (hb:w.heap[bm]?=some (.map es f)) (he:e∈es.toList) (I:(es.toList.map (·.born)).Nodup):
  (Instr.entry (.pointer (some ⟨b,0,none⟩))).run P w=.ok (.tuple #[e.key,e.val]) w:=by
 have L:(getObj b).run P w=.ok (.mapIter (some bm) j (u.push e.born) f) w:=by grind [getObj,Sem.run]
 have J:(getObj bm).run P w=.ok (.map es f) w:=by grind [getObj,Sem.run]
 have hf:es.find? (·.born==e.born)=some e:=by rw[<- Array.find?_toList];grind [find_born]
 simp_all[Instr.entry]
end
end Go.Vm
namespace Go.Proofs.YtgcpildegdgekaaGreatDoor
open Go.Proofs.Tryz
open Go.RowKit Go.Vm
noncomputable section
def aQy:Oper:={dst:=none,op:=.move (.tmp 0),type:=0,pos:= "",after:=#[],guard:=none}
def opn (c:Code) (i:Nat):Oper:=(cR c).toList.getD i aQy
theorem ph {o:Oper} {f:Nat->Option Bool} (h:o.guard=none):Region.wanted o f=true:=by
 unfold Region.wanted;rw[h]
variable {P:Program} {a a':Act} {w w':World} {ops:Array Oper} {Q:Exit->Act->World->Prop} {K:Act->World->Prop} {rest:List Oper} {o:Oper}
theorem gY {u:Value} {d:Nat} (j:o.guard=none) (G:o.dst=some d) (f:(execOp a.eval o).run P w=.ok (.value u) w') (h:wpl P ops Q rest K (a.put (some d) u) w'):wpl P ops Q (o::rest) K a w:=by
 grind [wpl,ph,jU]
theorem Bu {x:Operand} (ho:o.op=.assign x):(execOp a.eval o).run P w=.ok (.value (a.eval x)) w:=by
 simp_all[execOp]
theorem oL {d t:Nat} {u:Value} (f:d<a.tmps.size):(a.put (some d) u).tmps.getD t undef=if t=d then u else a.tmps.getD t undef:=by
 grind [Act.put,Ow]
section
variable {P:Program} {a:Act} {w:World} {o:Oper} {x y:Operand} {t t' e:TypeId} {i:TypeInfo} {n c:Nat}
theorem Hh (ho:o.op=.move x):(execOp a.eval o).run P w=.ok (.value (a.eval x)) w:=by
 simp_all[execOp]
theorem aXF {j:Option Addr} (ho:o.op=.call {callee:=.builtin .len,args:=#[x],argTypes:=#[t]}) (f:a.eval x=.slice j n c) (hu:P.underlying t=some (.slice e)):(execOp a.eval o).run P w=.ok (.value (.int .i64 n)) w:=by
 unfold execOp;rw[ho];simp[resolve,invoke,builtin,f,Builtin.len_,QV hu,goInt]
theorem aXH {n m:Int} (ho:o.op=.binOp .gtr t x y t') (j:a.eval x=.int .i64 n) (f:a.eval y=.int .i64 m):(execOp a.eval o).run P w=.ok (.value (.bool (decide (m<n)))) w:=by
 simp_all[execOp,eqGuard,binOp,Op.intCmp]
theorem aI6 (f:Addr):f.add 0=f:=by
 rfl
theorem aXG {f:Addr} (ho:o.op=.indexAddr t x y) (u:a.eval x=.slice (some f) n c) (j:a.eval y=.int .i64 0) (I:0<n) (G:P.underlying t=some (.slice e)) (hi:P.info? e=some i):(execOp a.eval o).run P w=.ok (.value (.pointer (some f))) w:=by
 unfold execOp;rw[ho];simp[u,j,Instr.indexAt,QV G,sizeOf,typeInfo,hi,asIntOf,I,aI6]
theorem aXE {f:Addr} {k:Int} (ho:o.op=.load t x) (j:a.eval x=.pointer (some f)) (u:P.underlying t=some (.int .i64)) (G:w.cell? f=some (.int .i64 k)):(execOp a.eval o).run P w=.ok (.value (.int .i64 k)) w:=by
 simp_all[isAgg,QV,execOp,Instr.loadAt,Instr.sureAddr,loadVar]
theorem aXC {b q:Nat} (ho:o.op=.slice t x (some y) none none) (u:a.eval x=.slice (some ⟨b,q,none⟩) n c) (j:a.eval y=.int .i64 1) (I:1<=n) (f:P.underlying t=some (.slice (P.elem t))) (hi:P.info? (P.elem t)=some i) (G:i.size=1):
  (execOp a.eval o).run P w=.ok (.value (.slice (some ⟨b,if c=1 then q else q+1,none⟩) (n-1) (c-1))) w:=by
 unfold execOp;rw[ho];simp only[u,j,Option.map_some,Option.map_none,run_sliceAt_slice w t _ _ _ _ f,QE];rw[run_slice_l w t _ n c f .i64 1 KI KI];simp only[sizeOf,typeInfo,QE,run_program,hi,JO,QL,sliced,G];grind [Addr.add]
theorem aOb (k:Int) (w:World):(Instr.buildSlice 55 1 #[(0,.int .i64 k)]).run prog w=.ok (.slice (some ⟨w.heap.size,0,none⟩) 1 1) (w.alloc (.cells #[.int .i64 k] 3)):=by
 obtain⟨G,hi,f,j,u⟩:=info_parts (P:=prog) (e:=3) (z:=.int .i64 0) (size:=1) (bytes:=8) KA;simp[Instr.buildSlice,QV underlying55,sizeOf,typeInfo,hi,j,zeroValue,f,Instr.fill,newRow,Value.cells];grind
theorem aHJ {k:Int} (ho:o.op=.buildSlice 55 1 #[(0,x)]) (f:a.eval x=.int .i64 k):(execOp a.eval o).run prog w=.ok (.value (.slice (some ⟨w.heap.size,0,none⟩) 1 1)) (w.alloc (.cells #[.int .i64 k] 3)):=by
 grind [execOp,aOb,Sem.run_bind,Result.andThen_ok,Sem.run_pure]
def QB (w:World) (v:Value) (b:Nat) (xs:zzI):Prop:=∃q f cur,v=.slice (some ⟨b,q,none⟩) xs.length f/\w.heap[b]?=some (.cells cur 3 (0,0))/\xs.length<=f/\q+f<=cur.size/\∀j (h:j<xs.length),cur[q+j]?=some (.int .i64 xs[j])
theorem QB.lt {v:Value} {b:Nat} {xs:zzI} (h:QB w v b xs):b<w.heap.size:=by
 obtain⟨q,f,cur,_,j,_⟩:=h;grind
theorem QB.same {v:Value} {b:Nat} {xs:zzI} (h:QB w v b xs) {w':World} (hw:w'.heap[b]?=w.heap[b]?):QB w' v b xs:=by
 obtain⟨q,f,cur,G,u,j⟩:=h;exact⟨q,f,cur,G,hw.trans u,j⟩
theorem QB.one (k:Int) (w:World):QB (w.alloc (.cells #[.int .i64 k] 3)) (.slice (some ⟨w.heap.size,0,none⟩) 1 1) w.heap.size [k]:=
 ⟨0,1,_,rfl,heap_alloc_new w _,XQ,XQ,fun j h=>by
  grind⟩
theorem QB.tail {b q cap:Nat} {k:Int} {xs:zzI} (h:QB w (.slice (some ⟨b,q,none⟩) (k::xs).length cap) b (k::xs)):QB w (.slice (some ⟨b,if cap=1 then q else q+1,none⟩) xs.length (cap-1)) b xs:=by
 obtain⟨L,u,cur,f,J,I,S,G⟩:=h;simp only[JI,QJ,KQ,and_true,true_and] at f;obtain⟨rfl,rfl⟩:=f;rw[QN] at I;refine⟨_,_,cur,rfl,J,KI,?_,fun j O=>?_⟩
 ·grind
 ·have:=G (j+1) (by grind);grind
theorem QB.append {v:Value} {b:Nat} {xs:zzI} {k:Int} {c:Nat} {bx:Nat} (h:QB w v b xs) (hx:w.heap[bx]?=some (.cells #[.int .i64 k] 3 (0,0))) (hlen:xs.length<=1000) (ty:TypeId):
  ∃S w' O,(Builtin.append_ #[55,55] ty #[v,.slice (some ⟨bx,0,none⟩) 1 c]).run prog w=.ok S w'/\QB w' S O (xs++[k])/\(O=b\/w.heap.size<=O)/\(∀j,j<w.heap.size->j≠O->w'.heap[j]?=w.heap[j]?)/\w.heap.size<=w'.heap.size/\w'.os=w.os/\w'.tape=w.tape/\w'.output=w.output:=by
 obtain⟨Z,hi,qM,V,qL⟩:=info_parts (P:=prog) (e:=3) (z:=.int .i64 0) (size:=1) (bytes:=8) KA;obtain⟨q,f,cur,rfl,h2,h3,h4,h5⟩:=h;have G:∀(j:Nat) (u:Value),[Value.int .i64 k][j]?=some u->w.cell? ((⟨bx,0,none⟩:Addr).add j)=some u:=fun j u I=>by
  obtain rfl:j=0:=by
   grind
  rw[aI6,cell_of_row w bx 0 _ _ _ hx];grind
 by_cases hr:xs.length+1<=f
 ·have hf:=run_firstCells_some (P:=prog) w Z.size 1 ⟨bx,0,none⟩ 1 c [.int .i64 k] (by grind) G;have L:=run_storeCells_at prog b (q+xs.length) 3 [.int .i64 k] 0 cur w h2 (by grind) (by simp[Value.oneCell']);simp only[JB] at L;refine⟨.slice (some ⟨b,q,none⟩) (xs.length+1) f,w.setRow b (cur.toList.take (q+xs.length)++[Value.int .i64 k]++cur.toList.drop (q+xs.length+1)).toArray,b,?_,⟨q,f,(cur.toList.take (q+xs.length)++[Value.int .i64 k]++cur.toList.drop (q+xs.length+1)).toArray,XQ,setRow_heap w b cur _ 3 _ h2,by grind,?_,fun j I=>?_⟩,.inl rfl,fun j _ I=>setRow_other w b j _ I,XQ,rfl,rfl,rfl⟩
  ·rw[V] at hf;simp[Builtin.append_,QV underlying55,sizeOf,typeInfo,hi,V,Builtin.lenOf,hr,hf,Addr.add_lit,L]
  ·grind
  grind
 ·have J:∀(j:Nat) (u:Value),(xs.map (Value.int .i64))[j]?=some u->w.cell? ((⟨b,q,none⟩:Addr).add j)=some u:=fun j u I=>by
   grind [Addr.add_lit,cell_of_row]
  have hg:=run_append_grow (P:=prog) w 55 ty 3 Z (.int .i64 0) underlying55 hi qM ⟨b,q,none⟩ xs.length f (xs.map (Value.int .i64)) (by grind) J ⟨bx,0,none⟩ 1 c [.int .i64 k] (by grind) G KI KI (by rw[qL];exact growslice_fits KI KI);have hcap:=grownCap_ge w (xs.length+1) f 3;refine⟨_,_,w.heap.size,hg,⟨0,_,_,by rw[QM];rfl,heap_alloc_new w.drew _,by grind,?_,fun j I=>?_⟩,.inr (QP _),fun j I hne=>heap_alloc_old w.drew _ I,XQ,rfl,rfl,rfl⟩
  ·grind [size_zeroCells,Value.cells]
  grind
theorem aXK {v:Value} {b:Nat} {xs:zzI} {k:Int} {bx:Nat} (ho:o.op=.call {callee:=.builtin .append,args:=#[x,y],argTypes:=#[55,55]}) (I:a.eval x=v) (G:a.eval y=.slice (some ⟨bx,0,none⟩) 1 1) (h:QB w v b xs) (hb:w.heap[bx]?=some (.cells #[.int .i64 k] 3 (0,0))) (hlen:xs.length<=1000):
  ∃u w' f,(execOp a.eval o).run prog w=.ok (.value u) w'/\QB w' u f (xs++[k])/\(f=b\/w.heap.size<=f)/\(∀j,j<w.heap.size->j≠f->w'.heap[j]?=w.heap[j]?)/\w.heap.size<=w'.heap.size/\w'.os=w.os/\w'.tape=w.tape/\w'.output=w.output:=by
 obtain⟨u,w',f,J,rest⟩:=h.append (c:=1) hb hlen o.type;refine⟨u,w',f,?_,rest⟩;simp_all[execOp,resolve,invoke,builtin]
end
end
end Go.Proofs.YtgcpildegdgekaaGreatDoor
namespace Go.Proofs.YtgcpildegdgekaaGreatDoor
open Go.Proofs.Tryz
open Go.RowKit Go.Vm
noncomputable section
def cq:Code:=bo f169
def cq4:Code:=cS (cS (cS (cS cq)))
def qLB:Code:=cL (cB (cF cq4))
def qTL:Code:=cS cq4
def qR4:Code:=cF (cF qLB)
def qB1:Code:=cB (cS qLB)
def qR7:Code:=cF (cS (cS qB1))
def qIB:Code:=cL (cB (cS (cS (cS qB1))))
def qR8:Code:=cF qIB
def qB3:Code:=cB (cF (cS (cS qIB)))
def qR9:Code:=cF qB3
def wi:Code:=cF (cS qB3)
def wh:Code:=cF (cT (cS (cS qB3)))
def sB:Code:=cS (cT (cS (cS qB3)))
def Lm:Code:=cS (cS (cS qIB))
theorem aYr:cq=.seq (cF cq) (.seq (cF (cS cq)) (.seq (cF (cS (cS cq))) (.seq (cF (cS (cS (cS cq)))) (.seq (.block 0 (.loop qLB)) qTL)))):=KA
theorem aPv:cF (cS (cS (cS cq)))=.region 3 (cR (cF (cS (cS (cS cq))))) false:=KA
theorem aPs:qR4=.region 4 (cR qR4) false:=KA
theorem aPp:cF qB1=.region 5 (cR (cF qB1)) false:=KA
theorem aPm:cF (cS qB1)=.region 6 (cR (cF (cS qB1))) false:=KA
theorem aPy:sB=.region 12 (cR sB) false:=KA
theorem aPu:(cR (cF (cS (cS (cS cq))))).toList=[opn (cF (cS (cS (cS cq)))) 0,opn (cF (cS (cS (cS cq)))) 1]:=KA
theorem aPr:(cR qR4).toList=[opn qR4 0,opn qR4 1,opn qR4 2]:=KA
theorem aPo:(cR (cF qB1)).toList=[opn (cF qB1) 0,opn (cF qB1) 1,opn (cF qB1) 2,opn (cF qB1) 3]:=KA
theorem aPl:(cR (cF (cS qB1))).toList=[opn (cF (cS qB1)) 0,opn (cF (cS qB1)) 1,opn (cF (cS qB1)) 2]:=KA
theorem aPx:(cR sB).toList=[opn sB 0,opn sB 1,opn sB 2,opn sB 3,opn sB 4]:=KA
def stQ (l:List aA) (m:List Bool) (ex:Nat->aC UU):ASt UU:=⟨fun u=>cond (Nat.beq u 0) (.sl .rect l) (cond (Nat.beq u 3) (.osl 61 0) (ex u)),fun u=>cond (Nat.beq u 61) (some (.row .bool 0 m)) none⟩
def xQ (v:Value):Nat->aC UU:=fun u=>cond (Nat.beq u 4) (.raw v) .any
def xA (v:Value) (a:Int):Nat->aC UU:=fun u=>cond (Nat.beq u 4) (.raw v) (cond (Nat.beq u 5) (.int .i64 a) .any)
def xI (v:Value) (a n k:Int):Nat->aC UU:=fun u=>cond (Nat.beq u 4) (.raw v) (cond (Nat.beq u 5) (.int .i64 a) (cond (Nat.beq u 24) (.int .i64 n) (cond (Nat.beq u 25) (.int .i64 k) .any)))
def xC (v:Value) (a n k:Int) (c:Bool):Nat->aC UU:=fun u=>cond (Nat.beq u 4) (.raw v) (cond (Nat.beq u 5) (.int .i64 a) (cond (Nat.beq u 24) (.int .i64 n) (cond (Nat.beq u 25) (.int .i64 k) (cond (Nat.beq u 26) (.bool c) .any))))
def xK (v:Value) (a n k:Int):Nat->aC UU:=fun u=>cond (Nat.beq u 4) (.raw v) (cond (Nat.beq u 5) (.int .i64 a) (cond (Nat.beq u 6) (.int .i64 k) (cond (Nat.beq u 24) (.int .i64 n) (cond (Nat.beq u 25) (.int .i64 k) .any))))
def xT (v:Value) (a n k:Int) (c:Bool):Nat->aC UU:=fun u=>cond (Nat.beq u 4) (.raw v) (cond (Nat.beq u 5) (.int .i64 a) (cond (Nat.beq u 6) (.int .i64 k) (cond (Nat.beq u 24) (.int .i64 n) (cond (Nat.beq u 25) (.int .i64 k) (cond (Nat.beq u 43) (.bool c) .any)))))
def mNo:Nat->Nat->Nat->Canon UU:=fun _ _ _=>⟨[],[],[],[],[]⟩
def mQ (l:List Nat):Canon UU:=⟨0::3::l,[],[(.tmp 3,61,.bool)],[],[]⟩
def fU (m:Canon UU) (Kc:ASt UU->Prop) (K:AEx->ASt UU->Prop):AEx->ASt UU->Prop:=fun e s=>match e with
 | .normal=>match canon m s with
  |some s'=>Kc s'
  |none=>False
 |e=>K e s
def KF:AEx->ASt UU->Prop:=fun _ _=>False
abbrev exq (cur:Nat) (c:Code) (s:ASt UU) (K:AEx->ASt UU->Prop):Prop:=exec iF f169.ntmps mNo 0 cur c s K
abbrev ksq (cur:Nat) (c:Code) (K:AEx->ASt UU->Prop):AEx->ASt UU->Prop:=cA (aU mNo 0 0 iF) iF f169.ntmps mNo 0 cur c K
theorem e0 (Kc:ASt UU->Prop) (l:List aA):exq 0 (cF cq) (gK [.sl .rect l]) (ksq 0 (cF (cS cq)) (ksq 0 (cF (cS (cS cq))) (fU (mQ []) Kc KF)))=
  ((0<=(l.length:Int)/\(l.length:Int)=(l.length:Int)/\(l.length:Int)*1<=140737488355328)/\((0<=(0:Int)/\(0:Int)<(List.replicate ((l.length:Int).toNat) (false:Bool)).length)/\Kc (stQ l ((List.replicate ((l.length:Int).toNat) (false:Bool)).set 0 true) fun _=>.any))):=KA
theorem e7 (Kc:ASt UU->Prop) (l:List aA) (m:List Bool) (v:Value) (a:Int):exq 1 qR7 (stQ l m (xA v a)) (fU (mQ [4,5,24,25]) Kc KF)=Kc (stQ l m (xI v a l.length 0)):=KA
theorem e8 (Kc:ASt UU->Prop) (l:List aA) (m:List Bool) (v:Value) (a n k:Int):exq 2 qR8 (stQ l m (xI v a n k)) (fU (mQ [4,5,24,25,26]) Kc KF)=Kc (stQ l m (xC v a n k (decide (k<n)))):=KA
theorem e9 (Kc:ASt UU->Prop) (l:List aA) (m:List Bool) (v:Value) (a n k:Int):exq 3 qR9 (stQ l m (xC v a n k true)) (ksq 3 wi (fU (mQ [4,5,6,24,25,43]) Kc KF))=
  ((0<=k/\k<m.length)/\cond (!(m.getD k.toNat default)) (((0<=a/\a<l.length)/\((0<=k/\k<l.length)/\Kc (stQ l m (xT v a n k (tL (l.getD a.toNat default) (l.getD k.toNat default))))))) (Kc (stQ l m (xT v a n k false)))):=KA
theorem km (Kc:ASt UU->Prop) (l:List aA) (m:List Bool) (v:Value) (a n k:Int):exq 3 wh (stQ l m (xT v a n k true)) (fU (mQ [4,5,6,24,25]) Kc KF)=((0<=k/\k<m.length)/\Kc (stQ l (m.set k.toNat true) (xK v a n k))):=KA
theorem e13 (Kc:ASt UU->Prop) (l:List aA) (m:List Bool) (v:Value) (a n k:Int):exq 2 Lm (stQ l m (xK v a n k)) (fU (mQ [4,5,24,25]) Kc KF)=Kc (stQ l m (xI v a n (aB (k+1)))):=KA
theorem aYS (Kc:ASt UU->Prop) (l:List aA) (m:List Bool) (v:Value) (a n k:Int):exq 2 Lm (stQ l m (xT v a n k false)) (fU (mQ [4,5,24,25]) Kc KF)=Kc (stQ l m (xI v a n (aB (k+1)))):=KA
variable {N:Nat->Prop} {w0:World} {l:List aA} {m:List Bool} {ex ex':Nat->aC UU} {v:Value} {b:Nat} {xs:zzI} {ρ:Vm.Own} {a:Act} {w:World} {Q:Exit->Act->World->Prop} {cur:Nat} {c d z:Code} {mc:Canon UU}
def NQ (N:Nat->Prop) (b:Nat):Nat->Prop:=fun x=>N x\/x=b
abbrev FQ (w0 we:World) (b:Nat) (f:∀x,x=b->x<we.heap.size) (j:w0.heap.size<=we.heap.size):Fr:=FrA w0 we (fun x=>x=b) f j (fun _=>none) (fun _ _ h=>by cases h) []
structure QS (N:Nat->Prop) (w0:World) (l:List aA) (m:List Bool) (ex:Nat->aC UU) (v:Value) (b:Nat) (xs:zzI) (ρ:Vm.Own) (a:Act) (w:World):Prop where
 ge:w0.heap.size<=b
 q:QB w v b xs
 rr:∃we hlt hle,RR EE 61 (NQ N b) (FQ w0 we b hlt hle) ρ (stQ l m ex) a w
theorem P0 {F:Fr} {N:Nat->Prop} {s:ASt UU} {Kc:ASt UU->Prop} (j:fY iF F.w0) (hp:∀id,F.pin id=none) (hR:RR EE 61 N F ρ s a w) (h:exq cur c s (fU mc Kc KF))
  (S:∀s' ρ' a' w',Kc s'->RR EE 61 N F ρ' s' a' w'->Q .normal a' w'):c.wp prog Q a w:=by
 refine uG (C:=iF) (w0:=F) j mixed (fun _ _ _ id u h=>by grind) c cur s _ ρ a w Q h hR (fun e s' ρ' a' w' f O=>?_);cases e with
 |normal=>
  simp only[fU] at f;split at f
  ·rename_i L G;obtain⟨J,I⟩:=uI O G (fun id u h=>by grind);exact S L J a' w' f I
  grind
 |exit id=>exact(show False from f).elim
 |ret=>exact(show False from f).elim
theorem O9 {F:Fr} {N:Nat->Prop} {s:ASt UU} {K:AEx->ASt UU->Prop} (j:fY iF F.w0) (hp:∀id,F.pin id=none) (hR:RR EE 61 N F ρ s a w) (h:exq cur c s (ksq cur d K)) (I:∀e s',e≠ .normal->K e s'->False)
  (J:∀s' ρ' a' w',exq cur d s' K->RR EE 61 N F ρ' s' a' w'->z.wp prog Q a' w'):(Code.seq c z).wp prog Q a w:=by
 refine wp_seq (uG (C:=iF) (w0:=F) j mixed (fun _ _ _ id u h=>by grind) c cur s _ ρ a w _ h hR (fun e s' ρ' a' w' f G=>?_));cases e with
 |normal=>exact J s' ρ' a' w' f G
 |exit id=>exact(I (.exit id) s' XQ f).elim
 |ret=>exact(I .ret s' XQ f).elim
theorem aHh {Kc:ASt UU->Prop}:∀e s',e≠ .normal->fU mc Kc KF e s'->False:=fun e s' he h=>by
 cases e with
 |normal=>grind
 |exit id=>exact h
 |ret=>exact h
theorem QS.kept {G:List Bool} {we:World} {f:∀x,x=b->x<we.heap.size} {j:w0.heap.size<=we.heap.size} {ρ':Vm.Own} {a':Act} {w':World} (I:QS N w0 l m ex v b xs ρ a w) (hR:RR EE 61 (NQ N b) (FQ w0 we b f j) ρ (stQ l m ex) a w)
  (u:RR EE 61 (NQ N b) (FQ w0 we b f j) ρ' (stQ l G ex') a' w'):QS N w0 l G ex' v b xs ρ' a' w':=
 ⟨I.ge,I.q.same ((u.kept.2 b rfl).trans (hR.kept.2 b rfl).symm),we,f,j,u⟩
theorem QS.vm {Pq:List Bool->(Nat->aC UU)->Prop} (J:QS N w0 l m ex v b xs ρ a w) (j:fY iF w0) (h:exq cur c (stQ l m ex) (fU mc (fun s'=>∃f ex',s'=stQ l f ex'/\Pq f ex') KF))
  (L:∀f ex' ρ' a' w',Pq f ex'->QS N w0 l f ex' v b xs ρ' a' w'->Q .normal a' w'):c.wp prog Q a w:=by
 obtain⟨we,u,G,hR⟩:=J.rr;refine P0 (F:=FQ w0 we b u G) j (fun _=>rfl) hR h fun s' ρ' a' w' O I=>?_
 obtain⟨f,ex',rfl,hp⟩:=O;exact L f ex' ρ' a' w' hp (J.kept hR I)
theorem QS.vm2 {Pq:List Bool->(Nat->aC UU)->Prop} (L:QS N w0 l m ex v b xs ρ a w) (f:fY iF w0) (h:exq cur c (stQ l m ex) (ksq cur d (fU mc (fun s'=>∃j ex',s'=stQ l j ex'/\Pq j ex') KF)))
  (O:∀j ex' ρ' a' w',Pq j ex'->QS N w0 l j ex' v b xs ρ' a' w'->z.wp prog Q a' w'):(Code.seq c (Code.seq d z)).wp prog Q a w:=by
 obtain⟨we,u,G,hR⟩:=L.rr;refine O9 (F:=FQ w0 we b u G) f (fun _=>rfl) hR h aHh fun s1 Z a1 w1 V I=>?_
 refine wp_seq (P0 (F:=FQ w0 we b u G) f (fun _=>rfl) I V fun s' ρ' a' w' S J=>?_);obtain⟨j,ex',rfl,hp⟩:=S;exact O j ex' ρ' a' w' hp (L.kept hR J)
theorem QS.size (f:QS N w0 l m ex v b xs ρ a w):a.tmps.size=61:=by
 obtain⟨we,j,u,hR⟩:=f.rr;exact hR.size
theorem QS.rel (j:QS N w0 l m ex v b xs ρ a w) (t:Nat) (f:t<61):Rel EE w ρ (aD (NQ N b) ρ w) ((stQ l m ex).tmps t) (a.eval (.tmp t)):=by
 obtain⟨we,u,G,hR⟩:=j.rr;have:=hR.eval (.tmp t);have e:(stQ l m ex).eval (.tmp t)=(stQ l m ex).tmps t:=by
  exact an (JX f (by decide))
 grind
theorem QS.raw {u:Value} (j:QS N w0 l m ex v b xs ρ a w) (t:Nat) (f:t<61) (he:(stQ l m ex).tmps t=.raw u):a.eval (.tmp t)=u:=by
 have:=j.rel t f;rw[he] at this;generalize a.eval (.tmp t)=x at this;cases this;rfl
theorem QS.int {k:Int} (j:QS N w0 l m ex v b xs ρ a w) (t:Nat) (f:t<61) (he:(stQ l m ex).tmps t=.int .i64 k):a.eval (.tmp t)=.int .i64 k:=by
 have:=j.rel t f;rw[he] at this;generalize a.eval (.tmp t)=x at this;cases this;rfl
theorem QS.bool {k:Bool} (j:QS N w0 l m ex v b xs ρ a w) (t:Nat) (f:t<61) (he:(stQ l m ex).tmps t=.bool k):a.eval (.tmp t)=.bool k:=by
 have:=j.rel t f;rw[he] at this;generalize a.eval (.tmp t)=x at this;cases this;rfl
theorem QS.free (f:QS N w0 l m ex v b xs ρ a w) {d:Nat} (J:d<61) (I:(stQ l m ex).tmps d=.any) (u:Value):QS N w0 l m ex v b xs ρ (a.put (some d) u) w:=by
 obtain⟨we,j,G,hR⟩:=f.rr;exact⟨f.ge,f.q,we,j,G,hR.sC J I u⟩
theorem QS.put (f:QS N w0 l m ex v b xs ρ a w) {d:Nat} (O:d<61) {u:Value} {x:aC UU} (L:∀J,Rel EE w ρ J x u) (I:(stQ l m ex').tmps d=x) (he:∀t,t≠d->(stQ l m ex').tmps t=(stQ l m ex).tmps t):QS N w0 l m ex' v b xs ρ (a.put (some d) u) w:=by
 obtain⟨we,j,G,hR⟩:=f.rr;exact⟨f.ge,f.q,we,j,G,hR.Ln O (L _) rfl I he⟩
theorem QS.less (f:QS N w0 l m ex v b xs ρ a w) (G:∀t,ex' t=.any\/ex' t=ex t):QS N w0 l m ex' v b xs ρ a w:=by
 obtain⟨we,j,u,hR⟩:=f.rr;refine⟨f.ge,f.q,we,j,u,hR.less rfl fun t=>?_⟩;show cond (Nat.beq t 0) (aC.sl .rect l:aC UU) _=(aC.any:aC UU)\/cond (Nat.beq t 0) (aC.sl .rect l:aC UU) _=cond (Nat.beq t 0) _ _;grind
theorem QS.got (j:QS N w0 l m ex v b xs ρ a w) {d:Nat} (f:d<61) (u:Value):(a.put (some d) u).eval (.tmp d)=u:=(oL (by rw[j.size];exact f)).trans (JQ rfl)
theorem QS.oth (G:QS N w0 l m ex v b xs ρ a w) {d t:Nat} (j:d<61) (f:t≠d) (u:Value):(a.put (some d) u).eval (.tmp t)=a.eval (.tmp t):=(oL (by rw[G.size];exact j)).trans (QF f)
theorem QS.world (hS:QS N w0 l m ex v b xs ρ a w) (hN:∀x,N x->x<w0.heap.size) {w1:World} {v1:Value} {I:Nat} {xs1:zzI} (hq:QB w1 v1 I xs1) (hb:I=b\/w.heap.size<=I) (hs:∀j,j<w.heap.size->j≠I->w1.heap[j]?=w.heap[j]?)
  (hz:w.heap.size<=w1.heap.size) (ho:w1.os=w.os) (ht:w1.tape=w.tape) (V:w1.output=w.output):QS N w0 l m ex v1 I xs1 ρ a w1:=by
 obtain⟨we,hlt,hle,hR⟩:=hS.rr;have O:Below w0.heap.size w0 w:=hR.below;have hsz:=O.size;have hge:w0.heap.size<=I:=by
  rcases hb with rfl|hb
  ·exact hS.ge
  ·omega
 have cJ:Below w0.heap.size w0 w1:=⟨ho.trans O.os,ht.trans O.tape,V.trans O.output,KI,fun k hk=>(hs k KI KI).trans (O.block k hk)⟩;refine⟨hge,hq,w1,fun x S=>by rw[S];exact hq.lt,KI,hR.anchor rfl (fun _ _ h=>by cases h) rfl hR.defers rfl rfl (fun x S=>S.elim (fun h=>.inl (hN x h)) fun h=>.inr h) (fun x J G=>?_) (fun nm g u x L f G=>?_) (fun nm g u x L f G=>?_) (fun x S G=>hs x S fun e=>G (.inr e)) cJ hz⟩
 ·rcases G with G|rfl
  ·exact J.2.1 (.inl G)
  ·rcases hb with rfl|hb
   ·exact J.2.1 (.inr rfl)
   ·exact absurd J.1 KI
 ·have Z:x=I:=G;subst Z;rcases hb with rfl|hb
  ·exact hR.free nm g u _ L f rfl
  ·exact absurd ((hR.own L).2 _ f).2 KI
 ·rcases G with G|rfl
  ·exact hR.qE L f (.inl G)
  ·rcases hb with rfl|hb
   ·exact hR.free nm g u _ L f rfl
   ·exact absurd ((hR.own L).2 _ f).2 KI
theorem QS.start {N:Nat->Prop} (hN:∀x,N x->x<w0.heap.size) (hR:RR EE 61 N (Fr.pure w0) ρ (stQ l m ex) a w) (k:Int):QS N w0 l m ex (.slice (some ⟨w.heap.size,0,none⟩) 1 1) w.heap.size [k] ρ a (w.alloc (.cells #[.int .i64 k] 3)):=by
 have J:Below w0.heap.size w0 w:=hR.below;have V:=J.size;have f:∀j:Nat,j<w.heap.size->(w.alloc (.cells #[.int .i64 k] 3)).heap[j]?=w.heap[j]?:=fun j hj=>heap_alloc_old w _ hj
 have hz:(w.alloc (.cells #[.int .i64 k] 3)).heap.size=w.heap.size+1:=XQ;have cJ:Below w0.heap.size w0 (w.alloc (.cells #[.int .i64 k] 3)):=⟨J.os,J.tape,J.output,KI,fun k hk=>(f k KI).trans (J.block k hk)⟩;have hq:=QB.one k w;generalize w.alloc (.cells #[.int .i64 k] 3)=W1 at f hz cJ hq ⊢;refine⟨V,hq,W1,fun x O=>KI,KI,hR.anchor rfl (fun _ _ h=>by cases h) rfl hR.defers rfl rfl (fun x O=>O.elim (fun h=>.inl (hN x h)) fun h=>.inr h) (fun x L G=>?_) (fun nm g u x S I G=>?_) (fun nm g u x S I G=>?_) (fun x O _=>f x O) cJ KI⟩
 ·rcases G with G|rfl
  ·exact L.2.1 G
  ·exact absurd L.1 (KS _)
 ·have Z:x=w.heap.size:=G;subst Z;exact absurd ((hR.own S).2 _ I).2 (KS _)
 ·rcases G with G|rfl
  ·exact hR.qE S I G
  ·exact absurd ((hR.own S).2 _ I).2 (KS _)
end
end Go.Proofs.YtgcpildegdgekaaGreatDoor
namespace Go.Proofs.YtgcpildegdgekaaGreatDoor
open Go.Proofs.Tryz
open Go.RowKit Go.Vm
noncomputable section
variable {N:Nat->Prop} {w0:World} {l:List aA} {m:List Bool} {ex ex':Nat->aC UU} {v:Value} {b:Nat} {xs:zzI} {ρ:Vm.Own} {a:Act} {w:World} {Q:Exit->Act->World->Prop} {cur:Nat} {c d z:Code} {mc:Canon UU} {x k n:Int}
theorem aPq (I:QS N w0 l m (xQ v) v b xs ρ a w) (J:∀a',a'.eval (.tmp 17)=.bool (decide (0<(xs.length:Int)))->QS N w0 l m (xQ v) v b xs ρ a' w->Q .normal a' w):qR4.wp prog Q a w:=by
 rw[aPs];refine wp_region (rT ?_);rw[aPr];obtain⟨q,S,V,hv,_⟩:=I.q;have L:=I.raw 4 (by decide) rfl;refine gY (d:=15) KA KA (Hh (x:=.tmp 4) KA) ?_;rw[L];have G:=I.got (d:=15) (by decide) v;have j:=I.free (d:=15) (by decide) rfl v;generalize a.put (some 15) v=O at G j;refine gY (d:=16) KA KA (aXF (x:=.tmp 15) (t:=55) KA (G.trans hv) underlying55) ?_;have u:=j.got (d:=16) (by decide) (.int .i64 xs.length);have f:=j.free (d:=16) (by decide) rfl (.int .i64 xs.length);generalize O.put (some 16) (.int .i64 xs.length)=Z at u f;refine gY (d:=17) KA KA (aXH (x:=.tmp 16) (y:=.const (.int .i64 0)) (t:=3) (t':=3) KA u rfl) ?_;exact J _ (f.got (d:=17) (by decide) _) (f.free (d:=17) (by decide) rfl _)
theorem aPn (L:QS N w0 l m (xQ v) v b (x::xs) ρ a w) (S:∀a',QS N w0 l m (xA v x) v b (x::xs) ρ a' w->Q .normal a' w):(cF qB1).wp prog Q a w:=by
 rw[aPp];refine wp_region (rT ?_);rw[aPo];obtain⟨q,cap,Z,hv,hb,_,_,O⟩:=L.q;have V:=L.raw 4 (by decide) rfl;obtain⟨i0,hi,_⟩:=info_parts (P:=prog) (e:=3) (z:=.int .i64 0) (size:=1) (bytes:=8) KA;refine gY (d:=18) KA KA (Hh (x:=.tmp 4) KA) ?_;rw[V];have J:=L.got (d:=18) (by decide) v;have j:=L.free (d:=18) (by decide) rfl v;generalize a.put (some 18) v=a1 at J j;refine gY (d:=19) KA KA (aXG (x:=.tmp 18) (y:=.const (.int .i64 0)) (t:=55) KA (J.trans hv) rfl XQ underlying55 hi) ?_;have I:=j.got (d:=19) (by decide) (.pointer (some ⟨b,q,none⟩));have f:=j.free (d:=19) (by decide) rfl (.pointer (some ⟨b,q,none⟩));generalize a1.put (some 19) (.pointer (some ⟨b,q,none⟩))=a2 at I f;refine gY (d:=20) KA KA (aXE (x:=.tmp 19) (t:=3) (k:=x) KA I underlying3 (by rw[cell_of_row w b q Z 3 (0,0) hb];exact O 0 XQ)) ?_;have G:=f.got (d:=20) (by decide) (.int .i64 x);have u:=f.free (d:=20) (by decide) rfl (.int .i64 x);generalize a2.put (some 20) (.int .i64 x)=a3 at G u;refine gY (d:=5) KA KA (Bu (x:=.tmp 20) KA) ?_;rw[G];exact S _ (u.put (d:=5) (by decide) (fun st=>.int .i64 x) rfl fun t ht=>by grind [stQ,xA,xQ,fX])
theorem aPk (G:QS N w0 l m (xA v x) v b (x::xs) ρ a w) (hQ:∀j a',QS N w0 l m (xA j x) j b xs ρ a' w->Q .normal a' w):(cF (cS qB1)).wp prog Q a w:=by
 rw[aPm];refine wp_region (rT ?_);rw[aPl];have hq:=G.q;obtain⟨q,f,cu,hv,_⟩:=G.q;subst hv;have h4:=G.raw 4 (by decide) rfl;obtain⟨i0,hi,_,Oo,_⟩:=info_parts (P:=prog) (e:=3) (z:=.int .i64 0) (size:=1) (bytes:=8) KA;refine gY (d:=21) KA KA (Hh (x:=.tmp 4) KA) ?_;rw[h4];have L:=G.got (d:=21) (by decide) (.slice (some ⟨b,q,none⟩) (x::xs).length f);have u:=G.free (d:=21) (by decide) rfl (.slice (some ⟨b,q,none⟩) (x::xs).length f);generalize a.put (some 21) (.slice (some ⟨b,q,none⟩) (x::xs).length f)=a1 at L u;refine gY (d:=22) KA KA (aXC (x:=.tmp 21) (y:=.const (.int .i64 1)) (t:=55) KA L rfl XQ underlying55 hi Oo) ?_;have O:=hq.tail;rw[show (x::xs).length-1=xs.length from rfl];generalize (Value.slice (some ⟨b,if f=1 then q else q+1,none⟩) xs.length (f-1))=j at O ⊢;have J:=u.got (d:=22) (by decide) j;have I:=u.free (d:=22) (by decide) rfl j;generalize a1.put (some 22) j=a2 at J I;refine gY (d:=4) KA KA (Bu (x:=.tmp 22) KA) ?_;rw[J];have S:=I.put (d:=4) (ex':=xA j x) (by decide) (fun st=>.raw j) rfl fun t O=>by grind [stQ,xA,fX]
 obtain⟨Z,r2,V⟩:=S;exact hQ j _ ⟨Z,O,V⟩
theorem aPw (hN:∀x,N x->x<w0.heap.size) (hlen:xs.length<=1000) (hS:QS N w0 l m (xK v x n k) v b xs ρ a w) (hQ:∀G b' a' w',QS N w0 l m (xK G x n k) G b' (xs++[k]) ρ a' w'->Q .normal a' w'):sB.wp prog Q a w:=by
 rw[aPy];refine wp_region (rT ?_);rw[aPx];have h4:=hS.raw 4 (by decide) rfl;refine gY (d:=47) KA KA (Hh (x:=.tmp 4) KA) ?_;rw[h4];have g47:=hS.got (d:=47) (by decide) v;have f:=hS.free (d:=47) (by decide) rfl v;generalize a.put (some 47) v=a1 at g47 f;have h6:=f.int 6 (by decide) rfl;refine gY (d:=48) KA KA (Hh (x:=.tmp 6) KA) ?_;rw[h6];have g48:=f.got (d:=48) (by decide) (.int .i64 k);have O:=(f.oth (d:=48) (t:=47) (by decide) (by decide) (.int .i64 k)).trans g47;have J:=f.free (d:=48) (by decide) rfl (.int .i64 k);generalize a1.put (some 48) (.int .i64 k)=a2 at g48 O J;refine gY (d:=49) KA KA (aHJ (x:=.tmp 48) KA g48) ?_;have L:(w.alloc (.cells #[.int .i64 k] 3)).heap[w.heap.size]?=some (.cells #[.int .i64 k] 3 (0,0)):=heap_alloc_new w _;have I:=J.world hN (w1:=w.alloc (.cells #[.int .i64 k] 3)) (v1:=v) (xs1:=xs) (J.q.same (heap_alloc_old w _ J.q.lt)) (.inl rfl) (fun j hj _=>heap_alloc_old w _ hj) XQ rfl rfl rfl;generalize w.alloc (.cells #[.int .i64 k] 3)=w1 at L I;have g49:=I.got (d:=49) (by decide) (.slice (some ⟨w.heap.size,0,none⟩) 1 1);have u:=(I.oth (d:=49) (t:=47) (by decide) (by decide) (.slice (some ⟨w.heap.size,0,none⟩) 1 1)).trans O;have S:=I.free (d:=49) (by decide) rfl (.slice (some ⟨w.heap.size,0,none⟩) 1 1);generalize a2.put (some 49) (.slice (some ⟨w.heap.size,0,none⟩) 1 1)=a3 at g49 u S;obtain⟨G,w2,b',hrun,hq,hb,hs,hz,ho,ht,hout⟩:=aXK (o:=opn sB 3) (x:=.tmp 47) (y:=.tmp 49) (a:=a3) KA u g49 S.q L hlen;refine gY (d:=50) KA KA hrun ?_;have Z:=S.world hN hq hb hs hz ho ht hout;have g50:=Z.got (d:=50) (by decide) G;have V:=Z.free (d:=50) (by decide) rfl G;generalize a3.put (some 50) G=a4 at g50 V;refine gY (d:=4) KA KA (Bu (x:=.tmp 50) KA) ?_;rw[g50];exact hQ G b' _ w2 (V.put (d:=4) (ex':=xK G x n k) (by decide) (fun st=>.raw G) rfl fun t ht=>by grind [stQ,xK,fX])
theorem aK6 (v:Value) (a n k:Int) (c:Bool):∀t,xQ v t=.any\/xQ v t=xC v a n k c t:=fun t=>by
 grind [xQ,xC]
section
variable {Qx:Exit->Act->World->Prop}
theorem inner (j:fY iF w0) (hN:∀x,N x->x<w0.heap.size) (hlen:l.length<=100) {i r:Nat}:∀(n k:Nat) (t:List Bool×zzI) (v:Value) (b:Nat) (ρ:Vm.Own) (a:Act) (w:World),l.length<n+k->k<=l.length->mZ l t->i<t.2.length->r<l.length->
  QS N w0 l t.1 (xI v r l.length k) v b (t.2.drop (i+1)) ρ a w->
  (∀(t':List Bool×zzI) v' b' ρ' a' w',mZ l t'->t'=(List.range' k (l.length-k)).foldl (mF l r) t->i<t'.2.length->QS N w0 l t'.1 (xQ v') v' b' (t'.2.drop (i+1)) ρ' a' w'->Qx (.exit 2) a' w')->Code.rounds prog qIB Qx n a w:=by
 intro n
 induction n with
 |zero=>omega
 |succ n ih=>
  intro k t v b ρ a w h1 h2 O hi hr hS hQ;have hle:=O.le;have hln:=O.len;rw[rounds_succ]
  suffices hgoal:(Code.seq qR8 (.seq (.cond (.tmp 26) .skip (.exit 2)) (.seq (.block 3 (.seq qR9 (.seq wi (.cond (.tmp 43) (.seq wh sB) .skip)))) Lm))).wp prog (Exit.then (Code.rounds prog qIB Qx n) Qx) a w by
   assumption
  refine wp_seq (hS.vm (mc:=mQ [4,5,24,25,26]) (cur:=2) (Pq:=fun J ex'=>J=t.1/\ex'=xC v r l.length k (decide ((k:Int)<(l.length:Int)))) j ?_ ?_)
  ·grind [e8]
  rintro _ _ ρ1 a1 w1 ⟨rfl,rfl⟩ I
  have Gy:=I.bool 26 (by decide) rfl
  by_cases hk:k<l.length
  ·rw[dD (show (k:Int)<(l.length:Int) by omega)] at Gy I;refine wp_seq (wp_cond_true Gy (wp_skip ?_));refine wp_seq (wp_block ?_);have V:=O.mF r hk;have f:(List.range' k (l.length-k)).foldl (mF l r) t=(List.range' (k+1) (l.length-(k+1))).foldl (mF l r) (mF l r t k):=by
    rw[show l.length-k=(l.length-(k+1))+1 by omega,KB,JY]
   refine I.vm2 (mc:=mQ [4,5,6,24,25,43]) (cur:=3) (Pq:=fun J ex'=>J=t.1/\ex'=xT v r l.length k (!(t.1.getD k default)&&tL (l.getD r default) (l.getD k default))) j ?_ ?_
   ·simp_all[e9]
   rintro _ _ ρ2 a2 w2 ⟨rfl,rfl⟩ G
   have Gx:=G.bool 43 (by decide) rfl;have u:mF l r t k=cond (!(t.1.getD k default)&&tL (l.getD r default) (l.getD k default)) (t.1.set k true,t.2++[(k:Int)]) t:=by
    grind [mF]
   cases hb:(!(t.1.getD k default)&&tL (l.getD r default) (l.getD k default)) with
   |true=>
    rw[hb] at Gx G u;rw[QY] at u;refine wp_cond_true Gx (wp_seq ?_);refine G.vm (mc:=mQ [4,5,6,24,25]) (cur:=3) (Pq:=fun J ex'=>J=t.1.set k true/\ex'=xK v r l.length k) j ?_ ?_
    ·grind [km]
    rintro _ _ ρ3 a3 w3 ⟨rfl,rfl⟩ hS3
    refine aPw hN (by grind) hS3 fun v4 b4 a4 w4 hS4=>?_
    show Lm.wp prog _ a4 w4;refine hS4.vm (mc:=mQ [4,5,24,25]) (cur:=2) (Pq:=fun J ex'=>J=t.1.set k true/\ex'=xI v4 r l.length ((k+1:Nat):Int)) j ?_ ?_
    ·grind [e13,dX]
    rintro _ _ ρ5 S L ⟨rfl,rfl⟩ Z
    show Code.rounds prog qIB Qx n S L;rw[u] at V f;refine ih (k+1) (t.1.set k true,t.2++[(k:Int)]) v4 b4 ρ5 S L KI KI V.1 KI hr ?_ ?_
    ·grind
    grind
   |false=>
    rw[hb] at Gx G u;rw[QK] at u;refine wp_cond_false Gx (wp_skip ?_);show Lm.wp prog _ a2 w2;refine G.vm (mc:=mQ [4,5,24,25]) (cur:=2) (Pq:=fun J ex'=>J=t.1/\ex'=xI v r l.length ((k+1:Nat):Int)) j ?_ ?_
    ·grind [aYS,dX]
    rintro _ _ ρ5 S L ⟨rfl,rfl⟩ Z
    show Code.rounds prog qIB Qx n S L;rw[u] at f;exact ih (k+1) t v b ρ5 S L KI KI O hi hr Z fun t' v' b' ρ' a' w' q1 q2 q3 q4=>hQ t' v' b' ρ' a' w' q1 (q2.trans f.symm) q3 q4
  ·rw[dB (show ¬(k:Int)<(l.length:Int) by omega)] at Gy I;refine wp_seq (wp_cond_false Gy (wp_exit ?_));refine hQ t v b ρ1 a1 w1 O ?_ hi (I.less (aK6 _ _ _ _ _));simp_all
theorem outer (f:fY iF w0) (hN:∀x,N x->x<w0.heap.size) (I:l.length<=100):∀(n i:Nat) (t:List Bool×zzI) (v:Value) (b:Nat) (ρ:Vm.Own) (a:Act) (w:World),l.length<n+i->i<=t.2.length->mZ l t->
  QS N w0 l t.1 (xQ v) v b (t.2.drop i) ρ a w->(∀J b' L ρ' a' w',mZ l (uN l n i t)->QS N w0 l (uN l n i t).1 (xQ J) J b' L ρ' a' w'->Qx (.exit 0) a' w')->Code.rounds prog qLB Qx n a w:=by
 intro n
 induction n with
 |zero=>
  intro i t v b ρ a w h1 h2 u;have:=u.le;omega
 |succ n ih=>
  intro i t v b ρ a w h1 h2 u hS G;rw[rounds_succ]
  suffices Z:(Code.seq (.seq qR4 (.cond (.tmp 17) .skip (.exit 0))) (.block 1 (.seq (cF qB1) (.seq (cF (cS qB1)) (.seq qR7 (.block 2 (.loop qIB))))))).wp prog (Exit.then (Code.rounds prog qLB Qx n) Qx) a w by
   assumption
  refine wp_seq (wp_seq (aPq hS fun a1 Yg j=>?_));unfold uN at G
  by_cases hi:i<t.2.length
  ·rw[dD hi,QY] at G;rw[dD (by grind)] at Yg;refine wp_cond_true Yg (wp_skip ?_);obtain⟨g1,g2⟩:=u.get hi;obtain⟨r,hr⟩:∃r:Nat,t.2.getD i default=r:=⟨(t.2.getD i default).toNat,KI⟩;rw[nR t.2 i hi,hr] at j;rw[hr] at G g2;refine wp_block (wp_seq (aPn j fun a2 V=>wp_seq (aPk V fun v3 a3 S=>wp_seq ?_)));refine S.vm (mc:=mQ [4,5,24,25]) (cur:=1) (Pq:=fun m' ex'=>m'=t.1/\ex'=xI v3 r l.length ((0:Nat):Int)) f ?_ ?_
   ·grind [e7]
   rintro _ _ ρ4 a4 w4 ⟨rfl,rfl⟩ O
   refine wp_block (wp_loop_rounds (l.length+1) ?_);refine inner f hN I (i:=i) (r:=r) (l.length+1) 0 t v3 b ρ4 a4 w4 KI KI u hi KI O fun t' J b' ρ' a' w' q1 q2 q3 q4=>?_
   show Code.rounds prog qLB Qx n a' w';grind [uc,List.range_eq_range']
  ·rw[dB hi,QK] at G;rw[dB (by grind)] at Yg;refine wp_cond_false Yg (wp_exit ?_);exact G v b _ ρ a1 w u j
end
end
end Go.Proofs.YtgcpildegdgekaaGreatDoor
namespace Go.Proofs.YtgcpildegdgekaaGreatDoor
open Go.Proofs.Tryz
open Go.RowKit Go.Vm
noncomputable section
def mT:Nat->Nat->Nat->Canon UU:=fun o b r=>cond (Nat.beq b 4) ⟨[2,52,53,54],[],[(.tmp 52,61,.bool)],[],[]⟩ ⟨[],[],[],[],[]⟩
def stT (m:List Bool) (i:Int):ASt UU:=⟨fun u=>cond (Nat.beq u 2) .any (cond (Nat.beq u 52) (.osl 61 0) (cond (Nat.beq u 53) (.int .i64 m.length) (cond (Nat.beq u 54) (.int .i64 i) .any))),fun u=>cond (Nat.beq u 61) (some (.row .bool 0 m)) none⟩
def bT (F n r:Nat) (m:List Bool) (i:Int) (Post:aC UU->Prop):Prop:=iter (cX (aU mT F 0 iF) iF f169.ntmps mT F 4 (cL (cB (cS (cF qTL))))) (mT 0 4) n r (stT m i) (bW 4 (cA (aU mT F 0 iF) iF f169.ntmps mT F 0 (cS qTL) (bN iF false f169 Post)))
theorem stepT (F n r:Nat) (m:List Bool) (i:Int) (Post:aC UU->Prop):bT F (n+1) r m i Post=cond (decide (i<(m.length:Int))) ((0<=i/\i<(m.length:Int))/\cond (!(m.getD i.toNat default)) (Post (.bool false)) (bT F n (r+1) m (aB (i+1)) Post)) (Post (.bool true)):=KA
theorem aX4 (F:Nat) (l:List aA) (m:List Bool) (v:Value) (Post:aC UU->Prop):exec iF f169.ntmps mT F 0 qTL (stQ l m (xQ v)) (bN iF false f169 Post)=bT F F 0 m 0 Post:=KA
theorem bBW (l:List aA) (m:List Bool) (v:Value) (hm:m.length<=1000) (Post:aC UU->Prop) (h:Post (.bool (!(m.any fun x=>!x)))):exec iF f169.ntmps mT (m.length+1) 0 qTL (stQ l m (xQ v)) (bN iF false f169 Post):=by
 rw[aX4];refine uB m (fun x=>!x) (Post (.bool false)) (Post (.bool true)) (fun n i=>∀r,bT (m.length+1) n r m i Post) (fun n i hi j hw r=>?_) (fun n f r=>?_) (m.length+1) KI (fun q=>?_) (fun q=>?_) 0
 ·grind [stepT,dX]
 ·grind [stepT]
 ·grind
 grind
def aJ0 (N:Nat->Prop) (w0:World) (Post:aC UU->Prop) (a':Act) (w':World):Prop:=
 a'.defers=[]/\∃v,(results f169 a'.tmps).run prog w'=.ok v w'/\∃r,Post r/\jT EE w0.heap.size N w' r v/\Below w0.heap.size w0 w'
theorem aWk {N N':Nat->Prop} {w0:World} {Post:aC UU->Prop} {F:Fr} {e:AEx} {s':ASt UU} {ρ':Vm.Own} {a':Act} {w':World} (h:bN iF false f169 Post e s') (hR:RR EE 61 N' F ρ' s' a' w') (V:F.w0=w0) (u:F.ds=[]) (L:∀b,N b->N' b) (J:∀b,N b->b<w0.heap.size):
  (e=.normal\/e=.ret)/\aJ0 N w0 Post a' w':=by
 have G:RR EE 61 N F ρ' s' a' w':=hR.jr L;have f:∃r,result iF false f169 s'=some r/\Post r:=by
  cases f:result iF false f169 s' with
  |none=>exfalso;cases e<;>simp[bN,f] at h
  |some r=>cases e<;>simp only[bN,f] at h<;>exact⟨r,rfl,h⟩
 have he:e=.normal\/e=.ret:=by
  cases e with
  |normal=>grind
  |exit id=>exact h.elim
  |ret=>grind
 obtain⟨r,f,O⟩:=f;obtain⟨v,S,j⟩:=Uk (C:=iF) (w0:=F) (N:=N) G (fun b hb=>by
  grind [Fr.heap]) f
 have I:=hR.defers;rw[u] at I;have hb:=hR.below;unfold Fr.heap at j hb;rw[V] at j hb;exact⟨he,I,v,S,r,O,j,hb⟩
theorem aZE {l:List aA} {t:List Bool×zzI} (h:mZ l t):(!(t.1.any fun x=>!x))=((t.2.length:Int)==(l.length:Int)):=by
 rw[Bool.eq_iff_iff,h.cnt,<- h.len];grind [List.count_eq_length]
theorem aPt {N:Nat->Prop} {w0:World} {l:List aA} {m:List Bool} {ρ:Vm.Own} {a:Act} {w:World} {Q:Exit->Act->World->Prop} (I:∀x,N x->x<w0.heap.size) (hR:RR EE 61 N (Fr.pure w0) ρ (stQ l m fun _=>.any) a w)
  (G:∀v b a' w',QS N w0 l m (xQ v) v b [0] ρ a' w'->Q .normal a' w'):(cF (cS (cS (cS cq)))).wp prog Q a w:=by
 rw[aPv];refine wp_region (rT ?_);rw[aPu];refine gY (d:=14) KA KA (aHJ (x:=.const (.int .i64 0)) KA rfl) ?_;have u:=QS.start I hR 0;have j:=u.got (d:=14) (by decide) (.slice (some ⟨w.heap.size,0,none⟩) 1 1);have f:=u.free (d:=14) (by decide) rfl (.slice (some ⟨w.heap.size,0,none⟩) 1 1);generalize a.put (some 14) (.slice (some ⟨w.heap.size,0,none⟩) 1 1)=O at j f;refine gY (d:=4) KA KA (Bu (x:=.tmp 14) KA) ?_;rw[j];exact G _ _ _ _ (f.put (d:=4) (ex':=xQ (.slice (some ⟨w.heap.size,0,none⟩) 1 1)) (by decide) (fun J=>.raw _) rfl fun t L=>by grind [stQ,xQ,fX])
theorem aZD {l:List aA} (Z:1<=l.length) (V:l.length<=100) {N:Nat->Prop} {w:World} {args:Array Value} (hi:iF.inv w) (S:∀b,N b->b<w.heap.size) (j:tA EE w N [.sl .rect l] args):
  Calls prog 169 args w fun e w'=>∃v,e=.returned v/\jT EE w.heap.size N w' (.bool (rM l)) v/\Below w.heap.size w w':=by
 have f:fY iF w:=uo.at hi;refine calls_of_wp (c:=cq) func169 KA ?_;have hsz:args.size=1:=j.1;have hR:RR EE f169.ntmps N (Fr.pure w) cO (gK [.sl .rect l]) {tmps:=args++Array.replicate (f169.ntmps-args.size) undef,defers:=[]} w:=by
  refine⟨rfl,by simp_all,fun t=>?_,(fun id ob ho=>by cases ho),(fun id g u G=>by cases G),(fun _ _ _ _ _ _ _ G=>by cases G),Below.refl _ _,fun b hb=>.inl (S b hb),⟨QP _,fun b hb=>hb.elim⟩,(fun _ _ _ _ G=>by cases G),(fun _ _ h=>by cases h),by decide⟩;exact Xv (fun _=>rfl) (by simp_all) (by decide) hsz (fun k hk=>(j.2 k hk).mono (fun b hb=>⟨⟨hb.1,hb.2,fun _ _ _ G=>by cases G⟩,rfl⟩) (fun _ _ _ G=>by cases G)) t
 refine(show ∀{Q:Exit->Act->World->Prop},(∀e,(e=.normal\/e=.ret)->∀a' w',aJ0 N w (fun r=>r=.bool (rM l)) a' w'->Q e a' w')->cq.wp prog Q {tmps:=args++Array.replicate (f169.ntmps-args.size) undef,defers:=[]} w from fun {Q} hQ=>?_) ?_
 ·rw[aYr];have h0:exq 0 (cF cq) (gK [.sl .rect l]) (ksq 0 (cF (cS cq)) (ksq 0 (cF (cS (cS cq))) (fU (mQ []) (fun s'=>s'=stQ l ((List.replicate l.length false).set 0 true) fun _=>.any) KF))):=by
   grind [e0]
  refine O9 (F:=Fr.pure w) f (fun _=>rfl) hR h0 (fun e s' he h=>by cases e<;>first|exact he rfl|exact h) fun s1 ρ1 a1 w1 h1' hR1=>?_
  refine O9 (F:=Fr.pure w) f (fun _=>rfl) hR1 h1' aHh fun s2 ρ2 a2 w2 h2' hR2=>?_
  refine wp_seq (P0 (F:=Fr.pure w) f (fun _=>rfl) hR2 h2' fun s3 ρ3 a3 w3 hK hR3=>?_);subst hK;refine wp_seq (aPt S hR3 fun v b a4 w4 hS4=>wp_seq (wp_block (wp_loop_rounds (l.length+1) ?_)));refine outer f S V (l.length+1) 0 ((List.replicate l.length false).set 0 true,[0]) v b ρ3 a4 w4 KI KI (mZ.start Z) hS4 fun v' b' xs' ρ' a' w' hc hS=>?_
  show qTL.wp prog Q a' w';obtain⟨we,hlt,hle,hR'⟩:=hS.rr;have L:=aZE hc;refine uG (C:=iF) (w0:=FQ w we b' hlt hle) f mixed (fun _ _ _ _ _ h=>by cases h) qTL 0 _ _ ρ' a' w' Q (bBW l _ v' (by rw[hc.len];omega) (fun r=>r=.bool (rM l)) (by rw[L];rfl)) hR' (fun e s' ρ'' J I hK O=>?_);obtain⟨q1,q2⟩:=aWk hK O rfl rfl (fun _ h=>.inl h) S;rcases q1 with rfl|rfl
  ·exact hQ .normal (.inl rfl) J I q2
  ·exact hQ .ret (.inr rfl) J I q2
 ·rintro e (rfl|rfl) a' w' ⟨hd,v,Z,r,rfl,V,h3⟩
  ·exact⟨hd,v,Z,v,rfl,V,h3⟩
  ·exact⟨hd,v,Z,v,rfl,V,h3⟩
def aBb:Model UU
 |[.sl .rect l]=>some ([1<=l.length/\l.length<=100],.bool (rM l))
 |_=>none
def n9:Cfg UU:=iF.add 169 aBb
theorem aOO:aE n9:=by
 refine uo.put ⟨fun f w=>lE (fn:=f169) func169 KA rfl f w,?_⟩;intro N w f xs J r u I j hm G;unfold aBb at hm;split at hm
 ·rename_i l;cases hm;exact aZD G.1 G.2 u I j
 grind
def Zv (F:Nat):=cX (aU wV F 0 n9) n9 f126.ntmps wV F
def Q3 (F:Nat):=cA (aU wV F 0 n9) n9 f126.ntmps wV F
def de (k:ASt UU->Prop):Da:=(fun I G u j f J L O S aF V Z=>k ⟨tmL [(1,.ptr 1 0),(3,.i I),(4,.i G),(80,.sl .rect u),(81,.i j),(82,.i f)],obL [(1,.cells [.str J,.str L,.i O,.i S,.sl .rect aF,.sl .rect V,.sl .rect Z])]⟩)
def Xq (k:ASt UU->Prop):zV:=(fun u j f G I J L V O S=>k ⟨tmL [(1,.ptr 1 0),(2,.any),(102,.sl .rect u),(103,.i j),(104,.i f)],obL [(1,.cells [.str G,.str I,.i J,.i L,.sl .rect V,.sl .rect O,.sl .rect S])]⟩)
def dc (k:ASt UU->Prop):K4:=(fun G u j f I J L O Z S V=>k ⟨tmL [(1,.ptr 1 0),(2,.i G),(102,.sl .rect u),(103,.i j),(104,.i f)],obL [(1,.cells [.str I,.str J,.i L,.i O,.sl .rect Z,.sl .rect S,.sl .rect V])]⟩)
def db (k:ASt UU->Prop):zU:=(fun J I G u j f Z aZ aY aX aF aW aV L O S V=>k ⟨tmL [(1,.ptr 1 0),(2,.any),(8,.ptr 8 0),(102,.sl .rect J),(103,.i I),(104,.i G),(112,.sl .rect u),(113,.i j),(114,.i f)],obL [(1,.cells [.str Z,.str aZ,.i aY,.i aX,.sl .rect aF,.sl .rect aW,.sl .rect aV]),(8,.cells [.i L,.i O,.i S,.i V])]⟩)
def aDW (k:ASt UU->Prop):ng:=(fun Z J I G u j f bA aZ aY aX aF aW aV L O S V=>k ⟨tmL [(1,.ptr 1 0),(2,.i Z),(8,.ptr 8 0),(102,.sl .rect J),(103,.i I),(104,.i G),(112,.sl .rect u),(113,.i j),(114,.i f)],obL [(1,.cells [.str bA,.str aZ,.i aY,.i aX,.sl .rect aF,.sl .rect aW,.sl .rect aV]),(8,.cells [.i L,.i O,.i S,.i V])]⟩)
def bAN:=(cL (cB (cS (cF (cS (cS (cS (bo f126))))))))
def C4:=(cL (cB (cS (cF (cS4 (cS (bo f126)))))))
def bAM:=(cL (cB (cS (cS (cB (cF (cS (cS C4))))))))
def H7 (F:Nat) (K:zK) (n r:Nat):Da:=de fun s=>iter (Zv F 1 bAN) (wV 0 1) n r s K
def Qs (F:Nat) (K:zK) (n r:Nat):zV:=Xq fun s=>iter (Zv F 3 C4) (wV 0 3) n r s K
def H6 (F:Nat) (K:zK) (n r:Nat):zU:=db fun s=>iter (Zv F 5 bAM) (wV 0 5) n r s K
def aEX (F:Nat) (Post:aC UU->Prop):zK:=bW 1 (Q3 F 0 (cS4 (bo f126)) (bN n9 false f126 Post))
def aEW (F:Nat) (Post:aC UU->Prop):zK:=bW 3 (Q3 F 0 (cS4 (cS (cS (bo f126)))) (bN n9 false f126 Post))
def aEV (F n r:Nat) (K:zK):zK:=bW 5 (bW 4 (Q3 F 3 (cS (cS (cS C4))) (lT (Zv F 3 C4) (wV 0 3) n r K)))
theorem aCa (F:Nat) (K:zK):∀n r,H6 F K n r=Sm F (aDW (K .ret)) (db (K (.exit 5))) n
 |0,_=>KA
 |n+1,r=>QG (b:=aGV (H6 F K n (r+1)) (aDW (K .ret)) (db (K (.exit 5)))) KA (by rewrite[aCa F K n (r+1)];kernel_rfl)
theorem aSr (F n r:Nat) (K:zK):H6 F (aEV F n r K) F 0=W8 F (Qs F K n (r+1)) (Xq (K (.exit 3))) (dc (K .ret)):=
 (aCa F _ F 0).trans KA
theorem aCb (F:Nat) (K:zK):∀n r,Qs F K n r=Es F (Xq (K (.exit 3))) (dc (K .ret)) n
 |0,_=>KA
 |n+1,r=>QG (b:=aGW (Qs F K n (r+1)) (Xq (K (.exit 3))) (dc (K .ret)) (H6 F (aEV F n r K) F 0)) KA (by rewrite[aSr F n r K,aCb F K n (r+1)];kernel_rfl)
theorem aSs (F:Nat) (Post:aC UU->Prop):Qs F (aEW F Post) F 0=Wo F (fun f=>Post (.i f)):=
 (aCb F _ F 0).trans KA
theorem aCc (F:Nat) (K:zK):∀n r,H7 F K n r=Kh F (de (K (.exit 1))) n
 |0,_=>KA
 |n+1,r=>QG (b:=aGX (H7 F K n (r+1)) (de (K (.exit 1)))) KA (by rewrite[aCc F K n (r+1)];kernel_rfl)
theorem aSt (F:Nat) (Post:aC UU->Prop):H7 F (aEX F Post) F 0=W9 F (fun f=>Post (.i f)):=
 (aCc F _ F 0).trans (QG (b:=Kh F (ie (fun f=>Post (.i f)) (Qs F (aEW F Post) F 0)) F) KA (by rewrite[aSs F Post];kernel_rfl))
def aA3:Model UU
 |[.agg [.str J,.str I,.int .i64 G,.int .i64 u,.sl .rect L,.sl .rect j,.sl .rect f]]=>some ([Uw J I G u L j f],.i (Ks J I G u L j f))
 |_=>none
def l9:Cfg UU:=n9.add 126 aA3
theorem aNG:aE l9:=dN aOO mixed func126 KA KA fun xs Z r h S=>by
 unfold aA3 at h;split at h
 ·rename_i L J I G O u j;cases h;obtain⟨F,hF⟩:=aR5 L J I G O u j S;exact⟨KA,wV,F,false,fS fun Post V=>fT (QG (b:=ic L J I G O u j (fun f=>Post (.i f)) (H7 F (aEX F Post) F 0)) KA (by rewrite[aSt F Post];kernel_rfl)) (hF (fun f=>Post (.i f)) V)⟩
 ·cases h
def aH3 (F:Nat):=cX (aU Dg F 0 l9) l9 f82.ntmps Dg F
def wa (F:Nat):=cA (aU Dg F 0 l9) l9 f82.ntmps Dg F
def Nj (k:ASt UU->Prop):Cx:=(fun G u j f I J L O Z S V=>k ⟨tmL [(1,.ptr 1 0),(2,.i G),(10,.sl .rect u),(11,.i j),(12,.i f)],obL [(1,.cells [.str I,.str J,.i L,.i O,.sl .rect Z,.sl .rect S,.sl .rect V])]⟩)
def bj (k:ASt UU->Prop):Cw:=(fun I G u j f J L O S aF V Z=>k ⟨tmL [(1,.ptr 1 0),(5,.i I),(6,.i G),(37,.sl .rect u),(38,.i j),(39,.i f)],obL [(1,.cells [.str J,.str L,.i O,.i S,.sl .rect aF,.sl .rect V,.sl .rect Z])]⟩)
def aZr:=(cL (cB (cS (cF (cS (bo f82))))))
def aZq:=(cL (cB (cS (cF (cS4 (bo f82))))))
def F5 (F:Nat) (K:zK) (n r:Nat):Cx:=Nj fun s=>iter (aH3 F 0 aZr) (Dg 0 0) n r s K
def F4 (F:Nat) (K:zK) (n r:Nat):Cw:=bj fun s=>iter (aH3 F 2 aZq) (Dg 0 2) n r s K
def aDu (F:Nat) (Post:aC UU->Prop):zK:=bW 0 (wa F 0 (cS (cS (bo f82))) (bN l9 false f82 Post))
def aDt (F:Nat) (Post:aC UU->Prop):zK:=bW 2 (wa F 0 (cS4 (cS (bo f82))) (bN l9 false f82 Post))
theorem aCH (F:Nat) (K:zK):∀n r,F4 F K n r=Sc F (bj (K (.exit 2))) n
 |0,_=>KA
 |n+1,r=>QG (b:=aFf (F4 F K n (r+1)) (bj (K (.exit 2)))) KA (by rewrite[aCH F K n (r+1)];kernel_rfl)
theorem aSY (F:Nat) (Post:aC UU->Prop):F4 F (aDt F Post) F 0=V6 F (fun f=>Post (.i f)):=
 (aCH F _ F 0).trans KA
theorem aCI (F:Nat) (K:zK):∀n r,F5 F K n r=Jw F (Nj (K .ret)) (Nj (K (.exit 0))) n
 |0,_=>KA
 |n+1,r=>QG (b:=aFg (F5 F K n (r+1)) (Nj (K .ret)) (Nj (K (.exit 0)))) KA (by rewrite[aCI F K n (r+1)];kernel_rfl)
theorem aSZ (F:Nat) (Post:aC UU->Prop):F5 F (aDu F Post) F 0=Wf F (fun f=>Post (.i f)):=
 (aCI F _ F 0).trans (QG (b:=Jw F (aFj (fun f=>Post (.i f))) (aFi (fun f=>Post (.i f)) (F4 F (aDt F Post) F 0)) F) KA (by rewrite[aSY F Post];kernel_rfl))
def aAR:Model UU
 |[.agg [.str J,.str I,.int .i64 G,.int .i64 u,.sl .rect L,.sl .rect j,.sl .rect f]]=>some ([R5 J I G u L j f],.i (Fa J I G u L j f))
 |_=>none
def wY:Cfg UU:=l9.add 82 aAR
theorem aMu:aE wY:=dN aNG mixed func82 KA KA fun xs Z r h S=>by
 unfold aAR at h;split at h
 ·rename_i L J I G O u j;cases h;obtain⟨F,hF⟩:=aRT L J I G O u j S;exact⟨KA,Dg,F,false,fS fun Post V=>fT (QG (b:=aFh L J I G O u j (fun f=>Post (.i f)) (F5 F (aDu F Post) F 0)) KA (by rewrite[aSZ F Post];kernel_rfl)) (hF (fun f=>Post (.i f)) V)⟩
 ·cases h
def wO (F:Nat):=cX (aU pZ F 0 wY) wY f39.ntmps pZ F
def Fs (F:Nat):=cA (aU pZ F 0 wY) wY f39.ntmps pZ F
def My (k:ASt UU->Prop):oZ:=(fun G u j f L O S V aF Z aV I J=>k ⟨tmL [(1,.ptr 1 0),(2,.i G),(29,.sl .pc u),(30,.i j),(31,.i f)],obL [(1,.cells [.str L,.str O,.i S,.i V,.i aF,.i Z,.sl .rect aV,.sl .rect I,.sl .pc J])]⟩)
def Be (k:ASt UU->Prop):zS:=(fun G u j f Z aZ aY aX aF aW aV S V O L J I=>k ⟨tmL [(1,.ptr 1 0),(2,.i G),(7,.ptr 7 0),(49,.sl .pc u),(50,.i j),(51,.i f)],obL [(1,.cells [.str Z,.str aZ,.i aY,.i aX,.i aF,.i aW,.sl .rect aV,.sl .rect S,.sl .pc V]),(7,.cells [.i O,.i L,.i J,.i I])]⟩)
def Mx (k:ASt UU->Prop):Cu:=(fun L J I G u j f bA aZ aY aX aF aW aV bV bR Z V S O=>k ⟨tmL [(1,.ptr 1 0),(2,.i L),(7,.ptr 7 0),(49,.sl .pc J),(50,.i I),(51,.i G),(56,.sl .rect u),(57,.i j),(58,.i f)],obL [(1,.cells [.str bA,.str aZ,.i aY,.i aX,.i aF,.i aW,.sl .rect aV,.sl .rect bV,.sl .pc bR]),(7,.cells [.i Z,.i V,.i S,.i O])]⟩)
def Bd (k:ASt UU->Prop):oZ:=(fun G u j f L O S V aF Z aV I J=>k ⟨tmL [(1,.ptr 1 0),(2,.i G),(83,.sl .pc u),(84,.i j),(85,.i f)],obL [(1,.cells [.str L,.str O,.i S,.i V,.i aF,.i Z,.sl .rect aV,.sl .rect I,.sl .pc J])]⟩)
def Bc (k:ASt UU->Prop):zR:=(fun L J I G u j f bA aZ aY aX aF aW aV bV bR Z iL gX gW V O S=>k ⟨tmL [(1,.ptr 1 0),(2,.i L),(13,.ptr 13 0),(83,.sl .pc J),(84,.i I),(85,.i G),(93,.sl .pc u),(94,.i j),(95,.i f)],obL [(1,.cells [.str bA,.str aZ,.i aY,.i aX,.i aF,.i aW,.sl .rect aV,.sl .rect bV,.sl .pc bR]),(13,.cells [.str Z,.str iL,.i gX,.i gW,.sl .rect V,.sl .rect O,.sl .rect S])]⟩)
def Mw (k:ASt UU->Prop):Ct:=(fun V S O L J I G u j f bA aZ aY aX aF aW aV bV bR iM iL gX gW oE Z pT Qb Qa Pz Py Cb Px Pw=>k ⟨tmL [(1,.ptr 1 0),(2,.i V),(13,.ptr 13 0),(15,.ptr 15 0),(83,.sl .pc S),(84,.i O),(85,.i L),(93,.sl .pc J),(94,.i I),(95,.i G),(100,.sl .rect u),(101,.i j),(102,.i f)],obL [(1,.cells [.str bA,.str aZ,.i aY,.i aX,.i aF,.i aW,.sl .rect aV,.sl .rect bV,.sl .pc bR]),(13,.cells [.str iM,.str iL,.i gX,.i gW,.sl .rect oE,.sl .rect Z,.sl .rect pT]),(15,.cells [.str Qb,.str Qa,.i Pz,.i Py,.sl .rect Cb,.sl .rect Px,.sl .rect Pw])]⟩)
def aZa:=(cL (cB (cS (cF (cS (cS (cS (bo f39))))))))
def B7:=(cL (cB (cS (cF (cS4 (cS (bo f39)))))))
def aZ9:=(cL (cB (cS (cS (cB (cF (cS (cS B7))))))))
def B6:=(cL (cB (cS (cF (cS4 (cS (cS (bo f39))))))))
def B5:=(cL (cB (cS (cS (cB (cF (cS (cS B6))))))))
def aZ8:=(cL (cB (cS (cS (cB (cF (cS (cS B5))))))))
def D8 (F:Nat) (K:zK) (n r:Nat):oZ:=My fun s=>iter (wO F 0 aZa) (pZ 0 0) n r s K
def Qi (F:Nat) (K:zK) (n r:Nat):zS:=Be fun s=>iter (wO F 2 B7) (pZ 0 2) n r s K
def D7 (F:Nat) (K:zK) (n r:Nat):Cu:=Mx fun s=>iter (wO F 4 aZ9) (pZ 0 4) n r s K
def Qh (F:Nat) (K:zK) (n r:Nat):oZ:=Bd fun s=>iter (wO F 6 B6) (pZ 0 6) n r s K
def Qg (F:Nat) (K:zK) (n r:Nat):zR:=Bc fun s=>iter (wO F 8 B5) (pZ 0 8) n r s K
def D6 (F:Nat) (K:zK) (n r:Nat):Ct:=Mw fun s=>iter (wO F 10 aZ8) (pZ 0 10) n r s K
def aDa (F:Nat) (Post:aC UU->Prop):zK:=bW 0 (Fs F 0 (cS4 (bo f39)) (bN wY false f39 Post))
def aD9 (F:Nat) (Post:aC UU->Prop):zK:=bW 2 (Fs F 0 (cS4 (cS (cS (bo f39)))) (bN wY false f39 Post))
def aD8 (F n r:Nat) (K:zK):zK:=bW 4 (bW 3 (Fs F 2 (cS (cS (cS B7))) (lT (wO F 2 B7) (pZ 0 2) n r K)))
def aD7 (F:Nat) (Post:aC UU->Prop):zK:=bW 6 (Fs F 0 (cS4 (cS (cS (cS (bo f39))))) (bN wY false f39 Post))
def aD6 (F n r:Nat) (K:zK):zK:=bW 8 (bW 7 (Fs F 6 (cS (cS (cS B6))) (lT (wO F 6 B6) (pZ 0 6) n r K)))
def aD5 (F n r:Nat) (K:zK):zK:=bW 10 (bW 9 (Fs F 8 (cS (cS (cS B5))) (lT (wO F 8 B5) (pZ 0 8) n r K)))
theorem aBm (F:Nat) (K:zK):∀n r,D7 F K n r=Rs F (Mx (K .ret)) (Mx (K (.exit 4))) n
 |0,_=>KA
 |n+1,r=>QG (b:=aFJ (D7 F K n (r+1)) (Mx (K .ret)) (Mx (K (.exit 4)))) KA (by rewrite[aBm F K n (r+1)];kernel_rfl)
theorem aSD (F n r:Nat) (K:zK):D7 F (aD8 F n r K) F 0=U8 F (Qi F K n (r+1)) (Be (K (.exit 2))) (Be (K .ret)):=
 (aBm F _ F 0).trans KA
theorem aBj (F:Nat) (K:zK):∀n r,D6 F K n r=Rr F (Mw (K .ret)) (Mw (K (.exit 10))) n
 |0,_=>KA
 |n+1,r=>QG (b:=aFG (D6 F K n (r+1)) (Mw (K .ret)) (Mw (K (.exit 10)))) KA (by rewrite[aBj F K n (r+1)];kernel_rfl)
theorem aSA (F n r:Nat) (K:zK):D6 F (aD5 F n r K) F 0=U6 F (Qg F K n (r+1)) (Bc (K (.exit 8))) (Bc (K .ret)):=
 (aBj F _ F 0).trans KA
theorem aBk (F:Nat) (K:zK):∀n r,Qg F K n r=El F (Bc (K (.exit 8))) (Bc (K .ret)) n
 |0,_=>KA
 |n+1,r=>QG (b:=aFH (Qg F K n (r+1)) (Bc (K (.exit 8))) (Bc (K .ret)) (D6 F (aD5 F n r K) F 0)) KA (by rewrite[aSA F n r K,aBk F K n (r+1)];kernel_rfl)
theorem aSB (F n r:Nat) (K:zK):Qg F (aD6 F n r K) F 0=U7 F (Qh F K n (r+1)) (Bd (K (.exit 6))) (Bd (K .ret)):=
 (aBk F _ F 0).trans KA
theorem aBl (F:Nat) (K:zK):∀n r,Qh F K n r=Em F (Bd (K (.exit 6))) (Bd (K .ret)) n
 |0,_=>KA
 |n+1,r=>QG (b:=aFI (Qh F K n (r+1)) (Bd (K (.exit 6))) (Bd (K .ret)) (Qg F (aD6 F n r K) F 0)) KA (by rewrite[aSB F n r K,aBl F K n (r+1)];kernel_rfl)
theorem aSC (F:Nat) (Post:aC UU->Prop):Qh F (aD7 F Post) F 0=yS F (fun f=>Post (.i f)):=
 (aBl F _ F 0).trans KA
theorem aBn (F:Nat) (K:zK):∀n r,Qi F K n r=o6 F (Be (K (.exit 2))) (Be (K .ret)) n
 |0,_=>KA
 |n+1,r=>QG (b:=aFK (Qi F K n (r+1)) (Be (K (.exit 2))) (Be (K .ret)) (D7 F (aD8 F n r K) F 0)) KA (by rewrite[aSD F n r K,aBn F K n (r+1)];kernel_rfl)
theorem aSE (F:Nat) (Post:aC UU->Prop):Qi F (aD9 F Post) F 0=Gg F (fun f=>Post (.i f)):=
 (aBn F _ F 0).trans (QG (b:=o6 F (Yl (fun f=>Post (.i f)) (Qh F (aD7 F Post) F 0)) (Yk (fun f=>Post (.i f))) F) KA (by rewrite[aSC F Post];kernel_rfl))
theorem aBo (F:Nat) (K:zK):∀n r,D8 F K n r=Jp F (My (K .ret)) (My (K (.exit 0))) n
 |0,_=>KA
 |n+1,r=>QG (b:=aFL (D8 F K n (r+1)) (My (K .ret)) (My (K (.exit 0)))) KA (by rewrite[aBo F K n (r+1)];kernel_rfl)
theorem aSF (F:Nat) (Post:aC UU->Prop):D8 F (aDa F Post) F 0=U9 F (fun f=>Post (.i f)):=
 (aBo F _ F 0).trans (QG (b:=Jp F (fw (fun f=>Post (.i f))) (fu (fun f=>Post (.i f)) (Qi F (aD9 F Post) F 0)) F) KA (by rewrite[aSE F Post];kernel_rfl))
def aAG:Model UU
 |[.agg [.str S,.str O,.int .i64 L,.int .i64 J,.int .i64 I,.int .i64 G,.sl .rect u,.sl .rect j,.sl .pc f]]=>some ([Lq S O L J I G u j f],.i (jK S O L J I G u j f))
 |_=>none
def aJ3:Cfg UU:=wY.add 39 aAG
theorem aMk:aE aJ3:=dN aMu mixed func39 KA KA fun xs cs r h Z=>by
 unfold aAG at h;split at h
 ·rename_i V S O L J I G u j;cases h;obtain⟨F,hF⟩:=aRI V S O L J I G u j Z;exact⟨KA,pZ,F,false,fS fun Post hP=>fT (QG (b:=ft V S O L J I G u j (fun f=>Post (.i f)) (D8 F (aDa F Post) F 0)) KA (by rewrite[aSF F Post];kernel_rfl)) (hF (fun f=>Post (.i f)) hP)⟩
 ·cases h
def aAg:Model UU
 |[.int .i64 a0,.int .i64 j,.int .i64 f]=>some ([],.agg [.i ((bM a0 j f).1),.i ((bM a0 j f).2.1),.i ((bM a0 j f).2.2.1),.i ((bM a0 j f).2.2.2.1),.i ((bM a0 j f).2.2.2.2.1),.i ((bM a0 j f).2.2.2.2.2)])
 |_=>none
def aJm:Cfg UU:=aJ3.add 15 aAg
theorem aNW:aE aJm:=tin aMk mixed func15 KA KA false fun xs f r h=>by
 unfold aAg at h;split at h
 ·cases h;exact⟨KA,KA⟩
 ·cases h
def aAc:Model UU
 |[.agg [.int .i64 u,.int .i64 G,.int .i64 f,.int .i64 j],.int .i64 I]=>some ([],.tup [.i ((bU u G f j I).1),.i ((bU u G f j I).2)])
 |_=>none
def aJj:Cfg UU:=aJm.add 44 aAc
theorem aNS:aE aJj:=dN aNW mixed func44 KA KA fun xs S r h O=>by
 unfold aAc at h;split at h
 ·rename_i I u j f G;cases h;refine⟨KA,M0,0,false,⟨of_eq (q:=(fun Q:Int->Int->Prop=>cond (u==f) (Q (aB (j-G)) f) (Q j (aB (f-G)))) fun L J=>(.tup [.i L,.i J]:aC UU)=.tup [.i ((bU I u j f G).1),.i ((bU I u j f G).2)]) KA ?_⟩⟩;unfold bU;cases (u==f)<;>rfl
 ·cases h
def aAj:Model UU
 |[.agg [.int .i64 u,.int .i64 G,.int .i64 f,.int .i64 j]]=>some ([],.new .op (Tr u G f j))
 |_=>none
def aJp:Cfg UU:=aJj.add 16 aAj
theorem aNZ:aE aJp:=tin aNS mixed func16 KA KA true fun xs f r h=>by
 unfold aAj at h;split at h
 ·cases h;exact⟨KA,KA⟩
 ·cases h
def aAk:Model UU
 |[.agg [.int .i64 u,.int .i64 G,.int .i64 f,.int .i64 j],.bool I]=>some ([],.tup [.new .op ((tP u G f j I).1),.new .op ((tP u G f j I).2)])
 |_=>none
def aJq:Cfg UU:=aJp.add 17 aAk
theorem aN0:aE aJq:=dN aNZ mixed func17 KA KA fun xs Z r h V=>by
 unfold aAk at h;split at h
 ·rename_i f j u G I;cases h;refine⟨KA,M0,0,true,⟨iY (fun Q:(List Opn)->(List Opn)->Prop=>cond I ((((2:Int)≠0)/\cond ((mi 720 (aB (Int.tdiv (aB ((aB ((aB (u-f))+G))-j)) 2)))==0) (Q ([(Opn.mk ((bM 1 f j).1) ((bM 1 f j).2.1) ((bM 1 f j).2.2.1) ((bM 1 f j).2.2.2.1) ((bM 1 f j).2.2.2.2.1) ((bM 1 f j).2.2.2.2.2)),(Opn.mk ((bM 2 ((bU f j u G (mi 720 (aB (Int.tdiv (aB ((aB ((aB (u-f))+G))-j)) 2)))).1) ((bU f j u G (mi 720 (aB (Int.tdiv (aB ((aB ((aB (u-f))+G))-j)) 2)))).2)).1) ((bM 2 ((bU f j u G (mi 720 (aB (Int.tdiv (aB ((aB ((aB (u-f))+G))-j)) 2)))).1) ((bU f j u G (mi 720 (aB (Int.tdiv (aB ((aB ((aB (u-f))+G))-j)) 2)))).2)).2.1) ((bM 2 ((bU f j u G (mi 720 (aB (Int.tdiv (aB ((aB ((aB (u-f))+G))-j)) 2)))).1) ((bU f j u G (mi 720 (aB (Int.tdiv (aB ((aB ((aB (u-f))+G))-j)) 2)))).2)).2.2.1) ((bM 2 ((bU f j u G (mi 720 (aB (Int.tdiv (aB ((aB ((aB (u-f))+G))-j)) 2)))).1) ((bU f j u G (mi 720 (aB (Int.tdiv (aB ((aB ((aB (u-f))+G))-j)) 2)))).2)).2.2.2.1) ((bM 2 ((bU f j u G (mi 720 (aB (Int.tdiv (aB ((aB ((aB (u-f))+G))-j)) 2)))).1) ((bU f j u G (mi 720 (aB (Int.tdiv (aB ((aB ((aB (u-f))+G))-j)) 2)))).2)).2.2.2.2.1) ((bM 2 ((bU f j u G (mi 720 (aB (Int.tdiv (aB ((aB ((aB (u-f))+G))-j)) 2)))).1) ((bU f j u G (mi 720 (aB (Int.tdiv (aB ((aB ((aB (u-f))+G))-j)) 2)))).2)).2.2.2.2.2))]) ([])) (Q ([(Opn.mk ((bM 1 f j).1) ((bM 1 f j).2.1) ((bM 1 f j).2.2.1) ((bM 1 f j).2.2.2.1) ((bM 1 f j).2.2.2.2.1) ((bM 1 f j).2.2.2.2.2)),(Opn.mk ((bM 2 ((bU f j u G (mi 720 (aB (Int.tdiv (aB ((aB ((aB (u-f))+G))-j)) 2)))).1) ((bU f j u G (mi 720 (aB (Int.tdiv (aB ((aB ((aB (u-f))+G))-j)) 2)))).2)).1) ((bM 2 ((bU f j u G (mi 720 (aB (Int.tdiv (aB ((aB ((aB (u-f))+G))-j)) 2)))).1) ((bU f j u G (mi 720 (aB (Int.tdiv (aB ((aB ((aB (u-f))+G))-j)) 2)))).2)).2.1) ((bM 2 ((bU f j u G (mi 720 (aB (Int.tdiv (aB ((aB ((aB (u-f))+G))-j)) 2)))).1) ((bU f j u G (mi 720 (aB (Int.tdiv (aB ((aB ((aB (u-f))+G))-j)) 2)))).2)).2.2.1) ((bM 2 ((bU f j u G (mi 720 (aB (Int.tdiv (aB ((aB ((aB (u-f))+G))-j)) 2)))).1) ((bU f j u G (mi 720 (aB (Int.tdiv (aB ((aB ((aB (u-f))+G))-j)) 2)))).2)).2.2.2.1) ((bM 2 ((bU f j u G (mi 720 (aB (Int.tdiv (aB ((aB ((aB (u-f))+G))-j)) 2)))).1) ((bU f j u G (mi 720 (aB (Int.tdiv (aB ((aB ((aB (u-f))+G))-j)) 2)))).2)).2.2.2.2.1) ((bM 2 ((bU f j u G (mi 720 (aB (Int.tdiv (aB ((aB ((aB (u-f))+G))-j)) 2)))).1) ((bU f j u G (mi 720 (aB (Int.tdiv (aB ((aB ((aB (u-f))+G))-j)) 2)))).2)).2.2.2.2.2))]) ([(Opn.mk ((bM 1 ((bU f j u G (mi 720 (aB (Int.tdiv (aB ((aB ((aB (u-f))+G))-j)) 2)))).1) ((bU f j u G (mi 720 (aB (Int.tdiv (aB ((aB ((aB (u-f))+G))-j)) 2)))).2)).1) ((bM 1 ((bU f j u G (mi 720 (aB (Int.tdiv (aB ((aB ((aB (u-f))+G))-j)) 2)))).1) ((bU f j u G (mi 720 (aB (Int.tdiv (aB ((aB ((aB (u-f))+G))-j)) 2)))).2)).2.1) ((bM 1 ((bU f j u G (mi 720 (aB (Int.tdiv (aB ((aB ((aB (u-f))+G))-j)) 2)))).1) ((bU f j u G (mi 720 (aB (Int.tdiv (aB ((aB ((aB (u-f))+G))-j)) 2)))).2)).2.2.1) ((bM 1 ((bU f j u G (mi 720 (aB (Int.tdiv (aB ((aB ((aB (u-f))+G))-j)) 2)))).1) ((bU f j u G (mi 720 (aB (Int.tdiv (aB ((aB ((aB (u-f))+G))-j)) 2)))).2)).2.2.2.1) ((bM 1 ((bU f j u G (mi 720 (aB (Int.tdiv (aB ((aB ((aB (u-f))+G))-j)) 2)))).1) ((bU f j u G (mi 720 (aB (Int.tdiv (aB ((aB ((aB (u-f))+G))-j)) 2)))).2)).2.2.2.2.1) ((bM 1 ((bU f j u G (mi 720 (aB (Int.tdiv (aB ((aB ((aB (u-f))+G))-j)) 2)))).1) ((bU f j u G (mi 720 (aB (Int.tdiv (aB ((aB ((aB (u-f))+G))-j)) 2)))).2)).2.2.2.2.2)),(Opn.mk ((bM 4 u G).1) ((bM 4 u G).2.1) ((bM 4 u G).2.2.1) ((bM 4 u G).2.2.2.1) ((bM 4 u G).2.2.2.2.1) ((bM 4 u G).2.2.2.2.2))])))) (Q ([(Opn.mk ((bM 1 f j).1) ((bM 1 f j).2.1) ((bM 1 f j).2.2.1) ((bM 1 f j).2.2.2.1) ((bM 1 f j).2.2.2.2.1) ((bM 1 f j).2.2.2.2.2)),(Opn.mk ((bM 2 ((bU f j u G 0).1) ((bU f j u G 0).2)).1) ((bM 2 ((bU f j u G 0).1) ((bU f j u G 0).2)).2.1) ((bM 2 ((bU f j u G 0).1) ((bU f j u G 0).2)).2.2.1) ((bM 2 ((bU f j u G 0).1) ((bU f j u G 0).2)).2.2.2.1) ((bM 2 ((bU f j u G 0).1) ((bU f j u G 0).2)).2.2.2.2.1) ((bM 2 ((bU f j u G 0).1) ((bU f j u G 0).2)).2.2.2.2.2))]) ([]))) (fun Q=>Q ((tP f j u G I).1) ((tP f j u G I).2)) (fun S O=>(.tup [.new .op S,.new .op O]:aC UU)=.tup [.new .op ((tP f j u G I).1),.new .op ((tP f j u G I).2)]) KA (fun Q h=>?_) rfl⟩⟩
  try dsimp only at h ⊢
  unfold tP at h;cases J:(I)
  ·try simp only[J,QK] at h ⊢
   exact h
  ·try simp only[J,QY] at h ⊢
   refine⟨by decide,?_⟩;cases L:((mi 720 (aB (Int.tdiv (aB ((aB ((aB (u-f))+G))-j)) 2)))==0)
   ·try simp only[L,QK] at h ⊢
    exact h
   ·try simp only[L,QY] at h ⊢
    exact h
 ·cases h
def aBP:Model UU
 |[.agg [.int .i64 G,.int .i64 u,.int .i64 j,.int .i64 f,.int .i64 I,.int .i64 J],.int .i64 L]=>some ([],.bool (xX G u j f I J L))
 |_=>none
def aKS:Cfg UU:=aJq.add 99 aBP
theorem aOC:aE aKS:=tin aN0 mixed func99 KA KA false fun xs f r h=>by
 unfold aBP at h;split at h
 ·cases h;exact⟨KA,KA⟩
 ·cases h
def aBS:Model UU
 |[.agg [.int .i64 I,.int .i64 J],.agg [.int .i64 G,.int .i64 u,.int .i64 j,.int .i64 f]]=>some ([],.i (N2 I J G u j f))
 |_=>none
def aKT:Cfg UU:=aKS.add 136 aBS
theorem aOF:aE aKT:=tin aOC mixed func136 KA KA false fun xs f r h=>by
 unfold aBS at h;split at h
 ·cases h;exact⟨KA,KA⟩
 ·cases h
def aBT:Model UU
 |[.agg [.int .i64 u,.int .i64 G,.int .i64 f,.int .i64 j],.int .i64 J,.int .i64 I]=>some ([],.agg [.i ((gH u G f j J I).1),.i ((gH u G f j J I).2.1),.i ((gH u G f j J I).2.2.1),.i ((gH u G f j J I).2.2.2.1),.i ((gH u G f j J I).2.2.2.2.1),.i ((gH u G f j J I).2.2.2.2.2)])
 |_=>none
def aKU:Cfg UU:=aKT.add 133 aBT
theorem aOG:aE aKU:=dN aOF mixed func133 KA KA fun xs cs r h hc=>by
 unfold aBT at h;split at h
 ·rename_i I J u G j f;cases h;refine⟨KA,M0,0,false,⟨of_eq (q:=(fun Q:Int->Int->Int->Int->Int->Int->Prop=>cond ((decide (j<0))||((decide (0<=f))&&(decide (f<j)))) (Q I J u G f j) (Q I J u G j f)) fun S Z V aPM L O=>(.agg [.i S,.i Z,.i V,.i aPM,.i L,.i O]:aC UU)=.agg [.i ((gH I J u G j f).1),.i ((gH I J u G j f).2.1),.i ((gH I J u G j f).2.2.1),.i ((gH I J u G j f).2.2.2.1),.i ((gH I J u G j f).2.2.2.2.1),.i ((gH I J u G j f).2.2.2.2.2)]) KA ?_⟩⟩;unfold gH;cases (((decide (j<0))||((decide (0<=f))&&(decide (f<j)))))<;>rfl
 ·cases h
def aBQ:Model UU
 |[.raw a0]=>some ([oM a0],.i (mC a0))
 |_=>none
def Ed:Cfg UU:=aKU.add 134 aBQ
theorem aOD:aE Ed:=dN aOG mixed func134 KA KA fun xs I r h u=>by
 unfold aBQ at h;split at h
 ·rename_i a0;cases h;refine⟨KA,M0,0,false,⟨iY (fun Q:Int->Prop=>((dO a0)/\cond (iG a0) (Q (Kl a0)) (Q (-1)))) (fun Q=>Q (mC a0)) (fun j=>(.i j:aC UU)=.i (mC a0)) KA (fun Q h=>?_) rfl⟩⟩
  try dsimp only at h ⊢
  unfold mC at h;have hp:oM a0:=u;unfold oM at hp;have G:=hp;refine⟨G,?_⟩;cases f:(iG a0)
  ·try simp only[f,QK] at h ⊢
   exact h
  ·try simp only[f,QY] at h ⊢
   exact h
 ·cases h
def kc (F:Nat):=cX (aU b5 F 0 Ed) Ed f90.ntmps b5 F
def wg (F:Nat):=cA (aU b5 F 0 Ed) Ed f90.ntmps b5 F
abbrev aJD:=Int->Int->List Pce->Int->Int->Prop
def Xo (k:ASt UU->Prop):aJD:=(fun I G u j f=>k ⟨tmL [(1,.i I),(2,.i G),(6,.raw Value.nilIface),(12,.sl .pc u),(13,.i j),(14,.i f)],obL []⟩)
abbrev bBd:=Int->Int->Value->List Pce->Int->Int->Prop
def ch (k:ASt UU->Prop):bBd:=(fun J I G u j f=>k ⟨tmL [(1,.i J),(2,.i I),(6,.raw G),(12,.sl .pc u),(13,.i j),(14,.i f)],obL []⟩)
abbrev aJC:=Int->Int->Int->List Pce->Int->Int->List aA->Int->Int->Prop
def cg (k:ASt UU->Prop):aJC:=(fun S O L J I G u j f=>k ⟨tmL [(1,.i S),(2,.i O),(6,.raw Value.nilIface),(7,.i L),(12,.sl .pc J),(13,.i I),(14,.i G),(20,.sl .rect u),(21,.i j),(22,.i f)],obL []⟩)
abbrev bBc:=Int->Int->Value->Int->List Pce->Int->Int->List aA->Int->Int->Prop
def aDV (k:ASt UU->Prop):bBc:=(fun V S O L J I G u j f=>k ⟨tmL [(1,.i V),(2,.i S),(6,.raw O),(7,.i L),(12,.sl .pc J),(13,.i I),(14,.i G),(20,.sl .rect u),(21,.i j),(22,.i f)],obL []⟩)
def C2:=(cL (cB (cS (cF (cS (bo f90))))))
def bAF:=(cL (cB (cS (cS (cB (cF (cS (cS C2))))))))
def Qq (F:Nat) (K:zK) (n r:Nat):aJD:=Xo fun s=>iter (kc F 0 C2) (b5 0 0) n r s K
def G8 (F:Nat) (K:zK) (n r:Nat):aJC:=cg fun s=>iter (kc F 2 bAF) (b5 0 2) n r s K
def aEN (F:Nat) (Post:aC UU->Prop):zK:=bW 0 (wg F 0 (cS (cS (bo f90))) (bN Ed false f90 Post))
def aEM (F n r:Nat) (K:zK):zK:=bW 2 (bW 1 (wg F 0 (cS (cS (cS C2))) (lT (kc F 0 C2) (b5 0 0) n r K)))
theorem aC1 (F:Nat) (K:zK):∀n r,G8 F K n r=Sf F (aDV (K .ret)) (cg (K (.exit 2))) n
 |0,_=>KA
 |n+1,r=>QG (b:=aGG (G8 F K n (r+1)) (aDV (K .ret)) (cg (K (.exit 2)))) KA (by rewrite[aC1 F K n (r+1)];kernel_rfl)
theorem aSi (F n r:Nat) (K:zK):G8 F (aEM F n r K) F 0=W5 F (Qq F K n (r+1)) (Xo (K (.exit 0))) (ch (K .ret)):=
 (aC1 F _ F 0).trans KA
theorem aC2 (F:Nat) (K:zK):∀n r,Qq F K n r=q7 F (Xo (K (.exit 0))) (ch (K .ret)) n
 |0,_=>KA
 |n+1,r=>QG (b:=(fun I G u j f=>aGH (Qq F K n (r+1)) (Xo (K (.exit 0))) (ch (K .ret)) I G u j f (G8 F (aEM F n r K) F 0))) KA (by rewrite[aSi F n r K,aC2 F K n (r+1)];kernel_rfl)
theorem aSj (F:Nat) (Post:aC UU->Prop):Qq F (aEN F Post) F 0=Wj F (fun f=>Post (.raw f)):=
 (aC2 F _ F 0).trans KA
def aAY:Model UU
 |[.agg [.str S,.str O,.int .i64 L,.int .i64 J,.int .i64 I,.int .i64 G,.sl .rect u,.sl .rect j,.sl .pc f],.int .i64 Z,.int .i64 V]=>some ([tY S O L J I G u j f Z V],.raw (rX S O L J I G u j f Z V))
 |_=>none
def aJb:Cfg UU:=Ed.add 90 aAY
theorem aNB:aE aJb:=dN aOD mixed func90 KA KA fun xs cs r h hc=>by
 unfold aAY at h;split at h
 ·rename_i V S O L J I G u j a1 Z;cases h;obtain⟨F,hF⟩:=aR0 V S O L J I G u j a1 Z hc;exact⟨KA,b5,F,false,fS fun Post hP=>fT (QG (b:=aGI V S O L J I G u j a1 Z (fun f=>Post (.raw f)) (Qq F (aEN F Post) F 0)) KA (by rewrite[aSj F Post];kernel_rfl)) (hF (fun f=>Post (.raw f)) hP)⟩
 ·cases h
def aBN:Model UU
 |[.int .i64 j,.ref [.str V,.str S,.int .i64 O,.int .i64 L,.int .i64 J,.int .i64 I,.sl .rect G,.sl .rect u,.sl .pc ps] 0,.ref [.int .i64 f] 0]=>some ([Vh j V S O L J I G u ps f],.tup [.raw ((xW j V S O L J I G u ps f).1),.raw ((xW j V S O L J I G u ps f).2)])
 |_=>none
def aKR:Cfg UU:=aJb.add 89 aBN
theorem aOA:aE aKR:=dN aNB mixed func89 KA KA fun xs cs r h hc=>by
 unfold aBN at h;split at h
 ·rename_i j V S O L J I G u ps f;cases h;refine⟨KA,M0,0,false,⟨iY (fun Q:Value->Value->Prop=>((tY V S O L J I G u ps j f)/\((tY V S O L J I G u ps j (aB (f-1)))/\Q (rX V S O L J I G u ps j f) (rX V S O L J I G u ps j (aB (f-1)))))) (fun Q=>Q ((xW j V S O L J I G u ps f).1) ((xW j V S O L J I G u ps f).2)) (fun r0 Z=>(.tup [.raw r0,.raw Z]:aC UU)=.tup [.raw ((xW j V S O L J I G u ps f).1),.raw ((xW j V S O L J I G u ps f).2)]) KA (fun Q h=>?_) rfl⟩⟩
  try dsimp only at h ⊢
  unfold xW at h;have hp:Vh j V S O L J I G u ps f:=hc;unfold Vh at hp;obtain⟨fG,hp⟩:=hp;refine⟨fG,?_⟩;have Bq:=hp;refine⟨Bq,?_⟩;exact h
 ·cases h
def aBM:Model UU
 |[.int .i64 u,.int .i64 j,.ref [.int .i64 f] 0]=>some ([],.agg [.i ((Fi u j f).1),.i ((Fi u j f).2.1),.i ((Fi u j f).2.2.1),.i ((Fi u j f).2.2.2)])
 |_=>none
def aKQ:Cfg UU:=aKR.add 91 aBM
theorem aNz:aE aKQ:=tin aOA mixed func91 KA KA false fun xs f r h=>by
 unfold aBM at h;split at h
 ·cases h;exact⟨KA,KA⟩
 ·cases h
def aBL:Model UU
 |[.int .i64 j,.ref [.str V,.str S,.int .i64 O,.int .i64 L,.int .i64 J,.int .i64 I,.sl .rect G,.sl .rect u,.sl .pc ps] 0,.ref [.int .i64 f] 0]=>some ([Vg j V S O L J I G u ps f],.tup [.raw ((xV j V S O L J I G u ps f).1),.raw ((xV j V S O L J I G u ps f).2)])
 |_=>none
def aKP:Cfg UU:=aKQ.add 92 aBL
theorem aNy:aE aKP:=dN aNz mixed func92 KA KA fun xs cs r h hc=>by
 unfold aBL at h;split at h
 ·rename_i j V S O L J I G u ps f;cases h;refine⟨KA,M0,0,false,⟨iY (fun Q:Value->Value->Prop=>((tY V S O L J I G u ps f j)/\((tY V S O L J I G u ps (aB (f-1)) j)/\Q (rX V S O L J I G u ps f j) (rX V S O L J I G u ps (aB (f-1)) j)))) (fun Q=>Q ((xV j V S O L J I G u ps f).1) ((xV j V S O L J I G u ps f).2)) (fun r0 Z=>(.tup [.raw r0,.raw Z]:aC UU)=.tup [.raw ((xV j V S O L J I G u ps f).1),.raw ((xV j V S O L J I G u ps f).2)]) KA (fun Q h=>?_) rfl⟩⟩
  try dsimp only at h ⊢
  unfold xV at h;have hp:Vg j V S O L J I G u ps f:=hc;unfold Vg at hp;obtain⟨fG,hp⟩:=hp;refine⟨fG,?_⟩;have Bq:=hp;refine⟨Bq,?_⟩;exact h
 ·cases h
def aBK:Model UU
 |[.int .i64 u,.int .i64 j,.ref [.int .i64 f] 0]=>some ([],.agg [.i ((Fh u j f).1),.i ((Fh u j f).2.1),.i ((Fh u j f).2.2.1),.i ((Fh u j f).2.2.2)])
 |_=>none
def rS:Cfg UU:=aKP.add 93 aBK
theorem aNx:aE rS:=tin aNy mixed func93 KA KA false fun xs f r h=>by
 unfold aBK at h;split at h
 ·cases h;exact⟨KA,KA⟩
 ·cases h
def aYQ (F:Nat):=cX (aU Je F 0 rS) rS f88.ntmps Je F
def aPf (F:Nat):=cA (aU Je F 0 rS) rS f88.ntmps Je F
abbrev aJT:=zzI->ByteArray->ByteArray->Int->Int->Int->Int->List aA->List aA->List Pce->Int->Int->Int->Value->Value->zzI->Int->Int->List Edg->Prop
def dj (k:ASt UU->Prop):aJT:=(fun L cM cW cU cQ O S V Z fL fB fK J I G u j f dQ=>k ⟨tmL [(0,.sl .int L),(1,.fn 89 [.ref [.str cM,.str cW,.i cU,.i cQ,.i O,.i S,.sl .rect V,.sl .rect Z,.sl .pc fL] 0,.ref [.i fB] 0]),(2,.fn 91 [.ref [.i fK] 0]),(7,.osl 77 0),(8,.i J),(9,.raw I),(10,.raw G),(19,.sl .int u),(20,.i j),(21,.i f)],obL [(77,.row .edge 0 dQ)]⟩)
def bAY:=(cL (cB (cS (cF (cS4 (bo f88))))))
def I9 (F:Nat) (K:zK) (n r:Nat):aJT:=dj fun s=>iter (aYQ F 0 bAY) (Je 0 0) n r s K
def aEa (F:Nat) (Post:aC UU->Prop):zK:=bW 0 (aPf F 0 (cS4 (cS (bo f88))) (bN rS true f88 Post))
theorem aCq (F:Nat) (K:zK):∀n r,I9 F K n r=s8 F (dj (K (.exit 0))) n
 |0,_=>KA
 |n+1,r=>QG (b:=aGk (I9 F K n (r+1)) (dj (K (.exit 0)))) KA (by rewrite[aCq F K n (r+1)];kernel_rfl)
theorem aTI (F:Nat) (Post:aC UU->Prop):I9 F (aEa F Post) F 0=Wu F (fun f=>Post (.new .edge f)):=
 (aCq F _ F 0).trans KA
def aYP (F:Nat):=cX (aU Jd F 0 rS) rS f88.ntmps Jd F
def aPe (F:Nat):=cA (aU Jd F 0 rS) rS f88.ntmps Jd F
abbrev aJS:=zzI->ByteArray->ByteArray->Int->Int->Int->Int->List aA->List aA->List Pce->Int->Int->Int->Value->Value->zzI->Int->Int->List Edg->Prop
def di (k:ASt UU->Prop):aJS:=(fun L cM cW cU cQ O S V Z fL fB fK J I G u j f dQ=>k ⟨tmL [(0,.sl .int L),(1,.fn 92 [.ref [.str cM,.str cW,.i cU,.i cQ,.i O,.i S,.sl .rect V,.sl .rect Z,.sl .pc fL] 0,.ref [.i fB] 0]),(2,.fn 93 [.ref [.i fK] 0]),(7,.osl 77 0),(8,.i J),(9,.raw I),(10,.raw G),(19,.sl .int u),(20,.i j),(21,.i f)],obL [(77,.row .edge 0 dQ)]⟩)
def bAX:=(cL (cB (cS (cF (cS4 (bo f88))))))
def I8 (F:Nat) (K:zK) (n r:Nat):aJS:=di fun s=>iter (aYP F 0 bAX) (Jd 0 0) n r s K
def aE9 (F:Nat) (Post:aC UU->Prop):zK:=bW 0 (aPe F 0 (cS4 (cS (bo f88))) (bN rS true f88 Post))
theorem aCp (F:Nat) (K:zK):∀n r,I8 F K n r=s7 F (di (K (.exit 0))) n
 |0,_=>KA
 |n+1,r=>QG (b:=aGi (I8 F K n (r+1)) (di (K (.exit 0)))) KA (by rewrite[aCp F K n (r+1)];kernel_rfl)
theorem aTH (F:Nat) (Post:aC UU->Prop):I8 F (aE9 F Post) F 0=Wt F (fun f=>Post (.new .edge f)):=
 (aCp F _ F 0).trans KA
def aB7:Model UU
 |[.sl .int l,.fn 89 [.ref [.str V,.str S,.int .i64 O,.int .i64 L,.int .i64 J,.int .i64 I,.sl .rect G,.sl .rect u,.sl .pc ps] 0,.ref [.int .i64 j] 0],.fn 91 [.ref [.int .i64 f] 0]]=>some ([S2 l V S O L J I G u ps j f],.new .edge (N5 l V S O L J I G u ps j f))
 |[.sl .int l,.fn 92 [.ref [.str V,.str S,.int .i64 O,.int .i64 L,.int .i64 J,.int .i64 I,.sl .rect G,.sl .rect u,.sl .pc ps] 0,.ref [.int .i64 j] 0],.fn 93 [.ref [.int .i64 f] 0]]=>some ([S1 l V S O L J I G u ps j f],.new .edge (N4 l V S O L J I G u ps j f))
 |_=>none
def aK4:Cfg UU:=rS.add 88 aB7
theorem aOY:aE aK4:=dN aNx mixed func88 KA KA fun xs cs r h hc=>by
 unfold aB7 at h;split at h
 ·rename_i l Z V S O L J I G ps u j;cases h;obtain⟨F,hF⟩:=aRg l Z V S O L J I G ps u j hc;exact⟨KA,Je,F,true,fS fun Post hP=>fT (QG (b:=aGl l Z V S O L J I G ps u j (fun f=>Post (.new .edge f)) (I9 F (aEa F Post) F 0)) KA (by rewrite[aTI F Post];kernel_rfl)) (hF (fun f=>Post (.new .edge f)) hP)⟩
 ·rename_i l Z V S O L J I G ps u j;cases h;obtain⟨F,hF⟩:=aRf l Z V S O L J I G ps u j hc;exact⟨KA,Jd,F,true,fS fun Post hP=>fT (QG (b:=aGj l Z V S O L J I G ps u j (fun f=>Post (.new .edge f)) (I8 F (aE9 F Post) F 0)) KA (by rewrite[aTH F Post];kernel_rfl)) (hF (fun f=>Post (.new .edge f)) hP)⟩
 ·cases h
end
end Go.Proofs.YtgcpildegdgekaaGreatDoor
namespace Go.Proofs.YtgcpildegdgekaaGreatDoor
open Go.Proofs.Tryz
open Go.Shelf Go.RowKit Go.Lib Go.Sort
theorem Kw (x y:Int):ltOf Lib.compareInt x y=decide (x<y):=by
 unfold ltOf Lib.compareInt
 by_cases f:x<y
 ·simp[f]
 ·by_cases j:y<x<;>simp[f,j]
theorem aMM:SWO (ltOf Lib.compareInt) where
 irrefl x:=by rw[Kw];simp
 trans x y z h1 h2:=by rw[Kw] at*;simp at*;omega
 ntrans x y z h1 h2:=by rw[Kw] at*;simp at*;omega
theorem aML (x y:Int) (j:ltOf Lib.compareInt x y=false) (f:ltOf Lib.compareInt y x=false):x=y:=by rw[Kw] at*;simp at*;omega
theorem aMN:(fun x y:Int=>!ltOf Lib.compareInt y x)=fun x y=>decide (x<=y):=by
 funext x y;rw[Kw]
 by_cases h:x<=y
 ·have f:¬y<x:=KI;simp[h,f]
 ·have f:y<x:=KI;simp[h,f]
theorem aMO (blk off size:Nat) (w:World):CmpReads prog 112 #[] (Value.int .i64) Lib.compareInt blk off size w:=fun _ _ _ _ x y=>by
 refine(cmp_Compare_int x y _).mono ?_
 rintro e w' ⟨rfl,rfl⟩
 exact⟨rfl,0,rfl⟩
set_option maxHeartbeats 2000000 in
theorem aM6 (p:Option Addr) (c:Nat) (w:World):
  Calls prog 87 #[.slice p 0 c] w fun e w'=>e=.returned (.slice p 0 c)/\w'=w:=by
 have f:=fun q c W=>slices_SortFunc_none (α:=Int) q c (.func (.func 112) #[] #[]) W
 have hC:=fun q c W=>slices_Compact_int_empty q c W
 go_enter func87,ntmps87
 go_wp2_with (first
  | (go_at_call 132;refine(f _ _ _).mono ?_;rintro e w' ⟨rfl,rfl⟩)
  | (go_at_call 121;refine(hC _ _ _).mono ?_;rintro e w' ⟨rfl,rfl⟩))
 go_ret
 exact⟨rfl,rfl⟩
set_option maxHeartbeats 2000000 in
theorem aM5 (g cap:Nat) (l:zzI) (w:World) (hl:l.length<=2000000) (L:Holds (Value.int .i64) w g 0 l.toArray) (Z:g<w.heap.size) (V:l.length<=cap):
  Calls prog 87 #[.slice (some ⟨g,0,none⟩) l.length cap] w fun e w'=>e=.returned (.slice (some ⟨g,0,none⟩) (cY l).length cap)/\
   ∃G u q,w'=putRow (Value.int .i64) (Sort.ahead (grow (putRow (Value.int .i64) (Sort.ahead w G) g 0 (l.mergeSort fun x y=>decide (x<=y)).toArray) u) q) g 0 (cY l++List.replicate (l.length-(cY l).length) 0).toArray:=by
 have eg:∀j w,(callFunc 112 j).run prog w=.ok (.enter 112 j) w:=fun j w=>Go.Vm.lE (fn:=f112) func112 KA rfl j w
 have J:Calls prog 132 #[.slice (some ⟨g,0,none⟩) l.length cap,.func (.func 112) #[] #[]] w fun e w'=>e=.returned (.tuple #[])/\∃n u,w'=grow (putRow (Value.int .i64) (Sort.ahead w n) g 0 (l.mergeSort fun x y=>decide (x<=y)).toArray) u:=by
  have:=slices_SortFunc_total (Value.int .i64) (fun _=>rfl) Lib.compareInt aMM 112 #[] g 0 cap l.toArray w eg (aMO g 0 _ w).lays L Z (by simp;omega) aML;rw[aMN] at this;simpa[sortWorld] using this
 have f:(l.mergeSort fun x y=>decide (x<=y)).length=l.length:=List.length_mergeSort ..;have I:∀(G:Nat) (u:Array Obj),Calls prog 121 #[.slice (some ⟨g,0,none⟩) l.length cap] (grow (putRow (Value.int .i64) (Sort.ahead w G) g 0 (l.mergeSort fun x y=>decide (x<=y)).toArray) u) fun e w'=>e=.returned (.slice (some ⟨g,0,none⟩) (cY l).length cap)/\∃q,w'=putRow (Value.int .i64) (Sort.ahead (grow (putRow (Value.int .i64) (Sort.ahead w G) g 0 (l.mergeSort fun x y=>decide (x<=y)).toArray) u) q) g 0 (cY l++List.replicate (l.length-(cY l).length) 0).toArray:=fun G u=>by
  generalize hW:grow (putRow (Value.int .i64) (Sort.ahead w G) g 0 (l.mergeSort fun x y=>decide (x<=y)).toArray) u=W;have hH:Holds (Value.int .i64) W g 0 (l.mergeSort fun x y=>decide (x<=y)).toArray:=by
   rw[<- hW];refine holds_grow _ _ _ _ _ _ (by simpa using Z) ?_;exact holds_putRow _ _ _ _ l.toArray _ L XQ
  have:=slices_Compact_int g 0 cap (l.mergeSort fun x y=>decide (x<=y)) W hH (by rw[f];omega) (by rw[f];exact V);rw[f] at this;exact this
 generalize O:cY l=sc at I ⊢;generalize S:(l.mergeSort fun x y=>decide (x<=y))=ms at J I ⊢;clear O S f L V;generalize hn:l.length=n at J I ⊢;clear hl hn
 go_enter func87,ntmps87
 go_wp2_with (first
  | (go_at_call 132;refine J.mono ?_;rintro e w2 ⟨rfl,G,u,rfl⟩)
  | (go_at_call 121;refine(I _ _).mono ?_;rintro e w3 ⟨rfl,q,rfl⟩))
 go_ret
 exact⟨rfl,G,u,q,rfl⟩
end Go.Proofs.YtgcpildegdgekaaGreatDoor
namespace Go.Proofs.YtgcpildegdgekaaGreatDoor
open Go.Proofs.Tryz
open Go.RowKit Go.Vm
noncomputable section
def wZ:Cfg UU:=aK4.Cq 87 (Zw 2000000)
theorem aNL:aE wZ:=aOY.Lo fun w0 _=>aHV rfl rfl w0 2000000 (lE (fn:=f87) func87 KA rfl) aM6 aM5
def dw (f:FuncId):Option (Func×Code):=cond (Nat.beq f 98) (some (f98,bo f98)) none
theorem aVK (f:FuncId) (fn:Func) (c:Code) (h:dw f=some (fn,c)):prog.funcs[f]?=some fn/\fn.body=some c/\∀(args:Array Value) (w:World),(callFunc f args).run prog w=.ok (.enter f args) w:=by
 unfold dw at h;rcases Po h with ⟨hb,h⟩|h
 ·exact one func98 KA (lE (fn:=f98) func98 KA rfl) hb h
 ·cases h
def nK (C:Cfg UU) (j:C.P=prog:=by rfl):Cfg UU:={C with inl:=dw,inlOK:=fun f fn c h=>by rw[j];exact aVK f fn c h,dep:=4}
theorem bB4 {C:Cfg UU} (u:C.P=prog) (O:aE C) (j:C.P.follows .mixedOrders=true) {f:FuncId} {m:Model UU} {fn:Func} {c:Code} (hf:C.P.funcs[f]?=some fn) (S:(fn.name== "runtime.NumGoroutine")=false)
  (hb:fn.body=some c) (L:∀xs I r,m xs=some (I,r)->dZ I->(Nat.ble xs.length fn.ntmps&&Nat.ble fn.ntmps 1000000)=true/\∃M fuel V,tE (exec (nK C u).bZ fn.ntmps M fuel 0 c (gK xs) (bN (nK C u).bZ V fn fun J=>J=r))):aE (C.add f m):=by
 have G:aE (nK C u):=O;have:=aE.J8 (C:=nK C u) G j hf S hb L;exact this
def Ph (F:Nat):=cX (aU uV F 0 wZ) wZ f42.ntmps uV F
def Up (F:Nat):=cA (aU uV F 0 wZ) wZ f42.ntmps uV F
abbrev aJJ:=List Pce->Int->Int->ByteArray->ByteArray->Int->Int->Int->Int->List aA->List aA->List Pce->zzI->zzI->Prop
def Xp (k:ASt UU->Prop):aJJ:=(fun u j f O S V Z aF aW aV J L G I=>k ⟨tmL [(1,.ptr 1 0),(3,.osl 81 0),(4,.osl 82 0),(15,.sl .pc u),(16,.i j),(17,.i f)],obL [(81,.row .int 0 G),(82,.row .int 0 I),(1,.cells [.str O,.str S,.i V,.i Z,.i aF,.i aW,.sl .rect aV,.sl .rect J,.sl .pc L])]⟩)
abbrev aJI:=List Pce->Int->Int->List aA->Int->Int->ByteArray->ByteArray->Int->Int->Int->Int->List aA->List aA->List Pce->zzI->zzI->Prop
def da (k:ASt UU->Prop):aJI:=(fun J I G u j f Z aZ aY aX aF aW aV S V L O=>k ⟨tmL [(1,.ptr 1 0),(3,.osl 81 0),(4,.osl 82 0),(15,.sl .pc J),(16,.i I),(17,.i G),(22,.sl .rect u),(23,.i j),(24,.i f)],obL [(81,.row .int 0 L),(82,.row .int 0 O),(1,.cells [.str Z,.str aZ,.i aY,.i aX,.i aF,.i aW,.sl .rect aV,.sl .rect S,.sl .pc V])]⟩)
abbrev aJH:=Int->Int->ByteArray->ByteArray->Int->Int->Int->Int->List aA->List aA->List Pce->zzI->zzI->List Edg->Prop
def cw (k:ASt UU->Prop):aJH:=(fun j f O S V Z aF aW aV J L I G u=>k ⟨tmL [(1,.ptr 1 0),(3,.osl 81 0),(4,.osl 82 1),(9,.osl 83 0),(54,.osl 82 1),(55,.i j),(56,.i f)],obL [(81,.row .int 0 G),(83,.row .edge 0 u),(1,.cells [.str O,.str S,.i V,.i Z,.i aF,.i aW,.sl .rect aV,.sl .rect J,.sl .pc L]),(82,.row .int 1 I)]⟩)
abbrev aJG:=Int->Int->ByteArray->ByteArray->Int->Int->Int->Int->List aA->List aA->List Pce->zzI->List Edg->zzI->Prop
def cp (k:ASt UU->Prop):aJG:=(fun j f O S V Z aF aW aV J L G I u=>k ⟨tmL [(1,.ptr 1 0),(4,.osl 81 0),(9,.osl 82 0),(67,.osl 83 0),(68,.i j),(69,.i f)],obL [(81,.row .int 0 G),(82,.row .edge 0 I),(83,.row .int 0 u),(1,.cells [.str O,.str S,.i V,.i Z,.i aF,.i aW,.sl .rect aV,.sl .rect J,.sl .pc L])]⟩)
def C3:=(cL (cB (cS (cF (cS (cS (bo f42)))))))
def bAL:=(cL (cB (cS (cS (cB (cF (cS (cS C3))))))))
def bAK:=(cL (cB (cS (cF (cS4 (cS (bo f42)))))))
def bAJ:=(cL (cB (cS (cF (cS4 (cS (cS (bo f42))))))))
def Qr (F:Nat) (K:zK) (n r:Nat):aJJ:=Xp fun s=>iter (Ph F 0 C3) (uV 0 0) n r s K
def H5 (F:Nat) (K:zK) (n r:Nat):aJI:=da fun s=>iter (Ph F 2 bAL) (uV 0 2) n r s K
def H4 (F:Nat) (K:zK) (n r:Nat):aJH:=cw fun s=>iter (Ph F 4 bAK) (uV 0 4) n r s K
def H3 (F:Nat) (K:zK) (n r:Nat):aJG:=cp fun s=>iter (Ph F 6 bAJ) (uV 0 6) n r s K
def aEU (F:Nat) (Post:aC UU->Prop):zK:=bW 0 (Up F 0 (cS (cS (cS (bo f42)))) (bN wZ false f42 Post))
def aET (F n r:Nat) (K:zK):zK:=bW 2 (bW 1 (Up F 0 (cS (cS (cS C3))) (lT (Ph F 0 C3) (uV 0 0) n r K)))
def aES (F:Nat) (Post:aC UU->Prop):zK:=bW 4 (Up F 0 (cS4 (cS (cS (bo f42)))) (bN wZ false f42 Post))
def aER (F:Nat) (Post:aC UU->Prop):zK:=bW 6 (Up F 0 (cS4 (cS (cS (cS (bo f42))))) (bN wZ false f42 Post))
theorem aC8 (F:Nat) (K:zK):∀n r,H5 F K n r=Sl F (da (K (.exit 2))) n
 |0,_=>KA
 |n+1,r=>QG (b:=aGQ (H5 F K n (r+1)) (da (K (.exit 2)))) KA (by rewrite[aC8 F K n (r+1)];kernel_rfl)
theorem aSp (F n r:Nat) (K:zK):H5 F (aET F n r K) F 0=W7 F (Qr F K n (r+1)) (Xp (K (.exit 0))):=
 (aC8 F _ F 0).trans KA
theorem aC6 (F:Nat) (K:zK):∀n r,H3 F K n r=Sk F (cp (K (.exit 6))) n
 |0,_=>KA
 |n+1,r=>QG (b:=aGO (H3 F K n (r+1)) (cp (K (.exit 6)))) KA (by rewrite[aC6 F K n (r+1)];kernel_rfl)
theorem aSn (F:Nat) (Post:aC UU->Prop):H3 F (aER F Post) F 0=Wm F (fun f=>Post (.sl .edge f)):=
 (aC6 F _ F 0).trans KA
theorem aC7 (F:Nat) (K:zK):∀n r,H4 F K n r=Kg F (cw (K (.exit 4))) n
 |0,_=>KA
 |n+1,r=>QG (b:=aGP (H4 F K n (r+1)) (cw (K (.exit 4)))) KA (by rewrite[aC7 F K n (r+1)];kernel_rfl)
theorem aSo (F:Nat) (Post:aC UU->Prop):H4 F (aES F Post) F 0=W6 F (fun f=>Post (.sl .edge f)):=
 (aC7 F _ F 0).trans (QG (b:=Kg F (fun u j S V Z aX aF aW aV L O J I G=>aGT (fun f=>Post (.sl .edge f)) u j S V Z aX aF aW aV L O J I G (H3 F (aER F Post) F 0)) F) KA (by rewrite[aSn F Post];kernel_rfl))
theorem aC9 (F:Nat) (K:zK):∀n r,Qr F K n r=xF F (Xp (K (.exit 0))) n
 |0,_=>KA
 |n+1,r=>QG (b:=(fun u j f O S V Z aF aW aV J L G I=>aGR (Qr F K n (r+1)) (Xp (K (.exit 0))) u j f O S V Z aF aW aV J L G I (H5 F (aET F n r K) F 0))) KA (by rewrite[aSp F n r K,aC9 F K n (r+1)];kernel_rfl)
theorem aSq (F:Nat) (Post:aC UU->Prop):Qr F (aEU F Post) F 0=Wn F (fun f=>Post (.sl .edge f)):=
 (aC9 F _ F 0).trans (QG (b:=xF F (fun G u j S V Z aX aF aW aV L O I J=>aGU (fun f=>Post (.sl .edge f)) G u j S V Z aX aF aW aV L O I J (H4 F (aES F Post) F 0)) F) KA (by rewrite[aSo F Post];kernel_rfl))
def aA2:Model UU
 |[.agg [.str S,.str O,.int .i64 L,.int .i64 J,.int .i64 I,.int .i64 G,.sl .rect u,.sl .rect j,.sl .pc f]]=>some ([Uv S O L J I G u j f],.sl .edge (Tn S O L J I G u j f))
 |_=>none
def aJe:Cfg UU:=wZ.add 42 aA2
theorem aNF:aE aJe:=dN aNL mixed func42 KA KA fun xs cs r h Z=>by
 unfold aA2 at h;split at h
 ·rename_i V S O L J I G u j;cases h;obtain⟨F,hF⟩:=aR4 V S O L J I G u j Z;exact⟨KA,uV,F,false,fS fun Post hP=>fT (QG (b:=aGS V S O L J I G u j (fun f=>Post (.sl .edge f)) (Qr F (aEU F Post) F 0)) KA (by rewrite[aSq F Post];kernel_rfl)) (hF (fun f=>Post (.sl .edge f)) hP)⟩
 ·cases h
def aBY:Model UU
 |[.agg [.str S,.str O,.int .i64 L,.int .i64 J,.int .i64 I,.int .i64 G,.sl .rect u,.sl .rect j,.sl .pc f]]=>some ([sD S O L J I G u j f],.tup [.sl .edge ((dC S O L J I G u j f).1),.i ((dC S O L J I G u j f).2)])
 |_=>none
def Ei:Cfg UU:=aJe.add 13 aBY
theorem aOL:aE Ei:=dN aNF mixed func13 KA KA fun xs cs r h hc=>by
 unfold aBY at h;split at h
 ·rename_i S O L J I G u j f;cases h;refine⟨KA,M0,0,false,⟨iY (fun Q:(List Edg)->Int->Prop=>((Lq S O L J I G u j f)/\cond ((jK S O L J I G u j f) !=0) (Q ([]) (jK S O L J I G u j f)) (((Uv S O L J I G u j f)/\Q (Tn S O L J I G u j f) 0)))) (fun Q=>Q ((dC S O L J I G u j f).1) ((dC S O L J I G u j f).2)) (fun r0 r1=>(.tup [.sl .edge r0,.i r1]:aC UU)=.tup [.sl .edge ((dC S O L J I G u j f).1),.i ((dC S O L J I G u j f).2)]) KA (fun Q h=>?_) rfl⟩⟩
  try dsimp only at h ⊢
  unfold dC at h;have hp:sD S O L J I G u j f:=hc;unfold sD at hp;obtain⟨fG,hp⟩:=hp;refine⟨fG,?_⟩;cases V:((jK S O L J I G u j f) !=0)
  ·try simp only[V,QK] at h hp ⊢
   have Z:=hp;refine⟨Z,?_⟩;exact h
  ·try simp only[V,QY] at h hp ⊢
   exact h
 ·cases h
def aXt (F:Nat):=cX (aU Ih F 0 Ei.bZ) Ei.bZ f43.ntmps Ih F
def aPT (F:Nat):=cA (aU Ih F 0 Ei.bZ) Ei.bZ f43.ntmps Ih F
abbrev aId:=List Pce->Int->Int->List Bool->List Bool->zzI->List Bool->zzB->Prop
def az (k:ASt UU->Prop):aId:=(fun u j f G I J L O=>k ⟨tmL [(4,.ptr 4 0),(6,.ptr 6 0),(22,.sl .pc u),(23,.i j),(24,.i f)],obL [(39,.row .bool 0 G),(40,.row .bool 0 I),(41,.row .int 0 J),(42,.row .bool 0 L),(43,.deep .bools 0 0 O),(4,.cells [.nils,.nils,.nils,.nils,.nils]),(6,.cells [.osl 39 0,.osl 43 0,.osl 40 0,.osl 41 0,.osl 42 0])]⟩)
def aZ4:=(cL (cB (cS (cF (cS (cS (cS (bo f43))))))))
def D0 (F:Nat) (K:zK) (n r:Nat):aId:=az fun s=>iter (aXt F 0 aZ4) (Ih 0 0) n r s K
def aD0 (F:Nat) (Post:aC UU->Prop):zK:=bW 0 (aPT F 0 (cS4 (bo f43)) (bN Ei.bZ false f43 Post))
theorem aBe (F:Nat) (K:zK):∀n r,D0 F K n r=Rp F (az (K (.exit 0))) n
 |0,_=>KA
 |n+1,r=>QG (b:=aEx (D0 F K n (r+1)) (az (K (.exit 0)))) KA (by rewrite[aBe F K n (r+1)];kernel_rfl)
theorem aRv (F:Nat) (Post:aC UU->Prop):D0 F (aD0 F Post) F 0=U4 F (fun f G j I u=>Post (.agg [.sl .bool f,.sl .bools G,.sl .bool j,.sl .int I,.sl .bool u])):=
 (aBe F _ F 0).trans KA
def aAC:Model UU
 |[.agg [.str S,.str O,.int .i64 L,.int .i64 J,.int .i64 I,.int .i64 G,.sl .rect u,.sl .rect j,.sl .pc f],.int .i64 V]=>some ([Lp S O L J I G u j f V],.agg [.sl .bool ((jW S O L J I G u j f V).1),.sl .bools ((jW S O L J I G u j f V).2.1),.sl .bool ((jW S O L J I G u j f V).2.2.1),.sl .int ((jW S O L J I G u j f V).2.2.2.1),.sl .bool ((jW S O L J I G u j f V).2.2.2.2)])
 |_=>none
def aJ1:Cfg UU:=Ei.add 43 aAC
theorem aMh:aE aJ1:=(aOL.J8) mixed (c:=bo f43) func43 KA KA fun xs cs r h hc=>by
 unfold aAC at h;split at h
 ·rename_i y0 y1 y2 Z V S O L J a1;cases h;obtain⟨F,hF⟩:=aRE y0 y1 y2 Z V S O L J a1 hc;exact⟨KA,Ih,F,false,fS fun Post hP=>fT (QG (b:=aEy y0 y1 y2 Z V S O L J a1 (fun f G j I u=>Post (.agg [.sl .bool f,.sl .bools G,.sl .bool j,.sl .int I,.sl .bool u])) (D0 F (aD0 F Post) F 0)) KA (by rewrite[aRv F Post];kernel_rfl)) (hF (fun f G j I u=>Post (.agg [.sl .bool f,.sl .bools G,.sl .bool j,.sl .int I,.sl .bool u])) hP)⟩
 ·cases h
def aBV:Model UU
 |[.agg [.str S,.str O,.int .i64 L,.int .i64 J,.int .i64 I,.int .i64 G,.sl .rect u,.sl .rect j,.sl .pc f]]=>some ([Ma S O L J I G u j f],.tup [.agg [.sl .bool ((kS S O L J I G u j f).1),.sl .bools ((kS S O L J I G u j f).2.1),.sl .bool ((kS S O L J I G u j f).2.2.1),.sl .int ((kS S O L J I G u j f).2.2.2.1),.sl .bool ((kS S O L J I G u j f).2.2.2.2.1)],.i ((kS S O L J I G u j f).2.2.2.2.2)])
 |_=>none
def Ef:Cfg UU:=aJ1.add 14 aBV
theorem aOI:aE Ef:=dN aMh mixed func14 KA KA fun xs cs r h hc=>by
 unfold aBV at h;split at h
 ·rename_i S O L J I G u j f;cases h;refine⟨KA,M0,0,false,⟨iY (fun Q:(List Bool)->(zzB)->(List Bool)->(zzI)->(List Bool)->Int->Prop=>((sD S O L J I G u j f)/\cond (((dC S O L J I G u j f).2) !=0) (Q ([]) ([]) ([]) ([]) ([]) ((dC S O L J I G u j f).2)) (((Lp S O L J I G u j f (((dC S O L J I G u j f).1).length:Int))/\Q ((jW S O L J I G u j f (((dC S O L J I G u j f).1).length:Int)).1) ((jW S O L J I G u j f (((dC S O L J I G u j f).1).length:Int)).2.1) ((jW S O L J I G u j f (((dC S O L J I G u j f).1).length:Int)).2.2.1) ((jW S O L J I G u j f (((dC S O L J I G u j f).1).length:Int)).2.2.2.1) ((jW S O L J I G u j f (((dC S O L J I G u j f).1).length:Int)).2.2.2.2) 0)))) (fun Q=>Q ((kS S O L J I G u j f).1) ((kS S O L J I G u j f).2.1) ((kS S O L J I G u j f).2.2.1) ((kS S O L J I G u j f).2.2.2.1) ((kS S O L J I G u j f).2.2.2.2.1) ((kS S O L J I G u j f).2.2.2.2.2)) (fun gR gO gQ gN gP r1=>(.tup [.agg [.sl .bool gR,.sl .bools gO,.sl .bool gQ,.sl .int gN,.sl .bool gP],.i r1]:aC UU)=.tup [.agg [.sl .bool ((kS S O L J I G u j f).1),.sl .bools ((kS S O L J I G u j f).2.1),.sl .bool ((kS S O L J I G u j f).2.2.1),.sl .int ((kS S O L J I G u j f).2.2.2.1),.sl .bool ((kS S O L J I G u j f).2.2.2.2.1)],.i ((kS S O L J I G u j f).2.2.2.2.2)]) KA (fun Q h=>?_) rfl⟩⟩
  try dsimp only at h ⊢
  unfold kS at h;have hp:Ma S O L J I G u j f:=hc;unfold Ma at hp;obtain⟨fG,hp⟩:=hp;refine⟨fG,?_⟩;cases V:(((dC S O L J I G u j f).2) !=0)
  ·try simp only[V,QK] at h hp ⊢
   have Z:=hp;refine⟨Z,?_⟩;exact h
  ·try simp only[V,QY] at h hp ⊢
   exact h
 ·cases h
def aYA (F:Nat):=cX (aU Ip F 0 Ef) Ef f94.ntmps Ip F
def aP0 (F:Nat):=cA (aU Ip F 0 Ef) Ef f94.ntmps Ip F
abbrev aIp:=Bool->List Pce->Int->Int->List Bool->zzB->List Bool->zzI->List Bool->Prop
def Nh (k:ASt UU->Prop):aIp:=(fun G u j f O S L J I=>k ⟨tmL [(3,.ptr 3 0),(6,.bool G),(47,.sl .pc u),(48,.i j),(49,.i f)],obL [(3,.cells [.sl .bool O,.sl .bools S,.sl .bool L,.sl .int J,.sl .bool I])]⟩)
def aZo:=(cL (cB (cS (cF (cS (cS (cS (bo f94))))))))
def F2 (F:Nat) (K:zK) (n r:Nat):aIp:=Nh fun s=>iter (aYA F 0 aZo) (Ip 0 0) n r s K
def aDr (F:Nat) (Post:aC UU->Prop):zK:=bW 0 (aP0 F 0 (cS4 (bo f94)) (bN Ef false f94 Post))
theorem aCF (F:Nat) (K:zK):∀n r,F2 F K n r=Sb F (Nh (K .ret)) (Nh (K (.exit 0))) n
 |0,_=>KA
 |n+1,r=>QG (b:=aFd (F2 F K n (r+1)) (Nh (K .ret)) (Nh (K (.exit 0)))) KA (by rewrite[aCF F K n (r+1)];kernel_rfl)
theorem aSW (F:Nat) (Post:aC UU->Prop):F2 F (aDr F Post) F 0=V5 F (fun f=>Post (.bool f)):=
 (aCF F _ F 0).trans KA
def aAP:Model UU
 |[.agg [.sl .bool qr,.sl .bools ql,.sl .bool qt,.sl .int V,.sl .bool Z],.agg [.str S,.str O,.int .i64 L,.int .i64 J,.int .i64 I,.int .i64 G,.sl .rect u,.sl .rect j,.sl .pc f],.int .i64 a2]=>some ([R4 qr ql qt V Z S O L J I G u j f a2],.bool (Tl qr ql qt V Z S O L J I G u j f a2))
 |_=>none
def Dm:Cfg UU:=Ef.add 94 aAP
theorem aMs:aE Dm:=dN aOI mixed func94 KA KA fun xs cs r h hc=>by
 unfold aAP at h;split at h
 ·rename_i qr ql qt Z qu V S O L J I G u j a2;cases h;obtain⟨F,hF⟩:=aRR qr ql qt Z qu V S O L J I G u j a2 hc;exact⟨KA,Ip,F,false,fS fun Post hP=>fT (QG (b:=aFe qr ql qt Z qu V S O L J I G u j a2 (fun f=>Post (.bool f)) (F2 F (aDr F Post) F 0)) KA (by rewrite[aSW F Post];kernel_rfl)) (hF (fun f=>Post (.bool f)) hP)⟩
 ·cases h
def aXy (F:Nat):=cX (aU Im F 0 Dm) Dm f100.ntmps Im F
def aPY (F:Nat):=cA (aU Im F 0 Dm) Dm f100.ntmps Im F
abbrev aIn:=Int->Bool->List Edg->Int->Int->List Bool->zzB->List Bool->zzI->List Bool->Prop
def Nf (k:ASt UU->Prop):aIn:=(fun I G u j f S V O L J=>k ⟨tmL [(2,.i I),(3,.ptr 3 0),(6,.bool G),(9,.sl .edge u),(10,.i j),(11,.i f)],obL [(3,.cells [.sl .bool S,.sl .bools V,.sl .bool O,.sl .int L,.sl .bool J])]⟩)
def aZi:=(cL (cB (cS (cF (cS (bo f100))))))
def E6 (F:Nat) (K:zK) (n r:Nat):aIn:=Nf fun s=>iter (aXy F 0 aZi) (Im 0 0) n r s K
def aDk (F:Nat) (Post:aC UU->Prop):zK:=bW 0 (aPY F 0 (cS (cS (bo f100))) (bN Dm false f100 Post))
theorem aBy (F:Nat) (K:zK):∀n r,E6 F K n r=Rz F (Nf (K .ret)) (Nf (K (.exit 0))) n
 |0,_=>KA
 |n+1,r=>QG (b:=aF3 (E6 F K n (r+1)) (Nf (K .ret)) (Nf (K (.exit 0)))) KA (by rewrite[aBy F K n (r+1)];kernel_rfl)
theorem aSP (F:Nat) (Post:aC UU->Prop):E6 F (aDk F Post) F 0=Wc F (fun f=>Post (.bool f)):=
 (aBy F _ F 0).trans KA
def aAM:Model UU
 |[.agg [.sl .bool G,.sl .bools I,.sl .bool u,.sl .int f,.sl .bool j],.sl .edge L,.int .i64 J]=>some ([Ls G I u f j L J],.bool (Ez G I u f j L J))
 |_=>none
def Dk:Cfg UU:=Dm.add 100 aAM
theorem aMp:aE Dk:=dN aMs mixed func100 KA KA fun xs Z r h S=>by
 unfold aAM at h;split at h
 ·rename_i I J G j u O L;cases h;obtain⟨F,hF⟩:=aRO I J G j u O L S;exact⟨KA,Im,F,false,fS fun Post V=>fT (QG (b:=aF4 I J G j u O L (fun f=>Post (.bool f)) (E6 F (aDk F Post) F 0)) KA (by rewrite[aSP F Post];kernel_rfl)) (hF (fun f=>Post (.bool f)) V)⟩
 ·cases h
def aYO (F:Nat):=cX (aU Jc F 0 Dk) Dk f48.ntmps Jc F
def aPd (F:Nat):=cA (aU Jc F 0 Dk) Dk f48.ntmps Jc F
abbrev aJN:=List Bool->Bool->Int->Int->Int->Prop
def Nw (k:ASt UU->Prop):aJN:=(fun I G u j f=>k ⟨tmL [(0,.sl .bool I),(1,.bool G),(4,.i u),(7,.i j),(8,.i f)],obL []⟩)
def bAU:=(cL (cB (cS (cF (cS (bo f48))))))
def I5 (F:Nat) (K:zK) (n r:Nat):aJN:=Nw fun s=>iter (aYO F 0 bAU) (Jc 0 0) n r s K
def aE4 (F:Nat) (Post:aC UU->Prop):zK:=bW 0 (aPd F 0 (cS (cS (bo f48))) (bN Dk false f48 Post))
theorem aCk (F:Nat) (K:zK):∀n r,I5 F K n r=Sw F (Nw (K .ret)) (Nw (K (.exit 0))) n
 |0,_=>KA
 |n+1,r=>QG (b:=aGc (I5 F K n (r+1)) (Nw (K .ret)) (Nw (K (.exit 0)))) KA (by rewrite[aCk F K n (r+1)];kernel_rfl)
theorem aTC (F:Nat) (Post:aC UU->Prop):I5 F (aE4 F Post) F 0=Ws F (fun f=>Post (.i f)):=
 (aCk F _ F 0).trans KA
def aBA:Model UU
 |[.sl .bool a0,.bool f]=>some ([Ve a0 f],.i (Tw a0 f))
 |_=>none
def Dz:Cfg UU:=Dk.add 48 aBA
theorem aNj:aE Dz:=dN aMp mixed func48 KA KA fun xs I r h u=>by
 unfold aBA at h;split at h
 ·rename_i a0 j;cases h;obtain⟨F,hF⟩:=aRc a0 j u;exact⟨KA,Jc,F,false,fS fun Post G=>fT (QG (b:=aGd a0 j (fun f=>Post (.i f)) (I5 F (aE4 F Post) F 0)) KA (by rewrite[aTC F Post];kernel_rfl)) (hF (fun f=>Post (.i f)) G)⟩
 ·cases h
def aYH (F:Nat):=cX (aU Iv F 0 Dz) Dz f96.ntmps Iv F
def aP6 (F:Nat):=cA (aU Iv F 0 Dz) Dz f96.ntmps Iv F
abbrev aJF:=List aA->Int->Int->Int->Int->Int->Int->Prop
def cn (k:ASt UU->Prop):aJF:=(fun u j f J L I G=>k ⟨tmL [(3,.ptr 3 0),(9,.sl .rect u),(10,.i j),(11,.i f)],obL [(3,.cells [.i J,.i L,.i I,.i G])]⟩)
def bAI:=(cL (cB (cS (cF (cS (cS (bo f96)))))))
def H2 (F:Nat) (K:zK) (n r:Nat):aJF:=cn fun s=>iter (aYH F 0 bAI) (Iv 0 0) n r s K
def aEQ (F:Nat) (Post:aC UU->Prop):zK:=bW 0 (aP6 F 0 (cS (cS (cS (bo f96)))) (bN Dz false f96 Post))
theorem aC5 (F:Nat) (K:zK):∀n r,H2 F K n r=Si F (cn (K (.exit 0))) n
 |0,_=>KA
 |n+1,r=>QG (b:=aGM (H2 F K n (r+1)) (cn (K (.exit 0)))) KA (by rewrite[aC5 F K n (r+1)];kernel_rfl)
theorem aSm (F:Nat) (Post:aC UU->Prop):H2 F (aEQ F Post) F 0=Wl F (fun f=>Post (.bool f)):=
 (aC5 F _ F 0).trans KA
def aA1:Model UU
 |[.agg [.str J,.str I,.int .i64 G,.int .i64 u,.sl .rect L,.sl .rect j,.sl .rect f]]=>some ([Lw J I G u L j f],.bool (Tm J I G u L j f))
 |_=>none
def aJd:Cfg UU:=Dz.add 96 aA1
theorem aNE:aE aJd:=dN aNj mixed func96 KA KA fun xs Z r h S=>by
 unfold aA1 at h;split at h
 ·rename_i L J I G O u j;cases h;obtain⟨F,hF⟩:=aR3 L J I G O u j S;exact⟨KA,Iv,F,false,fS fun Post V=>fT (QG (b:=aGN L J I G O u j (fun f=>Post (.bool f)) (H2 F (aEQ F Post) F 0)) KA (by rewrite[aSm F Post];kernel_rfl)) (hF (fun f=>Post (.bool f)) V)⟩
 ·cases h
def aBB:Model UU
 |[.agg [.int .i64 O,.int .i64 L,.int .i64 J,.int .i64 I],.ref [.int .i64 G,.int .i64 u,.int .i64 j,.int .i64 f] 0]=>some ([],.bool (M9 O L J I G u j f))
 |_=>none
def Ea:Cfg UU:=aJd.add 172 aBB
theorem aNk:aE Ea:=tin aNE mixed func172 KA KA false fun xs f r h=>by
 unfold aBB at h;split at h
 ·cases h;exact⟨KA,KA⟩
 ·cases h
def aYK (F:Nat):=cX (aU Iy F 0 Ea) Ea f104.ntmps Iy F
def aP9 (F:Nat):=cA (aU Iy F 0 Ea) Ea f104.ntmps Iy F
abbrev aJL:=List aA->Int->Int->Int->Int->Int->Int->Int->Prop
def Ns (k:ASt UU->Prop):aJL:=(fun G O I J L u j f=>k ⟨tmL [(0,.sl .rect G),(1,.fn 172 [.ref [.i O,.i I,.i J,.i L] 0]),(4,.i u),(7,.i j),(8,.i f)],obL []⟩)
def bAQ:=(cL (cB (cS (cF (cS (bo f104))))))
def I1 (F:Nat) (K:zK) (n r:Nat):aJL:=Ns fun s=>iter (aYK F 0 bAQ) (Iy 0 0) n r s K
def aE0 (F:Nat) (Post:aC UU->Prop):zK:=bW 0 (aP9 F 0 (cS (cS (bo f104))) (bN Ea false f104 Post))
theorem aCg (F:Nat) (K:zK):∀n r,I1 F K n r=Ss F (Ns (K .ret)) (Ns (K (.exit 0))) n
 |0,_=>KA
 |n+1,r=>QG (b:=aG4 (I1 F K n (r+1)) (Ns (K .ret)) (Ns (K (.exit 0)))) KA (by rewrite[aCg F K n (r+1)];kernel_rfl)
theorem aSy (F:Nat) (Post:aC UU->Prop):I1 F (aE0 F Post) F 0=Wp F (fun f=>Post (.i f)):=
 (aCg F _ F 0).trans KA
def aAw:Model UU
 |[.sl .rect l,.fn 172 [.ref [.int .i64 G,.int .i64 u,.int .i64 j,.int .i64 f] 0]]=>some ([Va l G u j f],.i (Ts l G u j f))
 |_=>none
def aKB:Cfg UU:=Ea.add 104 aAw
theorem aNf:aE aKB:=dN aNk mixed func104 KA KA fun xs O r h J=>by
 unfold aAw at h;split at h
 ·rename_i l G u j f;cases h;obtain⟨F,hF⟩:=aR8 l G u j f J;exact⟨KA,Iy,F,false,fS fun Post L=>fT (QG (b:=aG5 l G u j f (fun I=>Post (.i I)) (I1 F (aE0 F Post) F 0)) KA (by rewrite[aSy F Post];kernel_rfl)) (hF (fun I=>Post (.i I)) L)⟩
 ·cases h
def aB0:Model UU
 |[.sl .bool a0,.bool f]=>some ([yJ a0 f],.bool (qX a0 f))
 |_=>none
def aKX:Cfg UU:=aKB.add 20 aB0
theorem aON:aE aKX:=dN aNf mixed func20 KA KA fun xs I r h u=>by
 unfold aB0 at h;split at h
 ·rename_i a0 f;cases h;refine⟨KA,M0,0,false,⟨iY (fun Q:Bool->Prop=>((Ve a0 f)/\Q (decide (0<=(Tw a0 f))))) (fun Q=>Q (qX a0 f)) (fun j=>(.bool j:aC UU)=.bool (qX a0 f)) KA (fun Q h=>?_) rfl⟩⟩
  try dsimp only at h ⊢
  unfold qX at h;have hp:yJ a0 f:=u;unfold yJ at hp;have G:=hp;refine⟨G,?_⟩;exact h
 ·cases h
def aBU:Model UU
 |[.agg [.sl .bool O,.sl .bools V,.sl .bool L,.sl .int G,.sl .bool J],.sl .edge Z,.agg [.int .i64 S,.int .i64 u,.int .i64 I,.int .i64 j,.int .i64 f]]=>some ([yI O V L G J Z S u I j f],.bool (vC O V L G J Z S u I j f))
 |_=>none
def aKV:Cfg UU:=aKX.add 95 aBU
theorem aOH:aE aKV:=dN aON mixed func95 KA KA fun xs cs r h hc=>by
 unfold aBU at h;split at h
 ·rename_i S u G O I V f j Z L J;cases h;refine⟨KA,M0,0,false,⟨iY (fun Q:Bool->Prop=>((0<=f/\f<I.length)/\cond (I.getD f.toNat default) (Q false) (cond (decide (0<=j)) (((0<=f/\f<u.length)/\((0<=j/\j<(u.getD f.toNat default).length)/\Q (!((u.getD f.toNat default).getD j.toNat default))))) ((((0<=f/\f<G.length)/\(((!(G.getD f.toNat default))=true->((0<=f/\f<u.length)/\yJ (u.getD f.toNat default) false))/\(((!(G.getD f.toNat default))&&(!(qX (u.getD f.toNat default) false)))=true->Ls S u G O I V f)))/\Q (((!(G.getD f.toNat default))&&(!(qX (u.getD f.toNat default) false)))&&(!(Ez S u G O I V f)))))))) (fun Q=>Q (vC S u G O I V f j Z L J)) (fun r0=>(.bool r0:aC UU)=.bool (vC S u G O I V f j Z L J)) KA (fun Q h=>?_) rfl⟩⟩
  try dsimp only at h ⊢
  unfold vC at h;have hp:yI S u G O I V f j Z L J:=hc;unfold yI at hp;obtain⟨fG,hp⟩:=hp;refine⟨fG,?_⟩;cases cJ:((I.getD f.toNat default))
  ·try simp only[cJ,QK] at h hp ⊢
   cases dR:(decide (0<=j))
   ·try simp only[dR,QK] at h hp ⊢
    obtain⟨Ot,aV7,aV6⟩:=hp;refine⟨⟨Ot,aV7,aV6⟩,?_⟩;exact h
   ·try simp only[dR,QY] at h hp ⊢
    obtain⟨Oq,hp⟩:=hp;refine⟨Oq,?_⟩;have fb:=hp;refine⟨fb,?_⟩;exact h
  ·try simp only[cJ,QY] at h hp ⊢
   exact h
 ·cases h
def aB1:Model UU
 |[.sl .rect l,.fn 172 [.ref [.int .i64 G,.int .i64 u,.int .i64 j,.int .i64 f] 0]]=>some ([Vj l G u j f],.bool (Fj l G u j f))
 |_=>none
def Ej:Cfg UU:=aKV.add 58 aB1
theorem aOP:aE Ej:=dN aOH mixed func58 KA KA fun xs O r h J=>by
 unfold aB1 at h;split at h
 ·rename_i l G u j f;cases h;refine⟨KA,M0,0,false,⟨iY (fun Q:Bool->Prop=>((Va l G u j f)/\Q (decide (0<=(Ts l G u j f))))) (fun Q=>Q (Fj l G u j f)) (fun I=>(.bool I:aC UU)=.bool (Fj l G u j f)) KA (fun Q h=>?_) rfl⟩⟩
  try dsimp only at h ⊢
  unfold Fj at h;have hp:Vj l G u j f:=J;unfold Vj at hp;have L:=hp;refine⟨L,?_⟩;exact h
 ·cases h
def aXv (F:Nat):=cX (aU Ij F 0 Ej) Ej f135.ntmps Ij F
def aPV (F:Nat):=cA (aU Ij F 0 Ej) Ej f135.ntmps Ij F
abbrev aIf:=List aA->Bool->Int->Int->List aA->Prop
def Mz (k:ASt UU->Prop):aIf:=(fun G u j f I=>k ⟨tmL [(0,.sl .rect G),(4,.bool u),(49,.osl 60 0),(50,.i j),(51,.i f)],obL [(60,.row .rect 0 I)]⟩)
def aZb:=(cL (cB (cS (cF (cS (cS (bo f135)))))))
def D9 (F:Nat) (K:zK) (n r:Nat):aIf:=Mz fun s=>iter (aXv F 0 aZb) (Ij 0 0) n r s K
def aDb (F:Nat) (Post:aC UU->Prop):zK:=bW 0 (aPV F 0 (cS (cS (cS (bo f135)))) (bN Ej false f135 Post))
theorem aBp (F:Nat) (K:zK):∀n r,D9 F K n r=Rt F (Mz (K .ret)) (Mz (K (.exit 0))) n
 |0,_=>KA
 |n+1,r=>QG (b:=aFM (D9 F K n (r+1)) (Mz (K .ret)) (Mz (K (.exit 0)))) KA (by rewrite[aBp F K n (r+1)];kernel_rfl)
theorem aSG (F:Nat) (Post:aC UU->Prop):D9 F (aDb F Post) F 0=Vy F (fun f=>Post (.bool f)):=
 (aBp F _ F 0).trans KA
def aAH:Model UU
 |[.sl .rect a0,.agg [.int .i64 f,.int .i64 j]]=>some ([Uq a0 f j],.bool (w7 a0 f j))
 |_=>none
def k8:Cfg UU:=Ej.add 135 aAH
theorem aMl:aE k8:=dN aOP mixed func135 KA KA fun xs J r h G=>by
 unfold aAH at h;split at h
 ·rename_i a0 j u;cases h;obtain⟨F,hF⟩:=aRJ a0 j u G;exact⟨KA,Ij,F,false,fS fun Post I=>fT (QG (b:=aFN a0 j u (fun f=>Post (.bool f)) (D9 F (aDb F Post) F 0)) KA (by rewrite[aSG F Post];kernel_rfl)) (hF (fun f=>Post (.bool f)) I)⟩
 ·cases h
def aH2 (F:Nat):=cX (aU Df F 0 k8) k8 f97.ntmps Df F
def vz (F:Nat):=cA (aU Df F 0 k8) k8 f97.ntmps Df F
abbrev aIi:=List Edg->Bool->List Pce->Int->Int->List Bool->zzB->List Bool->zzI->List Bool->Int->Int->Int->Int->Int->Int->Int->Prop
def Nd (k:ASt UU->Prop):aIi:=(fun I G u j f Z J L O S cK cP cZ dA V aG aI=>k ⟨tmL [(2,.sl .edge I),(4,.ptr 4 0),(7,.ptr 7 0),(8,.bool G),(9,.ptr 9 0),(95,.sl .pc u),(96,.i j),(97,.i f)],obL [(4,.cells [.sl .bool Z,.sl .bools J,.sl .bool L,.sl .int O,.sl .bool S]),(7,.cells [.i cK,.i cP,.i cZ,.i dA,.i V]),(9,.cells [.i aG,.i aI])]⟩)
abbrev aIh:=Bool->List Edg->Int->Int->List Bool->zzB->List Bool->zzI->List Bool->Int->Int->Int->Int->Int->Int->Int->Prop
def Nc (k:ASt UU->Prop):aIh:=(fun G u j f V I J L O cK cP cZ Z S aG aI=>k ⟨tmL [(4,.ptr 4 0),(7,.ptr 7 0),(8,.bool G),(9,.ptr 9 0),(106,.sl .edge u),(107,.i j),(108,.i f)],obL [(4,.cells [.sl .bool V,.sl .bools I,.sl .bool J,.sl .int L,.sl .bool O]),(7,.cells [.i cK,.i cP,.i cZ,.i Z,.i S]),(9,.cells [.i aG,.i aI])]⟩)
def aZf:=(cL (cB (cS (cF (cS4 (bo f97))))))
def aZe:=(cL (cB (cS (cF (cS4 (cS (bo f97)))))))
def E3 (F:Nat) (K:zK) (n r:Nat):aIi:=Nd fun s=>iter (aH2 F 0 aZf) (Df 0 0) n r s K
def E2 (F:Nat) (K:zK) (n r:Nat):aIh:=Nc fun s=>iter (aH2 F 2 aZe) (Df 0 2) n r s K
def aDf (F:Nat) (Post:aC UU->Prop):zK:=bW 0 (vz F 0 (cS4 (cS (bo f97))) (bN k8 false f97 Post))
def aDe (F:Nat) (Post:aC UU->Prop):zK:=bW 2 (vz F 0 (cS4 (cS (cS (bo f97)))) (bN k8 false f97 Post))
theorem aBs (F:Nat) (K:zK):∀n r,E2 F K n r=Rw F (Nc (K .ret)) (Nc (K (.exit 2))) n
 |0,_=>KA
 |n+1,r=>QG (b:=aFS (E2 F K n (r+1)) (Nc (K .ret)) (Nc (K (.exit 2)))) KA (by rewrite[aBs F K n (r+1)];kernel_rfl)
theorem aSJ (F:Nat) (Post:aC UU->Prop):E2 F (aDe F Post) F 0=Wa F (fun f=>Post (.bool f)):=
 (aBs F _ F 0).trans KA
theorem aBt (F:Nat) (K:zK):∀n r,E3 F K n r=Jq F (Nd (K .ret)) (Nd (K (.exit 0))) n
 |0,_=>KA
 |n+1,r=>QG (b:=aFT (E3 F K n (r+1)) (Nd (K .ret)) (Nd (K (.exit 0)))) KA (by rewrite[aBt F K n (r+1)];kernel_rfl)
theorem aSK (F:Nat) (Post:aC UU->Prop):E3 F (aDf F Post) F 0=V0 F (fun f=>Post (.bool f)):=
 (aBt F _ F 0).trans (QG (b:=Jq F (aFW (fun f=>Post (.bool f))) (fun J I G u j eG L O S V cK cP cZ dA Z aG aI=>aFV (fun f=>Post (.bool f)) J I G u j eG L O S V cK cP cZ dA Z aG aI (E2 F (aDe F Post) F 0)) F) KA (by rewrite[aSJ F Post];kernel_rfl))
def aAK:Model UU
 |[.agg [.sl .bool qr,.sl .bools ql,.sl .bool qt,.sl .int qz,.sl .bool qu],.agg [.str z0,.str Z,.int .i64 V,.int .i64 S,.int .i64 O,.int .i64 L,.sl .rect J,.sl .rect I,.sl .pc G],.sl .edge a2,.agg [.int .i64 u,.int .i64 j,.int .i64 f,.int .i64 qx,.int .i64 qy]]=>some ([Lr qr ql qt qz qu z0 Z V S O L J I G a2 u j f qx qy],.bool (Kq qr ql qt qz qu z0 Z V S O L J I G a2 u j f qx qy))
 |_=>none
def aJ4:Cfg UU:=k8.add 97 aAK
theorem aMn:aE aJ4:=dN aMl mixed func97 KA KA fun xs cs r h hc=>by
 unfold aAK at h;split at h
 ·rename_i qr ql qt qz qu z0 z1 Z V S O L J I a2 u j f qx qy;cases h;obtain⟨F,hF⟩:=aRM qr ql qt qz qu z0 z1 Z V S O L J I a2 u j f qx qy hc;exact⟨KA,Df,F,false,fS fun Post hP=>fT (QG (b:=aFU qr ql qt qz qu z0 z1 Z V S O L J I a2 u j f qx qy (fun G=>Post (.bool G)) (E3 F (aDf F Post) F 0)) KA (by rewrite[aSK F Post];kernel_rfl)) (hF (fun G=>Post (.bool G)) hP)⟩
 ·cases h
end
end Go.Proofs.YtgcpildegdgekaaGreatDoor
namespace Go.Proofs.YtgcpildegdgekaaGreatDoor
open Go.Proofs.Tryz
open Go.Lib Go.RowKit Go.Vm
noncomputable section
set_option maxHeartbeats 2000000 in
theorem aHt (L:Addr) (n c:Nat) (f:Nat->Value) (w:World) (hbig:n*1<=140737488355328) (V:∀j,j<n*1->w.cell? (L.add j)=some (f j)) (Z:∀j,j<n*1->(f j).oneCell'=true):
  Calls prog 137 #[.slice (some L) n c] w fun e w'=>∃I,e=.returned I/\w'.ownsRow w.heap.size 4 1 I n ((List.range (n*1)).map f)/\(∀a,I≠ .pointer a)/\Below w.heap.size w w':=by
 have Ap:∀(w:World) (a:Option Addr) (n c n' O:Nat),(binOp .eql 53 (.slice a n c) (.slice none n' O)).run prog w=.ok (.bool a.isNone) w:=fun w a n c n' O=>Lib.run_eql_slice_nil w _ _ a n c n' O underlying53
 obtain⟨i0,hi,qM,pK,qL⟩:=info_parts (P:=prog) (e:=4) (z:=.bool false) (size:=1) (bytes:=1) KA;have A:Aside ((∀j,j<n*1->w.cell? (L.add j)=some (f j))/\∀j,j<n*1->(f j).oneCell'=true):=⟨V,Z⟩;clear V Z
 go_enter func137,ntmps137
 go_wp2_with (at_builtin;refine wpList_append_own _ rfl _ _ 53 rfl w.heap.size 4 i0 (.bool false) 1 1 underlying53 hi qM pK qL rfl (by decide) _ _ _ rfl (World.ownsRow_made w #[] 0 (QP _) (Nat.zero_le _) rfl) L n c ((List.range (n*1)).map f) rfl ?An ?Am ?Al ?Ak ?Aj ?Ai ?_)
 case An=>simp
 case Am=>
  intro j u hj;have S:j<n*1:=by
   grind
  refine Lib.cell?_alloc_some _ ?_;rw[A.out.1 j S];grind
 case Al=>
  intro u hu;obtain⟨x,hx,rfl⟩:=JK.1 hu;exact A.out.2 x (JH.1 hx)
 case Ak=>unfold maxLen;omega
 case Aj=>omega
 case Ai=>simp
 intro I w1 J G hnil
 go_wp2
 go_ret
 refine⟨I,rfl,by grind,?_,?_⟩
 ·intro a e;subst e;rcases J.2 with ⟨h,_⟩|⟨_,_,_,h,_⟩<;>cases h
 ·exact((Below.refl _ w).alloc (QP _) _).grown G XQ (by grind [Value.ownBlock])
set_option maxHeartbeats 2000000 in
theorem aZO (w:World):
  Calls prog 137 #[.slice none 0 0] w fun e w'=>e=.returned (.slice none 0 0)/\w'=w:=by
 have j:∀(w:World) (a:Option Addr) (n c n' f:Nat),(binOp .eql 53 (.slice a n c) (.slice none n' f)).run prog w=.ok (.bool a.isNone) w:=fun w a n c n' f=>Lib.run_eql_slice_nil w _ _ a n c n' f underlying53
 go_enter func137,ntmps137
 go_wp2
 go_ret
 simp_all
def ae:Model UU
 |[.sl .bool xs]=>some ([xs.length<=2000000],.new .bool xs)
 |_=>none
theorem aO5 {C:Cfg UU} (hE:C.E=EE) (hs:aE C) (hP:C.P=prog):aE (C.add 137 ae):=by
 refine hs.put ⟨fun O w=>by simp_all,?_⟩;intro N w O xs cs r hinv hN J hm hc;unfold ae at hm;split at hm
 ·rename_i l;cases hm;have hc':l.length<=2000000:=hc;obtain⟨a,rfl,ha⟩:=Cm J;rw[hP];rw[hE] at ha ⊢;cases ha with
  |lO=>
   refine(aZO w).mono ?_
   rintro e w' ⟨rfl,rfl⟩
   refine⟨_,rfl,rK (cs:=[]) (Below.refl _ _) (JV _ _ _ _) (by grind) (fun i h=>absurd h XQ),Below.refl _ _⟩
  |sle _ ad=>
   refine(aHt ad 0 0 (fun _=>undef) w KI (fun j I=>absurd I KI) (fun j I=>absurd I KI)).mono ?_
   rintro e w' ⟨v',rfl,Z,V,L⟩
   exact⟨_,rfl,rK L Z V (fun i h=>absurd h XQ),L⟩
  |sl _ _ b o cap f hb hcap hc hl=>
   have lB:∀j,j<l.length*1->∃i k,∃(hi:i<l.length) (S:k<(EE.enc .bool l[i]).length),j=i*UU.size .bool+k:=fun j I=>by
    have hi:j / 1<l.length:=KI;refine⟨j / 1,j % 1,hi,by rw[EE.enc_len];grind,?_⟩;grind
   refine(aHt ⟨b,o,none⟩ l.length cap f w KI (fun j I=>by grind [Addr.wT]) (fun j I=>?_)).mono ?_
   ·obtain⟨i,k,hi,S,rfl⟩:=lB j I;have G:=EE.enc_flat _ _ _ (QH S);exact(hl i hi k S).sF G.2 (fun nm g u h=>by cases h) (fun id g h=>by rw[h] at G;cases G.1) (fun id g i off sz h=>by rw[h] at G;cases G.1) (fun id i g h=>by rw[h] at G;cases G.1) (fun id i g j off sz h=>by rw[h] at G;cases G.1)
   ·rintro e w' ⟨v',rfl,Z,V,L⟩
    refine⟨_,rfl,rK L Z V (fun i hi k S=>?_),L⟩;have hk':k<1:=by
     assumption
    grind
 grind
set_option maxHeartbeats 2000000 in
theorem aHs (L:Addr) (n c:Nat) (f:Nat->Value) (w:World) (hbig:n*8<=140737488355328) (V:∀j,j<n*1->w.cell? (L.add j)=some (f j)) (Z:∀j,j<n*1->(f j).oneCell'=true):
  Calls prog 138 #[.slice (some L) n c] w fun e w'=>∃I,e=.returned I/\w'.ownsRow w.heap.size 3 1 I n ((List.range (n*1)).map f)/\(∀a,I≠ .pointer a)/\Below w.heap.size w w':=by
 have Ap:∀(w:World) (a:Option Addr) (n c n' O:Nat),(binOp .eql 55 (.slice a n c) (.slice none n' O)).run prog w=.ok (.bool a.isNone) w:=fun w a n c n' O=>Lib.run_eql_slice_nil w _ _ a n c n' O underlying55
 obtain⟨i0,hi,qM,pK,qL⟩:=info_parts (P:=prog) (e:=3) (z:=.int .i64 0) (size:=1) (bytes:=8) KA;have A:Aside ((∀j,j<n*1->w.cell? (L.add j)=some (f j))/\∀j,j<n*1->(f j).oneCell'=true):=⟨V,Z⟩;clear V Z
 go_enter func138,ntmps138
 go_wp2_with (at_builtin;refine wpList_append_own _ rfl _ _ 55 rfl w.heap.size 3 i0 (.int .i64 0) 1 8 underlying55 hi qM pK qL rfl (by decide) _ _ _ rfl (World.ownsRow_made w #[] 0 (QP _) (Nat.zero_le _) rfl) L n c ((List.range (n*1)).map f) rfl ?An ?Am ?Al ?Ak ?Aj ?Ai ?_)
 case An=>simp
 case Am=>
  intro j u hj;have S:j<n*1:=by
   grind
  refine Lib.cell?_alloc_some _ ?_;rw[A.out.1 j S];grind
 case Al=>
  intro u hu;obtain⟨x,hx,rfl⟩:=JK.1 hu;exact A.out.2 x (JH.1 hx)
 case Ak=>unfold maxLen;omega
 case Aj=>omega
 case Ai=>simp
 intro I w1 J G hnil
 go_wp2
 go_ret
 refine⟨I,rfl,by grind,?_,?_⟩
 ·intro a e;subst e;rcases J.2 with ⟨h,_⟩|⟨_,_,_,h,_⟩<;>cases h
 ·exact((Below.refl _ w).alloc (QP _) _).grown G XQ (by grind [Value.ownBlock])
set_option maxHeartbeats 2000000 in
theorem aZN (w:World):
  Calls prog 138 #[.slice none 0 0] w fun e w'=>e=.returned (.slice none 0 0)/\w'=w:=by
 have j:∀(w:World) (a:Option Addr) (n c n' f:Nat),(binOp .eql 55 (.slice a n c) (.slice none n' f)).run prog w=.ok (.bool a.isNone) w:=fun w a n c n' f=>Lib.run_eql_slice_nil w _ _ a n c n' f underlying55
 go_enter func138,ntmps138
 go_wp2
 go_ret
 simp_all
def ab:Model UU
 |[.sl .int xs]=>some ([xs.length<=2000000],.new .int xs)
 |_=>none
theorem aO4 {C:Cfg UU} (hE:C.E=EE) (hs:aE C) (hP:C.P=prog):aE (C.add 138 ab):=by
 refine hs.put ⟨fun O w=>by simp_all,?_⟩;intro N w O xs cs r hinv hN J hm hc;unfold ab at hm;split at hm
 ·rename_i l;cases hm;have hc':l.length<=2000000:=hc;obtain⟨a,rfl,ha⟩:=Cm J;rw[hP];rw[hE] at ha ⊢;cases ha with
  |lO=>
   refine(aZN w).mono ?_
   rintro e w' ⟨rfl,rfl⟩
   refine⟨_,rfl,rK (cs:=[]) (Below.refl _ _) (JV _ _ _ _) (by grind) (fun i h=>absurd h XQ),Below.refl _ _⟩
  |sle _ ad=>
   refine(aHs ad 0 0 (fun _=>undef) w KI (fun j I=>absurd I KI) (fun j I=>absurd I KI)).mono ?_
   rintro e w' ⟨v',rfl,Z,V,L⟩
   exact⟨_,rfl,rK L Z V (fun i h=>absurd h XQ),L⟩
  |sl _ _ b o cap f hb hcap hc hl=>
   have lB:∀j,j<l.length*1->∃i k,∃(hi:i<l.length) (S:k<(EE.enc .int l[i]).length),j=i*UU.size .int+k:=fun j I=>by
    have hi:j / 1<l.length:=KI;refine⟨j / 1,j % 1,hi,by rw[EE.enc_len];grind,?_⟩;grind
   refine(aHs ⟨b,o,none⟩ l.length cap f w KI (fun j I=>by grind [Addr.wT]) (fun j I=>?_)).mono ?_
   ·obtain⟨i,k,hi,S,rfl⟩:=lB j I;have G:=EE.enc_flat _ _ _ (QH S);exact(hl i hi k S).sF G.2 (fun nm g u h=>by cases h) (fun id g h=>by rw[h] at G;cases G.1) (fun id g i off sz h=>by rw[h] at G;cases G.1) (fun id i g h=>by rw[h] at G;cases G.1) (fun id i g j off sz h=>by rw[h] at G;cases G.1)
   ·rintro e w' ⟨v',rfl,Z,V,L⟩
    refine⟨_,rfl,rK L Z V (fun i hi k S=>?_),L⟩;have hk':k<1:=by
     assumption
    grind
 grind
def aK3:Cfg UU:=aJ4.add 137 ae
theorem aOV:aE aK3:=aO5 rfl aMn rfl
def pA:Cfg UU:=aK3.add 138 ab
theorem aOW:aE pA:=aO4 rfl aOV rfl
def aH4 (F:Nat):=cX (aU qR F 4 (nK pA).bZ) (nK pA).bZ f45.ntmps qR F
def Q2 (F:Nat):=cA (aU qR F 4 (nK pA).bZ) (nK pA).bZ f45.ntmps qR F
abbrev aJB:=zzB->Int->Int->List Edg->ByteArray->ByteArray->Int->Int->Int->Int->List aA->List aA->List Pce->Int->Int->Int->Int->Int->List Bool->List Bool->zzI->List Bool->zzB->Prop
def bz (k:ASt UU->Prop):aJB:=(fun u j f G eG fA eZ eY eX V Z jO iS cK cP cZ dA eW S O L J I=>k ⟨tmL [(2,.ptr 109002 0),(3,.ptr 109003 0),(20,.sl .bools u),(21,.i j),(22,.i f),(1000001,.sl .edge G),(1000004,.ptr 4 0),(1000007,.ptr 7 0),(1000008,.ptr 8 0)],obL [(109035,.row .bool 0 S),(109036,.row .bool 0 O),(109037,.row .int 0 L),(109038,.row .bool 0 J),(109039,.deep .bools 0 0 I),(4,.cells [.str eG,.str fA,.i eZ,.i eY,.i eX,.i V,.sl .rect Z,.sl .rect jO,.sl .pc iS]),(7,.cells [.i cK,.i cP,.i cZ,.i dA,.i eW]),(8,.cells [.nils,.nils,.nils,.nils,.nils]),(109002,.cells [.nils,.nils,.nils,.nils,.nils]),(109003,.cells [.osl 109035 0,.osl 109039 0,.osl 109036 0,.osl 109037 0,.osl 109038 0])]⟩)
abbrev aJA:=List Edg->Int->Int->List Bool->zzB->List Bool->zzI->List Bool->Prop
def bw (k:ASt UU->Prop):aJA:=(fun u j f I G O L J=>k ⟨tmL [(1,.sl .edge u),(8,.ptr 8 0),(10,.ptr 10 0),(151,.i j),(152,.i f)],obL [(181,.row .bool 0 I),(182,.deep .bools 0 0 G),(183,.row .bool 0 O),(184,.row .int 0 L),(185,.row .bool 0 J),(8,.cells [.nils,.nils,.nils,.nils,.nils]),(10,.cells [.osl 181 0,.osl 182 0,.osl 183 0,.osl 184 0,.osl 185 0])]⟩)
abbrev aIz:=List Edg->List Edg->Int->Int->ByteArray->ByteArray->Int->Int->Int->Int->List aA->List aA->List Pce->Int->Int->Int->Int->Int->List Bool->zzB->List Bool->zzI->List Bool->Prop
def bu (k:ASt UU->Prop):aIz:=(fun G u j f eG fA eZ eY eX I J L Z cK cP cZ dA eW S O iK iQ V=>k ⟨tmL [(1,.sl .edge G),(4,.ptr 4 0),(7,.ptr 7 0),(8,.ptr 8 0),(10,.ptr 10 0),(133,.sl .edge u),(134,.i j),(135,.i f)],obL [(181,.row .bool 0 S),(182,.deep .bools 0 0 O),(183,.row .bool 0 iK),(184,.row .int 0 iQ),(185,.row .bool 0 V),(4,.cells [.str eG,.str fA,.i eZ,.i eY,.i eX,.i I,.sl .rect J,.sl .rect L,.sl .pc Z]),(7,.cells [.i cK,.i cP,.i cZ,.i dA,.i eW]),(8,.cells [.nils,.nils,.nils,.nils,.nils]),(10,.cells [.osl 181 0,.osl 182 0,.osl 183 0,.osl 184 0,.osl 185 0])]⟩)
def bAD:=(cL (cB (cS (cF (cS (cS (bo f98)))))))
def bAC:=(cL (cB (cS (cF (cS4 (bo f45))))))
def bAB:=(cL (cB (cS (cS (cE (cS (cF (cS (cS (cS (bo f45)))))))))))
def G6 (F:Nat) (K:zK) (n r:Nat):aJB:=bz fun s=>iter (cX (aU qR F 3 ((nK pA).bZ.at 109000)) ((nK pA).bZ.at 109000) f98.ntmps qR F 0 bAD) (qR 109000 0) n r s K
def Qp (F:Nat) (K:zK) (n r:Nat):aJA:=bw fun s=>iter (aH4 F 3 bAC) (qR 0 3) n r s K
def G5 (F:Nat) (K:zK) (n r:Nat):aIz:=bu fun s=>iter (aH4 F 1 bAB) (qR 0 1) n r s K
def aEK (F:Nat) (Post:aC UU->Prop):zK:=bW 0 (cA (aU qR F 3 ((nK pA).bZ.at 109000)) ((nK pA).bZ.at 109000) f98.ntmps qR F 0 (cS (cS (cS (bo f98)))) (Gl (aU qR F 4 (nK pA).bZ) (nK pA).bZ f45.ntmps (cR (cF (cS (cS (bo f45))))) 4 2 f98 (some 108) (fun f=>(Q2 F 0 (cS (cS (cS (bo f45)))) (bN (nK pA).bZ false f45 Post)) .normal f)))
def dq (F:Nat) (Post:aC UU->Prop):zK:=bW 3 (Q2 F 0 (cS4 (cS (bo f45))) (bN (nK pA).bZ false f45 Post))
def aEJ (F:Nat) (Post:aC UU->Prop):zK:=bW 1 (Q2 F 0 (cS4 (bo f45)) (bN (nK pA).bZ false f45 Post))
theorem aCY (F:Nat) (K:zK):∀n r,Qp F K n r=Se F (bw (K (.exit 3))) n
 |0,_=>KA
 |n+1,r=>QG (b:=aGA (Qp F K n (r+1)) (bw (K (.exit 3)))) KA (by rewrite[aCY F K n (r+1)];kernel_rfl)
theorem ym (F:Nat) (Post:aC UU->Prop):Qp F (dq F Post) F 0=Mn F (fun j I u J G f=>Post (.tup [.agg [.sl .bool j,.sl .bools I,.sl .bool u,.sl .int J,.sl .bool G],.i f])):=
 (aCY F _ F 0).trans KA
theorem aCX (F:Nat) (K:zK):∀n r,G5 F K n r=Kd F (bu (K (.exit 1))) n
 |0,_=>KA
 |n+1,r=>QG (b:=aFz (G5 F K n (r+1)) (bu (K (.exit 1)))) KA (by rewrite[aCX F K n (r+1)];kernel_rfl)
theorem aSf (F:Nat) (Post:aC UU->Prop):G5 F (aEJ F Post) F 0=Wi F (fun I O J S L G=>Post (.tup [.agg [.sl .bool I,.sl .bools O,.sl .bool J,.sl .int S,.sl .bool L],.i G])):=
 (aCX F _ F 0).trans (QG (b:=Kd F (fun V u j f eG fA eZ eY eX Z jP jO iS cK cP cZ dA eW jC jL iK iQ jB=>aGD (fun I O J S L G=>Post (.tup [.agg [.sl .bool I,.sl .bools O,.sl .bool J,.sl .int S,.sl .bool L],.i G])) V u j f eG fA eZ eY eX Z jP jO iS cK cP cZ dA eW jC jL iK iQ jB (Qp F (dq F Post) F 0)) F) KA (by rewrite[ym F Post];kernel_rfl))
theorem aCZ (F:Nat) (K:zK):∀n r,G6 F K n r=Ke F (bz (K (.exit 0))) n
 |0,_=>KA
 |n+1,r=>QG (b:=aGB (G6 F K n (r+1)) (bz (K (.exit 0)))) KA (by rewrite[aCZ F K n (r+1)];kernel_rfl)
theorem aSg (F:Nat) (Post:aC UU->Prop):G6 F (aEK F Post) F 0=Mo F (fun j I u J G f=>Post (.tup [.agg [.sl .bool j,.sl .bools I,.sl .bool u,.sl .int J,.sl .bool G],.i f])):=
 (aCZ F _ F 0).trans (QG (b:=Ke F (fun S O L V eG fA eZ eY eX jQ jP jO iS cK cP cZ dA eW qbh qbi qbj qbk Z=>aGE (fun j I u J G f=>Post (.tup [.agg [.sl .bool j,.sl .bools I,.sl .bool u,.sl .int J,.sl .bool G],.i f])) S O L V eG fA eZ eY eX jQ jP jO iS cK cP cZ dA eW qbh qbi qbj qbk Z (Qp F (dq F Post) F 0) (G5 F (aEJ F Post) F 0)) F) KA (by rewrite[ym F Post,aSf F Post];kernel_rfl))
def aAW:Model UU
 |[.agg [.str y0,.str y1,.int .i64 y2,.int .i64 y3,.int .i64 y4,.int .i64 Z,.sl .rect V,.sl .rect S,.sl .pc O],.sl .edge a1,.agg [.sl .bool G,.sl .bools u,.sl .bool j,.sl .int qw,.sl .bool f],.agg [.int .i64 L,.int .i64 J,.int .i64 I,.int .i64 qx,.int .i64 qy]]=>some ([Lu y0 y1 y2 y3 y4 Z V S O a1 G u j qw f L J I qx qy],.tup [.agg [.sl .bool ((iW y0 y1 y2 y3 y4 Z V S O a1 G u j qw f L J I qx qy).1),.sl .bools ((iW y0 y1 y2 y3 y4 Z V S O a1 G u j qw f L J I qx qy).2.1),.sl .bool ((iW y0 y1 y2 y3 y4 Z V S O a1 G u j qw f L J I qx qy).2.2.1),.sl .int ((iW y0 y1 y2 y3 y4 Z V S O a1 G u j qw f L J I qx qy).2.2.2.1),.sl .bool ((iW y0 y1 y2 y3 y4 Z V S O a1 G u j qw f L J I qx qy).2.2.2.2.1)],.i ((iW y0 y1 y2 y3 y4 Z V S O a1 G u j qw f L J I qx qy).2.2.2.2.2)])
 |_=>none
def aJa:Cfg UU:=pA.add 45 aAW
theorem aMz:aE aJa:=(bB4 rfl aOW) mixed (c:=bo f45) func45 KA KA fun xs cs r h hc=>by
 unfold aAW at h;split at h
 ·rename_i y0 y1 y2 y3 y4 y5 y6 y7 y8 a1 G u j qw f L J I qx qy;cases h;obtain⟨F,hF⟩:=aRY y0 y1 y2 y3 y4 y5 y6 y7 y8 a1 G u j qw f L J I qx qy hc;exact⟨KA,qR,F,false,fS fun Post hP=>fT (QG (b:=aGC y0 y1 y2 y3 y4 y5 y6 y7 y8 a1 G u j qw f L J I qx qy (fun S gO V gN Z O=>Post (.tup [.agg [.sl .bool S,.sl .bools gO,.sl .bool V,.sl .int gN,.sl .bool Z],.i O])) (G6 F (aEK F Post) F 0)) KA (by rewrite[aSg F Post];kernel_rfl)) (hF (fun S gO V gN Z O=>Post (.tup [.agg [.sl .bool S,.sl .bools gO,.sl .bool V,.sl .int gN,.sl .bool Z],.i O])) hP)⟩
 ·cases h
def aBZ:Model UU
 |[.agg [.str y0,.str y1,.int .i64 y2,.int .i64 y3,.int .i64 y4,.int .i64 y5,.sl .rect Z,.sl .rect V,.sl .pc S],.agg [.sl .bool I,.sl .bools G,.sl .bool u,.sl .int j,.sl .bool f],.agg [.int .i64 qn,.int .i64 O,.int .i64 qw,.int .i64 L,.int .i64 J]]=>some ([Fz y0 y1 y2 y3 y4 y5 Z V S I G u j f qn O qw L J],.tup [.agg [.sl .bool ((kJ y0 y1 y2 y3 y4 y5 Z V S I G u j f qn O qw L J).1),.sl .bools ((kJ y0 y1 y2 y3 y4 y5 Z V S I G u j f qn O qw L J).2.1),.sl .bool ((kJ y0 y1 y2 y3 y4 y5 Z V S I G u j f qn O qw L J).2.2.1),.sl .int ((kJ y0 y1 y2 y3 y4 y5 Z V S I G u j f qn O qw L J).2.2.2.1),.sl .bool ((kJ y0 y1 y2 y3 y4 y5 Z V S I G u j f qn O qw L J).2.2.2.2.1)],.i ((kJ y0 y1 y2 y3 y4 y5 Z V S I G u j f qn O qw L J).2.2.2.2.2)])
 |_=>none
def aKW:Cfg UU:=aJa.add 18 aBZ
theorem aOM:aE aKW:=dN aMz mixed func18 KA KA fun xs cs r h hc=>by
 unfold aBZ at h;split at h
 ·rename_i y0 y1 y2 y3 y4 y5 Z V S I G u j f qn O qw L J;cases h;refine⟨KA,M0,0,false,⟨iY (fun Q:(List Bool)->(zzB)->(List Bool)->(zzI)->(List Bool)->Int->Prop=>((sD y0 y1 y2 y3 y4 y5 Z V S)/\cond (((dC y0 y1 y2 y3 y4 y5 Z V S).2) !=0) (Q ([]) ([]) ([]) ([]) ([]) ((dC y0 y1 y2 y3 y4 y5 Z V S).2)) (((Lu y0 y1 y2 y3 y4 y5 Z V S ((dC y0 y1 y2 y3 y4 y5 Z V S).1) I G u j f qn O qw L J)/\Q ((iW y0 y1 y2 y3 y4 y5 Z V S ((dC y0 y1 y2 y3 y4 y5 Z V S).1) I G u j f qn O qw L J).1) ((iW y0 y1 y2 y3 y4 y5 Z V S ((dC y0 y1 y2 y3 y4 y5 Z V S).1) I G u j f qn O qw L J).2.1) ((iW y0 y1 y2 y3 y4 y5 Z V S ((dC y0 y1 y2 y3 y4 y5 Z V S).1) I G u j f qn O qw L J).2.2.1) ((iW y0 y1 y2 y3 y4 y5 Z V S ((dC y0 y1 y2 y3 y4 y5 Z V S).1) I G u j f qn O qw L J).2.2.2.1) ((iW y0 y1 y2 y3 y4 y5 Z V S ((dC y0 y1 y2 y3 y4 y5 Z V S).1) I G u j f qn O qw L J).2.2.2.2.1) ((iW y0 y1 y2 y3 y4 y5 Z V S ((dC y0 y1 y2 y3 y4 y5 Z V S).1) I G u j f qn O qw L J).2.2.2.2.2))))) (fun Q=>Q ((kJ y0 y1 y2 y3 y4 y5 Z V S I G u j f qn O qw L J).1) ((kJ y0 y1 y2 y3 y4 y5 Z V S I G u j f qn O qw L J).2.1) ((kJ y0 y1 y2 y3 y4 y5 Z V S I G u j f qn O qw L J).2.2.1) ((kJ y0 y1 y2 y3 y4 y5 Z V S I G u j f qn O qw L J).2.2.2.1) ((kJ y0 y1 y2 y3 y4 y5 Z V S I G u j f qn O qw L J).2.2.2.2.1) ((kJ y0 y1 y2 y3 y4 y5 Z V S I G u j f qn O qw L J).2.2.2.2.2)) (fun gR gO gQ gN gP r1=>(.tup [.agg [.sl .bool gR,.sl .bools gO,.sl .bool gQ,.sl .int gN,.sl .bool gP],.i r1]:aC UU)=.tup [.agg [.sl .bool ((kJ y0 y1 y2 y3 y4 y5 Z V S I G u j f qn O qw L J).1),.sl .bools ((kJ y0 y1 y2 y3 y4 y5 Z V S I G u j f qn O qw L J).2.1),.sl .bool ((kJ y0 y1 y2 y3 y4 y5 Z V S I G u j f qn O qw L J).2.2.1),.sl .int ((kJ y0 y1 y2 y3 y4 y5 Z V S I G u j f qn O qw L J).2.2.2.1),.sl .bool ((kJ y0 y1 y2 y3 y4 y5 Z V S I G u j f qn O qw L J).2.2.2.2.1)],.i ((kJ y0 y1 y2 y3 y4 y5 Z V S I G u j f qn O qw L J).2.2.2.2.2)]) KA (fun Q h=>?_) rfl⟩⟩
  try dsimp only at h ⊢
  unfold kJ at h;have hp:Fz y0 y1 y2 y3 y4 y5 Z V S I G u j f qn O qw L J:=hc;unfold Fz at hp;obtain⟨fG,hp⟩:=hp;refine⟨fG,?_⟩;cases cJ:(((dC y0 y1 y2 y3 y4 y5 Z V S).2) !=0)
  ·try simp only[cJ,QK] at h hp ⊢
   have sP:=hp;refine⟨sP,?_⟩;exact h
  ·try simp only[cJ,QY] at h hp ⊢
   exact h
 ·cases h
def aBW:Model UU
 |[.agg [.sl .bool G,.sl .bools I,.sl .bool u,.sl .int f,.sl .bool j]]=>some ([],.tup [])
 |_=>none
def Eg:Cfg UU:=aKW.add 47 aBW
theorem aOJ:aE Eg:=tin aOM mixed func47 KA KA false fun xs f r h=>by
 unfold aBW at h;split at h
 ·cases h;exact⟨KA,KA⟩
 ·cases h
def aYJ (F:Nat):=cX (aU Ix F 0 Eg) Eg f46.ntmps Ix F
def aP8 (F:Nat):=cA (aU Ix F 0 Eg) Eg f46.ntmps Ix F
abbrev aJK:=Int->Int->List Edg->List Itm->Int->Int->ByteArray->ByteArray->Int->Int->Int->Int->List aA->List aA->List Pce->List Bool->zzB->List Bool->zzI->List Bool->Prop
def Nq (k:ASt UU->Prop):aJK:=(fun J I G u j f dF dE dK dL gS L O S V Z iD iC iB iA=>k ⟨tmL [(2,.fn 47 []),(3,.ptr 3 0),(6,.ptr 6 0),(7,.i J),(8,.i I),(9,.sl .edge G),(11,.ptr 11 0),(33,.sl .item u),(34,.i j),(35,.i f)],obL [(3,.cells [.str dF,.str dE,.i dK,.i dL,.i gS,.i L,.sl .rect O,.sl .rect S,.sl .pc V]),(6,.cells [.nils,.nils,.nils,.nils,.nils]),(11,.cells [.sl .bool Z,.sl .bools iD,.sl .bool iC,.sl .int iB,.sl .bool iA])]⟩)
def bAP:=(cL (cB (cS (cF (cS4 (cS (bo f46)))))))
def H9 (F:Nat) (K:zK) (n r:Nat):aJK:=Nq fun s=>iter (aYJ F 0 bAP) (Ix 0 0) n r s K
def aEZ (F:Nat) (Post:aC UU->Prop):zK:=bW 0 (aP8 F 0 (cS4 (cS (cS (bo f46)))) (bN Eg false f46 Post))
theorem aCe (F:Nat) (K:zK):∀n r,H9 F K n r=Sp F (Nq (K .ret)) (Nq (K (.exit 0))) n
 |0,_=>KA
 |n+1,r=>QG (b:=aGY (H9 F K n (r+1)) (Nq (K .ret)) (Nq (K (.exit 0)))) KA (by rewrite[aCe F K n (r+1)];kernel_rfl)
theorem aSv (F:Nat) (Post:aC UU->Prop):H9 F (aEZ F Post) F 0=X9 F (fun u J G L I j f=>Post (.tup [.agg [.sl .bool u,.sl .bools J,.sl .bool G,.sl .int L,.sl .bool I],.i j,.i f])):=
 (aCe F _ F 0).trans KA
def aA8:Model UU
 |[.agg [.str S,.str O,.int .i64 L,.int .i64 J,.int .i64 I,.int .i64 G,.sl .rect u,.sl .rect j,.sl .pc ps],.sl .item f,.fn 47 []]=>some ([Fv S O L J I G u j ps f],.tup [.agg [.sl .bool ((fC S O L J I G u j ps f).1),.sl .bools ((fC S O L J I G u j ps f).2.1),.sl .bool ((fC S O L J I G u j ps f).2.2.1),.sl .int ((fC S O L J I G u j ps f).2.2.2.1),.sl .bool ((fC S O L J I G u j ps f).2.2.2.2.1)],.i ((fC S O L J I G u j ps f).2.2.2.2.2.1),.i ((fC S O L J I G u j ps f).2.2.2.2.2.2)])
 |_=>none
def aJf:Cfg UU:=Eg.add 46 aA8
theorem aNN:aE aJf:=dN aOJ mixed func46 KA KA fun xs cs r h hc=>by
 unfold aA8 at h;split at h
 ·rename_i c0 c1 c2 c3 c4 Z V S ps f;cases h;obtain⟨F,hF⟩:=aR7 c0 c1 c2 c3 c4 Z V S ps f hc;exact⟨KA,Ix,F,false,fS fun Post hP=>fT (QG (b:=aGZ c0 c1 c2 c3 c4 Z V S ps f (fun G L I O J u j=>Post (.tup [.agg [.sl .bool G,.sl .bools L,.sl .bool I,.sl .int O,.sl .bool J],.i u,.i j])) (H9 F (aEZ F Post) F 0)) KA (by rewrite[aSv F Post];kernel_rfl)) (hF (fun G L I O J u j=>Post (.tup [.agg [.sl .bool G,.sl .bools L,.sl .bool I,.sl .int O,.sl .bool J],.i u,.i j])) hP)⟩
 ·cases h
def aBX:Model UU
 |[.agg [.str S,.str O,.int .i64 L,.int .i64 J,.int .i64 I,.int .i64 G,.sl .rect u,.sl .rect j,.sl .pc f],.sl .item V]=>some ([Vi S O L J I G u j f V],.tup [.agg [.sl .bool ((kH S O L J I G u j f V).1),.sl .bools ((kH S O L J I G u j f V).2.1),.sl .bool ((kH S O L J I G u j f V).2.2.1),.sl .int ((kH S O L J I G u j f V).2.2.2.1),.sl .bool ((kH S O L J I G u j f V).2.2.2.2.1)],.i ((kH S O L J I G u j f V).2.2.2.2.2.1),.i ((kH S O L J I G u j f V).2.2.2.2.2.2)])
 |_=>none
def Eh:Cfg UU:=aJf.add 19 aBX
theorem aOK:aE Eh:=dN aNN mixed func19 KA KA fun xs cs r h hc=>by
 unfold aBX at h;split at h
 ·rename_i S O L J I G u j f V;cases h;refine⟨KA,M0,0,false,⟨iY (fun Q:(List Bool)->(zzB)->(List Bool)->(zzI)->(List Bool)->Int->Int->Prop=>((Fv S O L J I G u j f V)/\Q ((fC S O L J I G u j f V).1) ((fC S O L J I G u j f V).2.1) ((fC S O L J I G u j f V).2.2.1) ((fC S O L J I G u j f V).2.2.2.1) ((fC S O L J I G u j f V).2.2.2.2.1) ((fC S O L J I G u j f V).2.2.2.2.2.1) ((fC S O L J I G u j f V).2.2.2.2.2.2))) (fun Q=>Q ((kH S O L J I G u j f V).1) ((kH S O L J I G u j f V).2.1) ((kH S O L J I G u j f V).2.2.1) ((kH S O L J I G u j f V).2.2.2.1) ((kH S O L J I G u j f V).2.2.2.2.1) ((kH S O L J I G u j f V).2.2.2.2.2.1) ((kH S O L J I G u j f V).2.2.2.2.2.2)) (fun gR gO gQ gN gP r1 Z=>(.tup [.agg [.sl .bool gR,.sl .bools gO,.sl .bool gQ,.sl .int gN,.sl .bool gP],.i r1,.i Z]:aC UU)=.tup [.agg [.sl .bool ((kH S O L J I G u j f V).1),.sl .bools ((kH S O L J I G u j f V).2.1),.sl .bool ((kH S O L J I G u j f V).2.2.1),.sl .int ((kH S O L J I G u j f V).2.2.2.1),.sl .bool ((kH S O L J I G u j f V).2.2.2.2.1)],.i ((kH S O L J I G u j f V).2.2.2.2.2.1),.i ((kH S O L J I G u j f V).2.2.2.2.2.2)]) KA (fun Q h=>?_) rfl⟩⟩
  try dsimp only at h ⊢
  unfold kH at h;have hp:Vi S O L J I G u j f V:=hc;unfold Vi at hp;have fG:=hp;refine⟨fG,?_⟩;exact h
 ·cases h
def aXs (F:Nat):=cX (aU Ig F 0 Eh) Eh Tryz.f5.ntmps Ig F
def aPS (F:Nat):=cA (aU Ig F 0 Eh) Eh Tryz.f5.ntmps Ig F
abbrev aIc:=Int->zzB->Int->Int->Prop
def Ms (k:ASt UU->Prop):aIc:=(fun G u j f=>k ⟨tmL [(4,.i G),(24,.sl .bools u),(25,.i j),(26,.i f)],obL []⟩)
def aZ3:=(cL (cB (cS (cF (cS4 (bo Tryz.f5))))))
def C9 (F:Nat) (K:zK) (n r:Nat):aIc:=Ms fun s=>iter (aXs F 0 aZ3) (Ig 0 0) n r s K
def aDZ (F:Nat) (Post:aC UU->Prop):zK:=bW 0 (aPS F 0 (cS4 (cS (bo Tryz.f5))) (bN Eh false Tryz.f5 Post))
theorem aBd (F:Nat) (K:zK):∀n r,C9 F K n r=Ro F (Ms (K .ret)) (Ms (K (.exit 0))) n
 |0,_=>KA
 |n+1,r=>QG (b:=aEv (C9 F K n (r+1)) (Ms (K .ret)) (Ms (K (.exit 0)))) KA (by rewrite[aBd F K n (r+1)];kernel_rfl)
theorem aRu (F:Nat) (Post:aC UU->Prop):C9 F (aDZ F Post) F 0=Vw F (fun f=>Post (.i f)):=
 (aBd F _ F 0).trans KA
def aAB:Model UU
 |[.agg [.str S,.str O,.int .i64 L,.int .i64 J,.int .i64 I,.int .i64 G,.sl .rect u,.sl .rect j,.sl .pc f],.sl .item V]=>some ([Fu S O L J I G u j f V],.i (kX S O L J I G u j f V))
 |_=>none
def k7:Cfg UU:=Eh.add 5 aAB
theorem aMg:aE k7:=dN aOK mixed func5 KA KA fun xs cs r h hc=>by
 unfold aAB at h;split at h
 ·rename_i V S O L J I G u j Z;cases h;obtain⟨F,hF⟩:=aRD V S O L J I G u j Z hc;exact⟨KA,Ig,F,false,fS fun Post hP=>fT (QG (b:=aEw V S O L J I G u j Z (fun f=>Post (.i f)) (C9 F (aDZ F Post) F 0)) KA (by rewrite[aRu F Post];kernel_rfl)) (hF (fun f=>Post (.i f)) hP)⟩
 ·cases h
def Hk (F:Nat):=cX (aU tC F 0 k7) k7 Tryz.f4.ntmps tC F
def Lk (F:Nat):=cA (aU tC F 0 k7) k7 Tryz.f4.ntmps tC F
abbrev aIm:=List Itm->List Edg->List Pce->Int->Int->ByteArray->ByteArray->Int->Int->Int->Int->List aA->List aA->List Pce->List Bool->zzB->List Bool->zzI->List Bool->List Opn->Prop
def Xl (k:ASt UU->Prop):aIm:=(fun I G u j f bE bD bG bF bI bH Z bK V aG aI J L O S=>k ⟨tmL [(1,.sl .item I),(2,.ptr 2 0),(7,.sl .edge G),(9,.ptr 9 0),(11,.osl 157 0),(12,.nils),(41,.sl .pc u),(42,.i j),(43,.i f)],obL [(157,.row .op 0 S),(2,.cells [.str bE,.str bD,.i bG,.i bF,.i bI,.i bH,.sl .rect Z,.sl .rect bK,.sl .pc V]),(9,.cells [.sl .bool aG,.sl .bools aI,.sl .bool J,.sl .int L,.sl .bool O])]⟩)
abbrev aIl:=List Itm->List Edg->List Pce->Int->Int->List aA->Int->Int->ByteArray->ByteArray->Int->Int->Int->Int->List aA->List aA->List Pce->List Bool->zzB->List Bool->zzI->List Bool->List Opn->Prop
def bb (k:ASt UU->Prop):aIl:=(fun O L J I G u j f bE bD bG bF bI bH bL bK bO aG aI S V Z eB=>k ⟨tmL [(1,.sl .item O),(2,.ptr 2 0),(7,.sl .edge L),(9,.ptr 9 0),(11,.osl 157 0),(12,.nils),(41,.sl .pc J),(42,.i I),(43,.i G),(48,.sl .rect u),(49,.i j),(50,.i f)],obL [(157,.row .op 0 eB),(2,.cells [.str bE,.str bD,.i bG,.i bF,.i bI,.i bH,.sl .rect bL,.sl .rect bK,.sl .pc bO]),(9,.cells [.sl .bool aG,.sl .bools aI,.sl .bool S,.sl .int V,.sl .bool Z])]⟩)
abbrev aIk:=List Edg->List Itm->Int->Int->ByteArray->ByteArray->Int->Int->Int->Int->List aA->List aA->List Pce->List Bool->zzB->List Bool->zzI->List Bool->List Opn->List Opn->Prop
def Xk (k:ASt UU->Prop):aIk:=(fun G u j f bE bD bG bF bI bH Z bK V aG aI J L O S I=>k ⟨tmL [(2,.ptr 2 0),(7,.sl .edge G),(9,.ptr 9 0),(11,.osl 157 0),(12,.osl 158 0),(68,.sl .item u),(69,.i j),(70,.i f)],obL [(157,.row .op 0 S),(158,.row .op 0 I),(2,.cells [.str bE,.str bD,.i bG,.i bF,.i bI,.i bH,.sl .rect Z,.sl .rect bK,.sl .pc V]),(9,.cells [.sl .bool aG,.sl .bools aI,.sl .bool J,.sl .int L,.sl .bool O])]⟩)
abbrev aIj:=List Edg->Int->List Itm->Int->Int->List Edg->Int->Int->ByteArray->ByteArray->Int->Int->Int->Int->List aA->List aA->List Pce->List Bool->zzB->List Bool->zzI->List Bool->Int->Int->Int->Int->Int->List Opn->List Opn->Prop
def ba (k:ASt UU->Prop):aIj:=(fun t7 L J I G u j f bE bD bG bF bI bH bL bK bO aG aI eV eU eS rN O S V Z eB jM=>k ⟨tmL [(2,.ptr 2 0),(7,.sl .edge t7),(9,.ptr 9 0),(11,.osl 157 0),(12,.osl 158 0),(18,.ptr 18 0),(19,.i L),(68,.sl .item J),(69,.i I),(70,.i G),(103,.sl .edge u),(104,.i j),(105,.i f)],obL [(157,.row .op 0 eB),(158,.row .op 0 jM),(2,.cells [.str bE,.str bD,.i bG,.i bF,.i bI,.i bH,.sl .rect bL,.sl .rect bK,.sl .pc bO]),(9,.cells [.sl .bool aG,.sl .bools aI,.sl .bool eV,.sl .int eU,.sl .bool eS]),(18,.cells [.i rN,.i O,.i S,.i V,.i Z])]⟩)
def B8:=(cL (cB (cS (cF (cS4 (cS (bo Tryz.f4)))))))
def aZh:=(cL (cB (cS (cS (cB (cF (cS (cS B8))))))))
def Pt:=(cL (cB (cS (cF (cS4 (cS (cS (bo Tryz.f4))))))))
def aZg:=(cL (cB (cS (cS (cE (cS (cF (cS (cS (cB (cF (cS (cS Pt)))))))))))))
def Qk (F:Nat) (K:zK) (n r:Nat):aIm:=Xl fun s=>iter (Hk F 0 B8) (tC 0 0) n r s K
def E5 (F:Nat) (K:zK) (n r:Nat):aIl:=bb fun s=>iter (Hk F 2 aZh) (tC 0 2) n r s K
def Qj (F:Nat) (K:zK) (n r:Nat):aIk:=Xk fun s=>iter (Hk F 4 Pt) (tC 0 4) n r s K
def E4 (F:Nat) (K:zK) (n r:Nat):aIj:=ba fun s=>iter (Hk F 6 aZg) (tC 0 6) n r s K
def aDj (F:Nat) (Post:aC UU->Prop):zK:=bW 0 (Lk F 0 (cS4 (cS (cS (bo Tryz.f4)))) (bN k7 false Tryz.f4 Post))
def aDi (F n r:Nat) (K:zK):zK:=bW 2 (bW 1 (Lk F 0 (cS (cS (cS B8))) (lT (Hk F 0 B8) (tC 0 0) n r K)))
def aDh (F:Nat) (Post:aC UU->Prop):zK:=bW 4 (Lk F 0 (cS4 (cS (cS (cS (bo Tryz.f4))))) (bN k7 false Tryz.f4 Post))
def aDg (F n r:Nat) (K:zK):zK:=bW 6 (Lk F 5 (cS (cS (cS (cB (cF (cS (cS Pt))))))) (bW 5 (Lk F 4 (cS (cS (cS Pt))) (lT (Hk F 4 Pt) (tC 0 4) n r K))))
theorem aBw (F:Nat) (K:zK):∀n r,E5 F K n r=Ry F (bb (K (.exit 2))) n
 |0,_=>KA
 |n+1,r=>QG (b:=aFZ (E5 F K n (r+1)) (bb (K (.exit 2)))) KA (by rewrite[aBw F K n (r+1)];kernel_rfl)
theorem aSN (F n r:Nat) (K:zK):E5 F (aDi F n r K) F 0=V2 F (Qk F K n (r+1)) (Xl (K (.exit 0))):=
 (aBw F _ F 0).trans KA
theorem aBu (F:Nat) (K:zK):∀n r,E4 F K n r=Rx F (ba (K (.exit 6))) n
 |0,_=>KA
 |n+1,r=>QG (b:=aFX (E4 F K n (r+1)) (ba (K (.exit 6)))) KA (by rewrite[aBu F K n (r+1)];kernel_rfl)
theorem aSL (F n r:Nat) (K:zK):E4 F (aDg F n r K) F 0=V1 F (Qj F K n (r+1)) (Xk (K (.exit 4))):=
 (aBu F _ F 0).trans KA
theorem aBv (F:Nat) (K:zK):∀n r,Qj F K n r=o7 F (Xk (K (.exit 4))) n
 |0,_=>KA
 |n+1,r=>QG (b:=(fun G u j f bE bD bG bF bI bH Z bK V aG aI J L O S I=>aFY (Qj F K n (r+1)) (Xk (K (.exit 4))) G u j f bE bD bG bF bI bH Z bK V aG aI J L O S I (E4 F (aDg F n r K) F 0))) KA (by rewrite[aSL F n r K,aBv F K n (r+1)];kernel_rfl)
theorem aSM (F:Nat) (Post:aC UU->Prop):Qj F (aDh F Post) F 0=Wb F (fun j f=>Post (.tup [.sl .op j,.i f])):=
 (aBv F _ F 0).trans KA
theorem aBx (F:Nat) (K:zK):∀n r,Qk F K n r=xD F (Xl (K (.exit 0))) n
 |0,_=>KA
 |n+1,r=>QG (b:=(fun I G u j f bE bD bG bF bI bH Z bK V aG aI J L O S=>aF0 (Qk F K n (r+1)) (Xl (K (.exit 0))) I G u j f bE bD bG bF bI bH Z bK V aG aI J L O S (E5 F (aDi F n r K) F 0))) KA (by rewrite[aSN F n r K,aBx F K n (r+1)];kernel_rfl)
theorem aSO (F:Nat) (Post:aC UU->Prop):Qk F (aDj F Post) F 0=V3 F (fun j f=>Post (.tup [.sl .op j,.i f])):=
 (aBx F _ F 0).trans (QG (b:=xD F (fun L J I G u bE bD bG bF bI bH bL bK bO aG aI O S V Z=>aF2 (fun j f=>Post (.tup [.sl .op j,.i f])) L J I G u bE bD bG bF bI bH bL bK bO aG aI O S V Z (Qj F (aDh F Post) F 0)) F) KA (by rewrite[aSM F Post];kernel_rfl))
def aAL:Model UU
 |[.agg [.str S,.str O,.int .i64 L,.int .i64 J,.int .i64 I,.int .i64 G,.sl .rect u,.sl .rect j,.sl .pc f],.sl .item V]=>some ([Ur S O L J I G u j f V],.tup [.sl .op ((x7 S O L J I G u j f V).1),.i ((x7 S O L J I G u j f V).2)])
 |_=>none
def wX:Cfg UU:=k7.add 4 aAL
theorem aMo:aE wX:=dN aMg mixed func4 KA KA fun xs cs r h hc=>by
 unfold aAL at h;split at h
 ·rename_i Z V S O L J I G u a1;cases h;obtain⟨F,hF⟩:=aRN Z V S O L J I G u a1 hc;exact⟨KA,tC,F,false,fS fun Post hP=>fT (QG (b:=aF1 Z V S O L J I G u a1 (fun j f=>Post (.tup [.sl .op j,.i f])) (Qk F (aDj F Post) F 0)) KA (by rewrite[aSO F Post];kernel_rfl)) (hF (fun j f=>Post (.tup [.sl .op j,.i f])) hP)⟩
 ·cases h
def By (F:Nat):=cX (aU rP F 0 wX) wX f86.ntmps rP F
def Ao (F:Nat):=cA (aU rP F 0 wX) wX f86.ntmps rP F
def bg (k:ASt UU->Prop):pY:=(fun L J I G u j f=>k ⟨tmL [(0,.sl .rect L),(1,.sl .rect J),(2,.sl .rect I),(7,.i G),(19,.sl .rect u),(20,.i j),(21,.i f)],obL []⟩)
def bf (k:ASt UU->Prop):pY:=(fun L J I G u j f=>k ⟨tmL [(0,.sl .rect L),(1,.sl .rect J),(2,.sl .rect I),(7,.i G),(33,.sl .rect u),(34,.i j),(35,.i f)],obL []⟩)
def Gj (k:ASt UU->Prop):uS:=(fun J I G u j f=>k ⟨tmL [(1,.sl .rect J),(2,.sl .rect I),(6,.any),(7,.i G),(47,.sl .rect u),(48,.i j),(49,.i f)],obL []⟩)
def Ng (k:ASt UU->Prop):Ie:=(fun L J I G u j f=>k ⟨tmL [(1,.sl .rect L),(2,.sl .rect J),(6,.bool I),(7,.i G),(47,.sl .rect u),(48,.i j),(49,.i f)],obL []⟩)
def bd (k:ASt UU->Prop):pX:=(fun V S O L J I G u j f Z iL gX gW=>k ⟨tmL [(1,.sl .rect V),(2,.sl .rect S),(7,.i O),(13,.ptr 13 0),(14,.i L),(47,.sl .rect J),(48,.i I),(49,.i G),(53,.sl .rect u),(54,.i j),(55,.i f)],obL [(13,.cells [.i Z,.i iL,.i gX,.i gW])]⟩)
def bc (k:ASt UU->Prop):pX:=(fun V S O L J I G u j f Z iL gX gW=>k ⟨tmL [(1,.sl .rect V),(2,.sl .rect S),(7,.i O),(13,.ptr 13 0),(14,.i L),(47,.sl .rect J),(48,.i I),(49,.i G),(65,.sl .rect u),(66,.i j),(67,.i f)],obL [(13,.cells [.i Z,.i iL,.i gX,.i gW])]⟩)
def aZm:=(cL (cB (cS (cF (cS (cS (bo f86)))))))
def aZl:=(cL (cB (cS (cF (cS (cS (cS (bo f86))))))))
def wS:=(cL (cB (cS (cF (cS4 (bo f86))))))
def aZk:=(cL (cB (cS (cF (cS (cS (cB (cF (cS (cS wS))))))))))
def aZj:=(cL (cB (cS (cF (cS (cS (cS (cB (cF (cS (cS wS)))))))))))
def F0 (F:Nat) (K:zK) (n r:Nat):pY:=bg fun s=>iter (By F 0 aZm) (rP 0 0) n r s K
def E9 (F:Nat) (K:zK) (n r:Nat):pY:=bf fun s=>iter (By F 2 aZl) (rP 0 2) n r s K
def Cf (F:Nat) (K:zK) (n r:Nat):uS:=Gj fun s=>iter (By F 4 wS) (rP 0 4) n r s K
def E8 (F:Nat) (K:zK) (n r:Nat):pX:=bd fun s=>iter (By F 6 aZk) (rP 0 6) n r s K
def E7 (F:Nat) (K:zK) (n r:Nat):pX:=bc fun s=>iter (By F 8 aZj) (rP 0 8) n r s K
def aDp (F:Nat) (Post:aC UU->Prop):zK:=bW 0 (Ao F 0 (cS (cS (cS (bo f86)))) (bN wX false f86 Post))
def aDo (F:Nat) (Post:aC UU->Prop):zK:=bW 2 (Ao F 0 (cS4 (bo f86)) (bN wX false f86 Post))
def aDn (F:Nat) (Post:aC UU->Prop):zK:=bW 4 (Ao F 0 (cS4 (cS (bo f86))) (bN wX false f86 Post))
def aDm (F n r:Nat) (K:zK):zK:=bW 6 (Ao F 5 (cS (cS (cS (cB (cF (cS (cS wS))))))) (bW 5 (Ao F 4 (cS (cS (cS wS))) (lT (By F 4 wS) (rP 0 4) n r K))))
def aDl (F n r:Nat) (K:zK):zK:=bW 8 (Ao F 5 (cS4 (cB (cF (cS (cS wS))))) (bW 5 (Ao F 4 (cS (cS (cS wS))) (lT (By F 4 wS) (rP 0 4) n r K))))
theorem aBz (F:Nat) (K:zK):∀n r,E7 F K n r=Sa F (bc (K (.exit 8))) n
 |0,_=>KA
 |n+1,r=>QG (b:=aF5 (E7 F K n (r+1)) (bc (K (.exit 8)))) KA (by rewrite[aBz F K n (r+1)];kernel_rfl)
theorem aSQ (F n r:Nat) (K:zK):E7 F (aDl F n r K) F 0=Wd F (Cf F K n (r+1)) (Gj (K (.exit 4))) (Ng (K .ret)):=
 (aBz F _ F 0).trans KA
theorem aCA (F:Nat) (K:zK):∀n r,E8 F K n r=Jr F (bd (K (.exit 6))) n
 |0,_=>KA
 |n+1,r=>QG (b:=aF6 (E8 F K n (r+1)) (bd (K (.exit 6)))) KA (by rewrite[aCA F K n (r+1)];kernel_rfl)
theorem aSR (F n r:Nat) (K:zK):E8 F (aDm F n r K) F 0=V4 F (Cf F K n (r+1)) (Gj (K (.exit 4))) (Ng (K .ret)):=
 (aCA F _ F 0).trans (QG (b:=Jr F (aFb (Cf F K n (r+1)) (Gj (K (.exit 4))) (Ng (K .ret)) (E7 F (aDl F n r K) F 0)) F) KA (by rewrite[aSQ F n r K];kernel_rfl))
theorem aCB (F:Nat) (K:zK):∀n r,Cf F K n r=Js F (Gj (K (.exit 4))) (Ng (K .ret)) n
 |0,_=>KA
 |n+1,r=>QG (b:=aF7 (Cf F K n (r+1)) (Gj (K (.exit 4))) (Ng (K .ret)) (E8 F (aDm F n r K) F 0)) KA (by rewrite[aSR F n r K,aCB F K n (r+1)];kernel_rfl)
theorem aSS (F:Nat) (Post:aC UU->Prop):Cf F (aDn F Post) F 0=Ml F (fun f=>Post (.bool f)):=
 (aCB F _ F 0).trans KA
theorem aCC (F:Nat) (K:zK):∀n r,E9 F K n r=Jt F (bf (K (.exit 2))) n
 |0,_=>KA
 |n+1,r=>QG (b:=aF8 (E9 F K n (r+1)) (bf (K (.exit 2)))) KA (by rewrite[aCC F K n (r+1)];kernel_rfl)
theorem aST (F:Nat) (Post:aC UU->Prop):E9 F (aDo F Post) F 0=Mm F (fun f=>Post (.bool f)):=
 (aCC F _ F 0).trans (QG (b:=Jt F (fy (fun f=>Post (.bool f)) (Cf F (aDn F Post) F 0)) F) KA (by rewrite[aSS F Post];kernel_rfl))
theorem aCD (F:Nat) (K:zK):∀n r,F0 F K n r=Ju F (bg (K (.exit 0))) n
 |0,_=>KA
 |n+1,r=>QG (b:=aF9 (F0 F K n (r+1)) (bg (K (.exit 0)))) KA (by rewrite[aCD F K n (r+1)];kernel_rfl)
theorem aSU (F:Nat) (Post:aC UU->Prop):F0 F (aDp F Post) F 0=We F (fun f=>Post (.bool f)):=
 (aCD F _ F 0).trans (QG (b:=Ju F (ga (fun f=>Post (.bool f)) (E9 F (aDo F Post) F 0)) F) KA (by rewrite[aST F Post];kernel_rfl))
def aAN:Model UU
 |[.sl .rect a0,.sl .rect j,.sl .rect f]=>some ([Us a0 j f],.bool (x8 a0 j f))
 |_=>none
def aJ5:Cfg UU:=wX.add 86 aAN
theorem aMq:aE aJ5:=dN aMo mixed func86 KA KA fun xs J r h G=>by
 unfold aAN at h;split at h
 ·rename_i a0 u j;cases h;obtain⟨F,hF⟩:=aRP a0 u j G;exact⟨KA,rP,F,false,fS fun Post I=>fT (QG (b:=aFa a0 u j (fun f=>Post (.bool f)) (F0 F (aDp F Post) F 0)) KA (by rewrite[aSU F Post];kernel_rfl)) (hF (fun f=>Post (.bool f)) I)⟩
 ·cases h
def aA5:Model UU
 |[.sl .rect cells,.ref [.sl .rect f] 0,.ref [.sl .rect j] 0]=>some ([Ux cells f j],.bool (Kt cells f j))
 |_=>none
def Dt:Cfg UU:=aJ5.add 85 aA5
theorem aNJ:aE Dt:=dN aMq mixed func85 KA KA fun xs J r h G=>by
 unfold aA5 at h;split at h
 ·rename_i cells f j;cases h;refine⟨KA,M0,0,false,⟨iY (fun Q:Bool->Prop=>((Us cells f j)/\Q (x8 cells f j))) (fun Q=>Q (Kt cells f j)) (fun u=>(.bool u:aC UU)=.bool (Kt cells f j)) KA (fun Q h=>?_) rfl⟩⟩
  try dsimp only at h ⊢
  unfold Kt at h;have hp:Ux cells f j:=G;unfold Ux at hp;have I:=hp;refine⟨I,?_⟩;exact h
 ·cases h
def aYL (F:Nat):=cX (aU Iz F 0 Dt) Dt f130.ntmps Iz F
def aPa (F:Nat):=cA (aU Iz F 0 Dt) Dt f130.ntmps Iz F
def Nt (k:ASt UU->Prop):Dc:=(fun G J I u j f=>k ⟨tmL [(0,.sl .rects G),(1,.fn 85 [.ref [.sl .rect J] 0,.ref [.sl .rect I] 0]),(4,.i u),(7,.i j),(8,.i f)],obL []⟩)
def bAR:=(cL (cB (cS (cF (cS (bo f130))))))
def I2 (F:Nat) (K:zK) (n r:Nat):Dc:=Nt fun s=>iter (aYL F 0 bAR) (Iz 0 0) n r s K
def aE1 (F:Nat) (Post:aC UU->Prop):zK:=bW 0 (aPa F 0 (cS (cS (bo f130))) (bN Dt false f130 Post))
theorem aCh (F:Nat) (K:zK):∀n r,I2 F K n r=St F (Nt (K .ret)) (Nt (K (.exit 0))) n
 |0,_=>KA
 |n+1,r=>QG (b:=aG6 (I2 F K n (r+1)) (Nt (K .ret)) (Nt (K (.exit 0)))) KA (by rewrite[aCh F K n (r+1)];kernel_rfl)
theorem aSz (F:Nat) (Post:aC UU->Prop):I2 F (aE1 F Post) F 0=Wq F (fun f=>Post (.i f)):=
 (aCh F _ F 0).trans KA
def aAx:Model UU
 |[.sl .rects l,.fn 85 [.ref [.sl .rect f] 0,.ref [.sl .rect j] 0]]=>some ([Vb l f j],.i (Tt l f j))
 |_=>none
def aKC:Cfg UU:=Dt.add 130 aAx
theorem aNg:aE aKC:=dN aNJ mixed func130 KA KA fun xs J r h G=>by
 unfold aAx at h;split at h
 ·rename_i l j u;cases h;obtain⟨F,hF⟩:=aR9 l j u G;exact⟨KA,Iz,F,false,fS fun Post I=>fT (QG (b:=aG7 l j u (fun f=>Post (.i f)) (I2 F (aE1 F Post) F 0)) KA (by rewrite[aSz F Post];kernel_rfl)) (hF (fun f=>Post (.i f)) I)⟩
 ·cases h
def aB2:Model UU
 |[.sl .rects l,.fn 85 [.ref [.sl .rect f] 0,.ref [.sl .rect j] 0]]=>some ([Mb l f j],.bool (Fk l f j))
 |_=>none
def aKY:Cfg UU:=aKC.add 84 aB2
theorem aOQ:aE aKY:=dN aNg mixed func84 KA KA fun xs J r h G=>by
 unfold aB2 at h;split at h
 ·rename_i l f j;cases h;refine⟨KA,M0,0,false,⟨iY (fun Q:Bool->Prop=>((Vb l f j)/\Q (decide (0<=(Tt l f j))))) (fun Q=>Q (Fk l f j)) (fun u=>(.bool u:aC UU)=.bool (Fk l f j)) KA (fun Q h=>?_) rfl⟩⟩
  try dsimp only at h ⊢
  unfold Fk at h;have hp:Mb l f j:=G;unfold Mb at hp;have I:=hp;refine⟨I,?_⟩;exact h
 ·cases h
def aAe:Model UU
 |[.sl .rects a0,.sl .rect j,.sl .rect f]=>some ([Lx a0 j f],.bool (nE a0 j f))
 |_=>none
def Dw:Cfg UU:=aKY.add 40 aAe
theorem aNU:aE Dw:=dN aOQ mixed func40 KA KA fun xs J r h G=>by
 unfold aAe at h;split at h
 ·rename_i a0 j f;cases h;refine⟨KA,M0,0,false,⟨iY (fun Q:Bool->Prop=>((Mb a0 j f)/\Q (Fk a0 j f))) (fun Q=>Q (nE a0 j f)) (fun u=>(.bool u:aC UU)=.bool (nE a0 j f)) KA (fun Q h=>?_) rfl⟩⟩
  try dsimp only at h ⊢
  unfold nE at h;have hp:Lx a0 j f:=G;unfold Lx at hp;have I:=hp;refine⟨I,?_⟩;exact h
 ·cases h
def aYI (F:Nat):=cX (aU Iw F 0 Dw) Dw f41.ntmps Iw F
def aP7 (F:Nat):=cA (aU Iw F 0 Dw) Dw f41.ntmps Iw F
def Np (k:ASt UU->Prop):Db:=(fun I G u j f=>k ⟨tmL [(0,.sl .rect I),(1,.sl .rect G),(4,.bool u),(12,.i j),(13,.i f)],obL []⟩)
def bAO:=(cL (cB (cS (cF (cS (cS (bo f41)))))))
def H8 (F:Nat) (K:zK) (n r:Nat):Db:=Np fun s=>iter (aYI F 0 bAO) (Iw 0 0) n r s K
def aEY (F:Nat) (Post:aC UU->Prop):zK:=bW 0 (aP7 F 0 (cS (cS (cS (bo f41)))) (bN Dw false f41 Post))
theorem aCd (F:Nat) (K:zK):∀n r,H8 F K n r=Sn F (Np (K .ret)) (Np (K (.exit 0))) n
 |0,_=>KA
 |n+1,r=>QG (b:=Hb (H8 F K n (r+1)) (Np (K .ret)) (Np (K (.exit 0)))) KA (by rewrite[aCd F K n (r+1)];kernel_rfl)
theorem aSu (F:Nat) (Post:aC UU->Prop):H8 F (aEY F Post) F 0=X6 F (fun f=>Post (.bool f)):=
 (aCd F _ F 0).trans KA
def aA7:Model UU
 |[.sl .rect a0,.sl .rect f]=>some ([R8 a0 f],.bool (Tq a0 f))
 |_=>none
def Dv:Cfg UU:=Dw.add 41 aA7
theorem aNM:aE Dv:=dN aNU mixed func41 KA KA fun xs I r h u=>by
 unfold aA7 at h;split at h
 ·rename_i a0 j;cases h;obtain⟨F,hF⟩:=aR6 a0 j u;exact⟨KA,Iw,F,false,fS fun Post G=>fT (QG (b:=ig a0 j (fun f=>Post (.bool f)) (H8 F (aEY F Post) F 0)) KA (by rewrite[aSu F Post];kernel_rfl)) (hF (fun f=>Post (.bool f)) G)⟩
 ·cases h
def jz (F:Nat):=cX (aU zX F 0 Dv.bZ) Dv.bZ f12.ntmps zX F
def wb (F:Nat):=cA (aU zX F 0 Dv.bZ) Dv.bZ f12.ntmps zX F
def Bf (k:ASt UU->Prop):zT:=(fun I G u j f L J S O=>k ⟨tmL [(4,.bool I),(5,.i G),(7,.ptr 7 0),(9,.osl 75 0),(10,.osl 78 0),(40,.sl .pc u),(41,.i j),(42,.i f)],obL [(75,.deep .rects 0 0 L),(76,.row .seg 0 J),(77,.row .rect 0 S),(78,.row .rect 0 O),(7,.cells [.osl 76 0,.osl 77 0])]⟩)
def Nl (k:ASt UU->Prop):Cy:=(fun O L J I G u j f V S dQ Z=>k ⟨tmL [(4,.bool O),(5,.i L),(7,.ptr 7 0),(9,.osl 75 0),(10,.osl 76 0),(40,.sl .pc J),(41,.i I),(42,.i G),(58,.sl .rect u),(59,.i j),(60,.i f)],obL [(75,.deep .rects 0 0 V),(76,.row .rect 0 S),(77,.row .seg 0 dQ),(78,.row .rect 0 Z),(7,.cells [.osl 77 0,.osl 78 0])]⟩)
def B9:=(cL (cB (cS (cF (cS4 (cS (cS (cS (bo f12)))))))))
def aZt:=(cL (cB (cS4 (cB (cF (cS (cS B9)))))))
def Ql (F:Nat) (K:zK) (n r:Nat):zT:=Bf fun s=>iter (jz F 0 B9) (zX 0 0) n r s K
def F7 (F:Nat) (K:zK) (n r:Nat):Cy:=Nl fun s=>iter (jz F 2 aZt) (zX 0 2) n r s K
def aDx (F:Nat) (Post:aC UU->Prop):zK:=bW 0 (wb F 0 (cS4 (cS4 (bo f12))) (bN Dv.bZ false f12 Post))
def aDw (F n r:Nat) (K:zK):zK:=bW 2 (bW 1 (wb F 0 (cS (cS (cS B9))) (lT (jz F 0 B9) (zX 0 0) n r K)))
theorem aCK (F:Nat) (K:zK):∀n r,F7 F K n r=Sd F (Nl (K .ret)) (Nl (K (.exit 2))) n
 |0,_=>KA
 |n+1,r=>QG (b:=aFo (F7 F K n (r+1)) (Nl (K .ret)) (Nl (K (.exit 2)))) KA (by rewrite[aCK F K n (r+1)];kernel_rfl)
theorem aS1 (F n r:Nat) (K:zK):F7 F (aDw F n r K) F 0=V7 F (Ql F K n (r+1)) (Bf (K .ret)) (Bf (K (.exit 0))):=
 (aCK F _ F 0).trans KA
theorem aCL (F:Nat) (K:zK):∀n r,Ql F K n r=p7 F (Bf (K .ret)) (Bf (K (.exit 0))) n
 |0,_=>KA
 |n+1,r=>QG (b:=aFp (Ql F K n (r+1)) (Bf (K .ret)) (Bf (K (.exit 0))) (F7 F (aDw F n r K) F 0)) KA (by rewrite[aS1 F n r K,aCL F K n (r+1)];kernel_rfl)
theorem aS2 (F:Nat) (Post:aC UU->Prop):Ql F (aDx F Post) F 0=V8 F (fun j f=>Post (.tup [.bool j,.i f])):=
 (aCL F _ F 0).trans KA
def aAT:Model UU
 |[.agg [.str S,.str O,.int .i64 L,.int .i64 J,.int .i64 I,.int .i64 G,.sl .rect u,.sl .rect j,.sl .pc f],.sl .op V]=>some ([R6 S O L J I G u j f V],.tup [.bool ((xP S O L J I G u j f V).1),.i ((xP S O L J I G u j f V).2)])
 |_=>none
def aJ8:Cfg UU:=Dv.add 12 aAT
theorem aMw:aE aJ8:=(aNM.J8) mixed (c:=bo f12) func12 KA KA fun xs cs r h hc=>by
 unfold aAT at h;split at h
 ·rename_i Z V S O L J I G u a1;cases h;obtain⟨F,hF⟩:=aRV Z V S O L J I G u a1 hc;exact⟨KA,zX,F,false,fS fun Post hP=>fT (QG (b:=aFq Z V S O L J I G u a1 (fun j f=>Post (.tup [.bool j,.i f])) (Ql F (aDx F Post) F 0)) KA (by rewrite[aS2 F Post];kernel_rfl)) (hF (fun j f=>Post (.tup [.bool j,.i f])) hP)⟩
 ·cases h
end
end Go.Proofs.YtgcpildegdgekaaGreatDoor
