/- Texts of this proof, one behind another: That the code says what the printed pieces say, by the kernel; printed by gen.py. Conditio; That the code says what the printed pieces say, by the kernel; printed by gen.py. Conditio; That the code says what the printed pieces say, by the kernel; printed by gen.py. Conditio; That the code says what the printed pieces say, by the kernel; printed by gen.py. Conditio; That the code says what the printed pieces say, by the kernel; printed by gen.py. Conditio; That the code says what the printed pieces say, by the kernel; printed by gen.py. Conditio; That the code says what the printed pieces say, by the kernel; printed by gen.py. Conditio; That the code says what the printed pieces say, by the kernel; printed by gen.py. Conditio; That the code says what the printed pieces say, by the kernel; printed by gen.py. Conditio; That the code says what the printed pieces say, by the kernel; printed by gen.py. Conditio. Conditions: none. -/
import Derived.Test.YtjjbojomlfgjlaaGreatDoorMC6
import Derived.Test.YtjjbojomlfgjlaaGreatDoorMC7
namespace Go.Proofs.YtjjbojomlfgjlaaGreatDoor
open Go.Vm Go.RowKit
set_option linter.unusedVariables false
set_option maxRecDepth 100000
noncomputable section
def wZ (F:Nat):=bW (bC mB F 0 nW) nW Tryz.f64.ntmps mB F
def vT (F:Nat):=cO (bC mB F 0 nW) nW Tryz.f64.ntmps mB F
def aK0 (k:ASt UU->Prop):lI:=(fun t0 t1 t2 t7 t19 t20 t21=>k ⟨tmL [(0,.sl .rect t0),(1,.sl .rect t1),(2,.sl .rect t2),(7,.int .i64 t7),(19,.sl .rect t19),(20,.int .i64 t20),(21,.int .i64 t21)],obL []⟩)
def aKZ (k:ASt UU->Prop):lI:=(fun t0 t1 t2 t7 t33 t34 t35=>k ⟨tmL [(0,.sl .rect t0),(1,.sl .rect t1),(2,.sl .rect t2),(7,.int .i64 t7),(33,.sl .rect t33),(34,.int .i64 t34),(35,.int .i64 t35)],obL []⟩)
def x9 (k:ASt UU->Prop):oR:=(fun t1 t2 t7 t47 t48 t49=>k ⟨tmL [(1,.sl .rect t1),(2,.sl .rect t2),(6,.any),(7,.int .i64 t7),(47,.sl .rect t47),(48,.int .i64 t48),(49,.int .i64 t49)],obL []⟩)
def aBo (k:ASt UU->Prop):aA2:=(fun t1 t2 t6 t7 t47 t48 t49=>k ⟨tmL [(1,.sl .rect t1),(2,.sl .rect t2),(6,.bool t6),(7,.int .i64 t7),(47,.sl .rect t47),(48,.int .i64 t48),(49,.int .i64 t49)],obL []⟩)
def aKY (k:ASt UU->Prop):lH:=(fun t1 t2 t7 t14 t47 t48 t49 t53 t54 t55 cY cX cV cU=>k ⟨tmL [(1,.sl .rect t1),(2,.sl .rect t2),(7,.int .i64 t7),(13,.ptr 13 0),(14,.int .i64 t14),(47,.sl .rect t47),(48,.int .i64 t48),(49,.int .i64 t49),(53,.sl .rect t53),(54,.int .i64 t54),(55,.int .i64 t55)],obL [(13,.cells [.int .i64 cY,.int .i64 cX,.int .i64 cV,.int .i64 cU])]⟩)
def aKX (k:ASt UU->Prop):lH:=(fun t1 t2 t7 t14 t47 t48 t49 t65 t66 t67 cY cX cV cU=>k ⟨tmL [(1,.sl .rect t1),(2,.sl .rect t2),(7,.int .i64 t7),(13,.ptr 13 0),(14,.int .i64 t14),(47,.sl .rect t47),(48,.int .i64 t48),(49,.int .i64 t49),(65,.sl .rect t65),(66,.int .i64 t66),(67,.int .i64 t67)],obL [(13,.cells [.int .i64 cY,.int .i64 cX,.int .i64 cV,.int .i64 cU])]⟩)
def bJo:=(cL (cB (cS (cF (cS (cS (bo Tryz.f64)))))))
def bJn:=(cL (cB (cS (cF (cS (cS (cS (bo Tryz.f64))))))))
def qJ:=(cL (cB (cS (cF (cS4 (bo Tryz.f64))))))
def bJm:=(cL (cB (cS (cF (cS (cS (cB (cF (cS (cS qJ))))))))))
def bJl:=(cL (cB (cS (cF (cS (cS (cS (cB (cF (cS (cS qJ)))))))))))
def aHD (F:Nat) (K:zK) (n r:Nat):lI:=aK0 fun s=>iter (wZ F 0 bJo) (mB 0 0) n r s K
def aHC (F:Nat) (K:zK) (n r:Nat):lI:=aKZ fun s=>iter (wZ F 2 bJn) (mB 0 2) n r s K
def xL (F:Nat) (K:zK) (n r:Nat):oR:=x9 fun s=>iter (wZ F 4 qJ) (mB 0 4) n r s K
def aHB (F:Nat) (K:zK) (n r:Nat):lH:=aKY fun s=>iter (wZ F 6 bJm) (mB 0 6) n r s K
def aHA (F:Nat) (K:zK) (n r:Nat):lH:=aKX fun s=>iter (wZ F 8 bJl) (mB 0 8) n r s K
def aSR (F:Nat) (Post:aB UU->Prop):zK:=bJ 0 (vT F 0 (cS (cS (cS (bo Tryz.f64)))) (bH nW false Tryz.f64 Post))
def aSQ (F:Nat) (Post:aB UU->Prop):zK:=bJ 2 (vT F 0 (cS4 (bo Tryz.f64)) (bH nW false Tryz.f64 Post))
def aSP (F:Nat) (Post:aB UU->Prop):zK:=bJ 4 (vT F 0 (cS4 (cS (bo Tryz.f64))) (bH nW false Tryz.f64 Post))
def aSO (F n r:Nat) (K:zK):zK:=bJ 6 (vT F 5 (cS (cS (cS (cB (cF (cS (cS qJ))))))) (bJ 5 (vT F 4 (cS (cS (cS qJ))) (fW (wZ F 4 qJ) (mB 0 4) n r K))))
def aSN (F n r:Nat) (K:zK):zK:=bJ 8 (vT F 5 (cS4 (cB (cF (cS (cS qJ))))) (bJ 5 (vT F 4 (cS (cS (cS qJ))) (fW (wZ F 4 qJ) (mB 0 4) n r K))))
theorem aQ4 (F:Nat) (K:zK):∀n r,aHA F K n r=aDY F (aKX (K (.exit 8))) n
 |0,_=>by kernel_rfl
 |n+1,r=>Eq.trans (b:=aUA (aHA F K n (r+1)) (aKX (K (.exit 8)))) (by kernel_rfl) (by rewrite[aQ4 F K n (r+1)];kernel_rfl)
theorem bDh (F n r:Nat) (K:zK):aHA F (aSN F n r K) F 0=aEl F (xL F K n (r+1)) (x9 (K (.exit 4))) (aBo (K .ret)):=
 (aQ4 F _ F 0).trans (by kernel_rfl)
theorem aQ5 (F:Nat) (K:zK):∀n r,aHB F K n r=aAi F (aKY (K (.exit 6))) n
 |0,_=>by kernel_rfl
 |n+1,r=>Eq.trans (b:=aUB (aHB F K n (r+1)) (aKY (K (.exit 6)))) (by kernel_rfl) (by rewrite[aQ5 F K n (r+1)];kernel_rfl)
theorem bDi (F n r:Nat) (K:zK):aHB F (aSO F n r K) F 0=aJe F (xL F K n (r+1)) (x9 (K (.exit 4))) (aBo (K .ret)):=
 (aQ5 F _ F 0).trans (Eq.trans (b:=aAi F (aUG (xL F K n (r+1)) (x9 (K (.exit 4))) (aBo (K .ret)) (aHA F (aSN F n r K) F 0)) F) (by kernel_rfl) (by rewrite[bDh F n r K];kernel_rfl))
theorem aQ6 (F:Nat) (K:zK):∀n r,xL F K n r=b6 F (x9 (K (.exit 4))) (aBo (K .ret)) n
 |0,_=>by kernel_rfl
 |n+1,r=>Eq.trans (b:=aUC (xL F K n (r+1)) (x9 (K (.exit 4))) (aBo (K .ret)) (aHB F (aSO F n r K) F 0)) (by kernel_rfl) (by rewrite[bDi F n r K,aQ6 F K n (r+1)];kernel_rfl)
theorem bDj (F:Nat) (Post:aB UU->Prop):xL F (aSP F Post) F 0=aB3 F (fun r0=>Post (.bool r0)):=
 (aQ6 F _ F 0).trans (by kernel_rfl)
theorem aQ7 (F:Nat) (K:zK):∀n r,aHC F K n r=b7 F (aKZ (K (.exit 2))) n
 |0,_=>by kernel_rfl
 |n+1,r=>Eq.trans (b:=aUD (aHC F K n (r+1)) (aKZ (K (.exit 2)))) (by kernel_rfl) (by rewrite[aQ7 F K n (r+1)];kernel_rfl)
theorem bDk (F:Nat) (Post:aB UU->Prop):aHC F (aSQ F Post) F 0=aB4 F (fun r0=>Post (.bool r0)):=
 (aQ7 F _ F 0).trans (Eq.trans (b:=b7 F (aLF (fun r0=>Post (.bool r0)) (xL F (aSP F Post) F 0)) F) (by kernel_rfl) (by rewrite[bDj F Post];kernel_rfl))
theorem aQ8 (F:Nat) (K:zK):∀n r,aHD F K n r=b8 F (aK0 (K (.exit 0))) n
 |0,_=>by kernel_rfl
 |n+1,r=>Eq.trans (b:=aUE (aHD F K n (r+1)) (aK0 (K (.exit 0)))) (by kernel_rfl) (by rewrite[aQ8 F K n (r+1)];kernel_rfl)
theorem bDl (F:Nat) (Post:aB UU->Prop):aHD F (aSR F Post) F 0=aEm F (fun r0=>Post (.bool r0)):=
 (aQ8 F _ F 0).trans (Eq.trans (b:=b8 F (aLG (fun r0=>Post (.bool r0)) (aHC F (aSQ F Post) F 0)) F) (by kernel_rfl) (by rewrite[bDk F Post];kernel_rfl))
theorem bHP (F:Nat) (Post:aB UU->Prop) (a0 a1 a2:List aA):exec nW Tryz.f64.ntmps mB F 0 (bo Tryz.f64) (cQ [.sl .rect a0,.sl .rect a1,.sl .rect a2]) (bH nW false Tryz.f64 Post)=aM7 F a0 a1 a2 (fun r0=>Post (.bool r0)):=
 Eq.trans (b:=aUF a0 a1 a2 (fun r0=>Post (.bool r0)) (aHD F (aSR F Post) F 0)) (by kernel_rfl) (by rewrite[bDl F Post];kernel_rfl)
def aOk:Model UU
 |[.sl .rect a0,.sl .rect a1,.sl .rect a2]=>some ([aEY a0 a1 a2],.bool (pG a0 a1 a2))
 |_=>none
def aXC:Cfg UU:=nW.add 64 aOk
theorem aYy:aX aXC:=cM aYw mixed Tryz.func64 (by kernel_rfl) (by kernel_rfl) fun xs cs r h hc=>by
 unfold aOk at h;split at h
 ·rename_i a0 a1 a2;cases h;obtain⟨F,hF⟩:=bCe a0 a1 a2 hc;exact⟨by kernel_rfl,mB,F,false,⟨by rw[bHP];exact hF _ rfl⟩⟩
 ·cases h
set_option maxRecDepth 100000
def aPJ:Model UU
 |[.sl .rect cells,.ref [.sl .rect rs] 0,.ref [.sl .rect hs] 0]=>some ([aE1 cells rs hs],.bool (aBD cells rs hs))
 |_=>none
def rO:Cfg UU:=aXC.add 63 aPJ
theorem aZW:aX rO:=cM aYy mixed Tryz.func63 (by kernel_rfl) (by kernel_rfl) fun xs cs r h hc=>by
 unfold aPJ at h;split at h
 ·rename_i cells rs hs;cases h;refine⟨by kernel_rfl,M0,0,false,⟨nH (fun Q:Bool->Prop=>((aEY cells rs hs)/\Q (pG cells rs hs))) (fun Q=>Q (aBD cells rs hs)) (fun r0=>(.bool r0:aB UU)=.bool (aBD cells rs hs)) (by kernel_rfl) (fun Q h=>?_) rfl⟩⟩
  try dsimp only at h ⊢
  unfold aBD at h;have hp:aE1 cells rs hs:=hc;unfold aE1 at hp;have jO:=hp;refine⟨jO,?_⟩;exact h
 ·cases h
def bIb (F:Nat):=bW (bC zR F 0 rO) rO Tryz.f130.ntmps zR F
def bBM (F:Nat):=cO (bC zR F 0 rO) rO Tryz.f130.ntmps zR F
def aCH (k:ASt UU->Prop):yQ:=(fun t0 dS vB t4 t7 t8=>k ⟨tmL [(0,.sl .rects t0),(1,.fn 63 [.ref [.sl .rect dS] 0,.ref [.sl .rect vB] 0]),(4,.int .i64 t4),(7,.int .i64 t7),(8,.int .i64 t8)],obL []⟩)
def bKZ:=(cL (cB (cS (cF (cS (bo Tryz.f130))))))
def aHe (F:Nat) (K:zK) (n r:Nat):yQ:=aCH fun s=>iter (bIb F 0 bKZ) (zR 0 0) n r s K
def aTF (F:Nat) (Post:aB UU->Prop):zK:=bJ 0 (bBM F 0 (cS (cS (bo Tryz.f130))) (bH rO false Tryz.f130 Post))
theorem aRW (F:Nat) (K:zK):∀n r,aHe F K n r=aDi F (aCH (K .ret)) (aCH (K (.exit 0))) n
 |0,_=>by kernel_rfl
 |n+1,r=>Eq.trans (b:=aVK (aHe F K n (r+1)) (aCH (K .ret)) (aCH (K (.exit 0)))) (by kernel_rfl) (by rewrite[aRW F K n (r+1)];kernel_rfl)
theorem bE9 (F:Nat) (Post:aB UU->Prop):aHe F (aTF F Post) F 0=aEx F (fun r0=>Post (.int .i64 r0)):=
 (aRW F _ F 0).trans (by kernel_rfl)
theorem bHg (F:Nat) (Post:aB UU->Prop) (l:List (List aA)) (rs hs:List aA):exec rO Tryz.f130.ntmps zR F 0 (bo Tryz.f130) (cQ [.sl .rects l,.fn 63 [.ref [.sl .rect rs] 0,.ref [.sl .rect hs] 0]]) (bH rO false Tryz.f130 Post)=aMq F l rs hs (fun r0=>Post (.int .i64 r0)):=
 Eq.trans (b:=aVL l rs hs (fun r0=>Post (.int .i64 r0)) (aHe F (aTF F Post) F 0)) (by kernel_rfl) (by rewrite[bE9 F Post];kernel_rfl)
def aPg:Model UU
 |[.sl .rects l,.fn 63 [.ref [.sl .rect rs] 0,.ref [.sl .rect hs] 0]]=>some ([aE4 l rs hs],.int .i64 (aEB l rs hs))
 |_=>none
def aX8:Cfg UU:=rO.add 130 aPg
theorem aZw:aX aX8:=cM aZW mixed Tryz.func130 (by kernel_rfl) (by kernel_rfl) fun xs cs r h hc=>by
 unfold aPg at h;split at h
 ·rename_i l rs hs;cases h;obtain⟨F,hF⟩:=bDE l rs hs hc;exact⟨by kernel_rfl,zR,F,false,⟨by rw[bHg];exact hF _ rfl⟩⟩
 ·cases h
set_option maxRecDepth 100000
def aPs:Model UU
 |[.sl .rects l,.fn 63 [.ref [.sl .rect rs] 0,.ref [.sl .rect hs] 0]]=>some ([aBX l rs hs],.bool (o6 l rs hs))
 |_=>none
def aXh:Cfg UU:=aX8.add 62 aPs
theorem bAK:aX aXh:=cM aZw mixed Tryz.func62 (by kernel_rfl) (by kernel_rfl) fun xs cs r h hc=>by
 unfold aPs at h;split at h
 ·rename_i l rs hs;cases h;refine⟨by kernel_rfl,M0,0,false,⟨nH (fun Q:Bool->Prop=>((aE4 l rs hs)/\Q (decide (0<=(aEB l rs hs))))) (fun Q=>Q (o6 l rs hs)) (fun r0=>(.bool r0:aB UU)=.bool (o6 l rs hs)) (by kernel_rfl) (fun Q h=>?_) rfl⟩⟩
  try dsimp only at h ⊢
  unfold o6 at h;have hp:aBX l rs hs:=hc;unfold aBX at hp;have jO:=hp;refine⟨jO,?_⟩;exact h
 ·cases h
def aP3:Model UU
 |[.sl .rects a0,.sl .rect a1,.sl .rect a2]=>some ([aBV a0 a1 a2],.bool (jT a0 a1 a2))
 |_=>none
def rS:Cfg UU:=aXh.add 28 aP3
theorem aZh:aX rS:=cM bAK mixed Tryz.func28 (by kernel_rfl) (by kernel_rfl) fun xs cs r h hc=>by
 unfold aP3 at h;split at h
 ·rename_i a0 a1 a2;cases h;refine⟨by kernel_rfl,M0,0,false,⟨nH (fun Q:Bool->Prop=>((aBX a0 a1 a2)/\Q (o6 a0 a1 a2))) (fun Q=>Q (jT a0 a1 a2)) (fun r0=>(.bool r0:aB UU)=.bool (jT a0 a1 a2)) (by kernel_rfl) (fun Q h=>?_) rfl⟩⟩
  try dsimp only at h ⊢
  unfold jT at h;have hp:aBV a0 a1 a2:=hc;unfold aBV at hp;have jO:=hp;refine⟨jO,?_⟩;exact h
 ·cases h
set_option maxRecDepth 100000
def bIa (F:Nat):=bW (bC zQ F 0 rS) rS Tryz.f29.ntmps zQ F
def bBL (F:Nat):=cO (bC zQ F 0 rS) rS Tryz.f29.ntmps zQ F
def aCG (k:ASt UU->Prop):yP:=(fun t0 t1 t4 t12 t13=>k ⟨tmL [(0,.sl .rect t0),(1,.sl .rect t1),(4,.bool t4),(12,.int .i64 t12),(13,.int .i64 t13)],obL []⟩)
def bKY:=(cL (cB (cS (cF (cS (cS (bo Tryz.f29)))))))
def aHd (F:Nat) (K:zK) (n r:Nat):yP:=aCG fun s=>iter (bIa F 0 bKY) (zQ 0 0) n r s K
def aTE (F:Nat) (Post:aB UU->Prop):zK:=bJ 0 (bBL F 0 (cS (cS (cS (bo Tryz.f29)))) (bH rS false Tryz.f29 Post))
theorem aRV (F:Nat) (K:zK):∀n r,aHd F K n r=aDh F (aCG (K .ret)) (aCG (K (.exit 0))) n
 |0,_=>by kernel_rfl
 |n+1,r=>Eq.trans (b:=aAK (aHd F K n (r+1)) (aCG (K .ret)) (aCG (K (.exit 0)))) (by kernel_rfl) (by rewrite[aRV F K n (r+1)];kernel_rfl)
theorem bE8 (F:Nat) (Post:aB UU->Prop):aHd F (aTE F Post) F 0=aJw F (fun r0=>Post (.bool r0)):=
 (aRV F _ F 0).trans (by kernel_rfl)
theorem bHf (F:Nat) (Post:aB UU->Prop) (a0 a1:List aA):exec rS Tryz.f29.ntmps zQ F 0 (bo Tryz.f29) (cQ [.sl .rect a0,.sl .rect a1]) (bH rS false Tryz.f29 Post)=aIO F a0 a1 (fun r0=>Post (.bool r0)):=
 Eq.trans (b:=aLX a0 a1 (fun r0=>Post (.bool r0)) (aHd F (aTE F Post) F 0)) (by kernel_rfl) (by rewrite[bE8 F Post];kernel_rfl)
def aPL:Model UU
 |[.sl .rect a0,.sl .rect a1]=>some ([aJK a0 a1],.bool (aDy a0 a1))
 |_=>none
def rP:Cfg UU:=rS.add 29 aPL
theorem aZY:aX rP:=cM aZh mixed Tryz.func29 (by kernel_rfl) (by kernel_rfl) fun xs cs r h hc=>by
 unfold aPL at h;split at h
 ·rename_i a0 a1;cases h;obtain⟨F,hF⟩:=bDD a0 a1 hc;exact⟨by kernel_rfl,zQ,F,false,⟨by rw[bHf];exact hF _ rfl⟩⟩
 ·cases h
set_option maxRecDepth 100000
def aLe (F:Nat):=bW (bC qP F 0 rP.bF) rP.bF Tryz.f9.ntmps qP F
def aN1 (F:Nat):=cO (bC qP F 0 rP.bF) rP.bF Tryz.f9.ntmps qP F
def wG (k:ASt UU->Prop):uB:=(fun t4 t5 t40 t41 t42 iQ kN iY iP=>k ⟨tmL [(4,.bool t4),(5,.int .i64 t5),(7,.ptr 7 0),(9,.osl 75 0),(10,.osl 78 0),(40,.sl .pc t40),(41,.int .i64 t41),(42,.int .i64 t42)],obL [(75,.deep .rects 0 0 iQ),(76,.row .seg 0 kN),(77,.row .rect 0 iY),(78,.row .rect 0 iP),(7,.cells [.osl 76 0,.osl 77 0])]⟩)
def aBr (k:ASt UU->Prop):yA:=(fun t4 t5 t40 t41 t42 t58 t59 t60 iQ kN iY iP=>k ⟨tmL [(4,.bool t4),(5,.int .i64 t5),(7,.ptr 7 0),(9,.osl 75 0),(10,.osl 76 0),(40,.sl .pc t40),(41,.int .i64 t41),(42,.int .i64 t42),(58,.sl .rect t58),(59,.int .i64 t59),(60,.int .i64 t60)],obL [(75,.deep .rects 0 0 iQ),(76,.row .rect 0 kN),(77,.row .seg 0 iY),(78,.row .rect 0 iP),(7,.cells [.osl 77 0,.osl 78 0])]⟩)
def aG1:=(cL (cB (cS (cF (cS4 (cS (cS (cS (bo Tryz.f9)))))))))
def bJs:=(cL (cB (cS4 (cB (cF (cS (cS aG1)))))))
def aCs (F:Nat) (K:zK) (n r:Nat):uB:=wG fun s=>iter (aLe F 0 aG1) (qP 0 0) n r s K
def aHH (F:Nat) (K:zK) (n r:Nat):yA:=aBr fun s=>iter (aLe F 2 bJs) (qP 0 2) n r s K
def aSX (F:Nat) (Post:aB UU->Prop):zK:=bJ 0 (aN1 F 0 (cS4 (cS4 (bo Tryz.f9))) (bH rP.bF false Tryz.f9 Post))
def aSW (F n r:Nat) (K:zK):zK:=bJ 2 (bJ 1 (aN1 F 0 (cS (cS (cS aG1))) (fW (aLe F 0 aG1) (qP 0 0) n r K)))
theorem aQd (F:Nat) (K:zK):∀n r,aHH F K n r=aD1 F (aBr (K .ret)) (aBr (K (.exit 2))) n
 |0,_=>by kernel_rfl
 |n+1,r=>Eq.trans (b:=aUQ (aHH F K n (r+1)) (aBr (K .ret)) (aBr (K (.exit 2)))) (by kernel_rfl) (by rewrite[aQd F K n (r+1)];kernel_rfl)
theorem bDq (F n r:Nat) (K:zK):aHH F (aSW F n r K) F 0=aJg F (aCs F K n (r+1)) (wG (K .ret)) (wG (K (.exit 0))):=
 (aQd F _ F 0).trans (by kernel_rfl)
theorem aQe (F:Nat) (K:zK):∀n r,aCs F K n r=uT F (wG (K .ret)) (wG (K (.exit 0))) n
 |0,_=>by kernel_rfl
 |n+1,r=>Eq.trans (b:=aUR (aCs F K n (r+1)) (wG (K .ret)) (wG (K (.exit 0))) (aHH F (aSW F n r K) F 0)) (by kernel_rfl) (by rewrite[bDq F n r K,aQe F K n (r+1)];kernel_rfl)
theorem bDr (F:Nat) (Post:aB UU->Prop):aCs F (aSX F Post) F 0=aJh F (fun r0 r1=>Post (.tup [.bool r0,.int .i64 r1])):=
 (aQe F _ F 0).trans (by kernel_rfl)
theorem bHT (F:Nat) (Post:aB UU->Prop) (y0 y1:ByteArray) (y2 y3 y4 y5:Int) (y6 y7:List aA) (y8:List Pce) (a1:List Opn):exec rP.bF Tryz.f9.ntmps qP F 0 (bo Tryz.f9) (cQ [.agg [.str y0,.str y1,.int .i64 y2,.int .i64 y3,.int .i64 y4,.int .i64 y5,.sl .rect y6,.sl .rect y7,.sl .pc y8],.sl .op a1]) (bH rP.bF false Tryz.f9 Post)=aMa F y0 y1 y2 y3 y4 y5 y6 y7 y8 a1 (fun r0 r1=>Post (.tup [.bool r0,.int .i64 r1])):=
 Eq.trans (b:=aUS y0 y1 y2 y3 y4 y5 y6 y7 y8 a1 (fun r0 r1=>Post (.tup [.bool r0,.int .i64 r1])) (aCs F (aSX F Post) F 0)) (by kernel_rfl) (by rewrite[bDr F Post];kernel_rfl)
def aOo:Model UU
 |[.agg [.str y0,.str y1,.int .i64 y2,.int .i64 y3,.int .i64 y4,.int .i64 y5,.sl .rect y6,.sl .rect y7,.sl .pc y8],.sl .op a1]=>some ([aJA y0 y1 y2 y3 y4 y5 y6 y7 y8 a1],.tup [.bool ((sL y0 y1 y2 y3 y4 y5 y6 y7 y8 a1).1),.int .i64 ((sL y0 y1 y2 y3 y4 y5 y6 y7 y8 a1).2)])
 |_=>none
def rA:Cfg UU:=rP.add 9 aOo
theorem aZC:aX rA:=(aZY.aMI) mixed (c:=bo Tryz.f9) Tryz.func9 (by kernel_rfl) (by kernel_rfl) fun xs cs r h hc=>by
 unfold aOo at h;split at h
 ·rename_i y0 y1 y2 y3 y4 y5 y6 y7 y8 a1;cases h;obtain⟨F,hF⟩:=bCi y0 y1 y2 y3 y4 y5 y6 y7 y8 a1 hc;exact⟨by kernel_rfl,qP,F,false,⟨by rw[bHT];exact hF _ rfl⟩⟩
 ·cases h
set_option maxRecDepth 100000
def bIN (F:Nat):=bW (bC yT F 0 rA) rA Tryz.f145.ntmps yT F
def bAp (F:Nat):=cO (bC yT F 0 rA) rA Tryz.f145.ntmps yT F
def aKP (k:ASt UU->Prop):xO:=(fun t1 t5 t6 aS aR aU aT=>k ⟨tmL [(1,.sl .rect t1),(2,.ptr 2 0),(5,.int .i64 t5),(6,.int .i64 t6)],obL [(2,.cells [.int .i64 aS,.int .i64 aR,.int .i64 aU,.int .i64 aT])]⟩)
def bJ1:=(cL (cB (cS (cF (cS (cS (bo Tryz.f145)))))))
def aGg (F:Nat) (K:zK) (n r:Nat):xO:=aKP fun s=>iter (bIN F 0 bJ1) (yT 0 0) n r s K
def aRk (F:Nat) (Post:aB UU->Prop):zK:=bJ 0 (bAp F 0 (cS (cS (cS (bo Tryz.f145)))) (bH rA false Tryz.f145 Post))
theorem aQB (F:Nat) (K:zK):∀n r,aGg F K n r=aDQ F (aKP (K (.exit 0))) n
 |0,_=>by kernel_rfl
 |n+1,r=>Eq.trans (b:=aT2 (aGg F K n (r+1)) (aKP (K (.exit 0)))) (by kernel_rfl) (by rewrite[aQB F K n (r+1)];kernel_rfl)
theorem bDO (F:Nat) (Post:aB UU->Prop):aGg F (aRk F Post) F 0=aEg F (fun r0=>Post (.int .i64 r0)):=
 (aQB F _ F 0).trans (by kernel_rfl)
theorem bHC (F:Nat) (Post:aB UU->Prop) (aE aD aG aF:Int) (a1:List aA):exec rA Tryz.f145.ntmps yT F 0 (bo Tryz.f145) (cQ [.agg [.int .i64 aE,.int .i64 aD,.int .i64 aG,.int .i64 aF],.sl .rect a1]) (bH rA false Tryz.f145 Post)=aMY F aE aD aG aF a1 (fun r0=>Post (.int .i64 r0)):=
 Eq.trans (b:=aT3 aE aD aG aF a1 (fun r0=>Post (.int .i64 r0)) (aGg F (aRk F Post) F 0)) (by kernel_rfl) (by rewrite[bDO F Post];kernel_rfl)
def aO7:Model UU
 |[.agg [.int .i64 aE,.int .i64 aD,.int .i64 aG,.int .i64 aF],.sl .rect a1]=>some ([aEV aE aD aG aF a1],.int .i64 (aBA aE aD aG aF a1))
 |_=>none
def qS:Cfg UU:=rA.add 145 aO7
theorem aYl:aX qS:=cM aZC mixed Tryz.func145 (by kernel_rfl) (by kernel_rfl) fun xs cs r h hc=>by
 unfold aO7 at h;split at h
 ·rename_i aE aD aG aF a1;cases h;obtain⟨F,hF⟩:=bC1 aE aD aG aF a1 hc;exact⟨by kernel_rfl,yT,F,false,⟨by rw[bHC];exact hF _ rfl⟩⟩
 ·cases h
def bI2 (F:Nat):=bW (bC zH F 0 qS) qS Tryz.f146.ntmps zH F
def bBD (F:Nat):=cO (bC zH F 0 qS) qS Tryz.f146.ntmps zH F
def aKd (k:ASt UU->Prop):List aA->Int->Int->Prop:=(fun t0 t3 t4=>k ⟨tmL [(0,.sl .rect t0),(3,.int .i64 t3),(4,.int .i64 t4)],obL []⟩)
def bKJ:=(cL (cB (cS (cF (cS (cS (bo Tryz.f146)))))))
def aHY (F:Nat) (K:zK) (n r:Nat):List aA->Int->Int->Prop:=aKd fun s=>iter (bI2 F 0 bKJ) (zH 0 0) n r s K
def aSk (F:Nat) (Post:aB UU->Prop):zK:=bJ 0 (bBD F 0 (cS (cS (cS (bo Tryz.f146)))) (bH qS false Tryz.f146 Post))
theorem aRB (F:Nat) (K:zK):∀n r,aHY F K n r=aAs F (aKd (K (.exit 0))) n
 |0,_=>by kernel_rfl
 |n+1,r=>Eq.trans (b:=aUh (aHY F K n (r+1)) (aKd (K (.exit 0)))) (by kernel_rfl) (by rewrite[aRB F K n (r+1)];kernel_rfl)
theorem bEO (F:Nat) (Post:aB UU->Prop):aHY F (aSk F Post) F 0=aEr F (fun r0=>Post (.int .i64 r0)):=
 (aRB F _ F 0).trans (by kernel_rfl)
theorem bH2 (F:Nat) (Post:aB UU->Prop) (a0:List aA):exec qS Tryz.f146.ntmps zH F 0 (bo Tryz.f146) (cQ [.sl .rect a0]) (bH qS false Tryz.f146 Post)=aMf F a0 (fun r0=>Post (.int .i64 r0)):=
 Eq.trans (b:=aUi a0 (fun r0=>Post (.int .i64 r0)) (aHY F (aSk F Post) F 0)) (by kernel_rfl) (by rewrite[bEO F Post];kernel_rfl)
def aOx:Model UU
 |[.sl .rect a0]=>some ([aBU a0],.int .i64 (aBC a0))
 |_=>none
def rG:Cfg UU:=qS.add 146 aOx
theorem aZL:aX rG:=cM aYl mixed Tryz.func146 (by kernel_rfl) (by kernel_rfl) fun xs cs r h hc=>by
 unfold aOx at h;split at h
 ·rename_i a0;cases h;obtain⟨F,hF⟩:=bCr a0 hc;exact⟨by kernel_rfl,zH,F,false,⟨by rw[bH2];exact hF _ rfl⟩⟩
 ·cases h
set_option maxRecDepth 100000
def bIR (F:Nat):=bW (bC yX F 0 rG) rG Tryz.f78.ntmps yX F
def bAt (F:Nat):=cO (bC yX F 0 rG) rG Tryz.f78.ntmps yX F
def aBd (k:ASt UU->Prop):xR:=(fun t0 t1 t2 t6 t7=>k ⟨tmL [(0,.sl .rect t0),(1,.sl .rect t1),(2,.sl .rect t2),(6,.bool t6),(7,.int .i64 t7)],obL []⟩)
def bJ5:=(cL (cB (cS (cF (cS (bo Tryz.f78))))))
def aGk (F:Nat) (K:zK) (n r:Nat):xR:=aBd fun s=>iter (bIR F 0 bJ5) (yX 0 0) n r s K
def aRo (F:Nat) (Post:aB UU->Prop):zK:=bJ 0 (bAt F 0 (cS (cS (bo Tryz.f78))) (bH rG false Tryz.f78 Post))
theorem aQF (F:Nat) (K:zK):∀n r,aGk F K n r=aDS F (aBd (K .ret)) (aBd (K (.exit 0))) n
 |0,_=>by kernel_rfl
 |n+1,r=>Eq.trans (b:=aTa (aGk F K n (r+1)) (aBd (K .ret)) (aBd (K (.exit 0)))) (by kernel_rfl) (by rewrite[aQF F K n (r+1)];kernel_rfl)
theorem bDS (F:Nat) (Post:aB UU->Prop):aGk F (aRo F Post) F 0=aEi F (fun r0=>Post (.bool r0)):=
 (aQF F _ F 0).trans (by kernel_rfl)
theorem bHG (F:Nat) (Post:aB UU->Prop) (a0 a1 a2:List aA):exec rG Tryz.f78.ntmps yX F 0 (bo Tryz.f78) (cQ [.sl .rect a0,.sl .rect a1,.sl .rect a2]) (bH rG false Tryz.f78 Post)=aM2 F a0 a1 a2 (fun r0=>Post (.bool r0)):=
 Eq.trans (b:=aTb a0 a1 a2 (fun r0=>Post (.bool r0)) (aGk F (aRo F Post) F 0)) (by kernel_rfl) (by rewrite[bDS F Post];kernel_rfl)
def aOb:Model UU
 |[.sl .rect a0,.sl .rect a1,.sl .rect a2]=>some ([aIq a0 a1 a2],.bool (sH a0 a1 a2))
 |_=>none
def qW:Cfg UU:=rG.add 78 aOb
theorem aYp:aX qW:=cM aZL mixed Tryz.func78 (by kernel_rfl) (by kernel_rfl) fun xs cs r h hc=>by
 unfold aOb at h;split at h
 ·rename_i a0 a1 a2;cases h;obtain⟨F,hF⟩:=bC5 a0 a1 a2 hc;exact⟨by kernel_rfl,yX,F,false,⟨by rw[bHG];exact hF _ rfl⟩⟩
 ·cases h
set_option maxRecDepth 100000
def bIO (F:Nat):=bW (bC yU F 0 qW) qW Tryz.f33.ntmps yU F
def bAq (F:Nat):=cO (bC yU F 0 qW) qW Tryz.f33.ntmps yU F
def aBa (k:ASt UU->Prop):xP:=(fun t0 t1 t2 t6 t7=>k ⟨tmL [(0,.sl .rects t0),(1,.sl .rect t1),(2,.sl .rect t2),(6,.bool t6),(7,.int .i64 t7)],obL []⟩)
def bJ2:=(cL (cB (cS (cF (cS (bo Tryz.f33))))))
def aGh (F:Nat) (K:zK) (n r:Nat):xP:=aBa fun s=>iter (bIO F 0 bJ2) (yU 0 0) n r s K
def aRl (F:Nat) (Post:aB UU->Prop):zK:=bJ 0 (bAq F 0 (cS (cS (bo Tryz.f33))) (bH qW false Tryz.f33 Post))
theorem aQC (F:Nat) (K:zK):∀n r,aGh F K n r=aDR F (aBa (K .ret)) (aBa (K (.exit 0))) n
 |0,_=>by kernel_rfl
 |n+1,r=>Eq.trans (b:=aT4 (aGh F K n (r+1)) (aBa (K .ret)) (aBa (K (.exit 0)))) (by kernel_rfl) (by rewrite[aQC F K n (r+1)];kernel_rfl)
theorem bDP (F:Nat) (Post:aB UU->Prop):aGh F (aRl F Post) F 0=aEh F (fun r0=>Post (.bool r0)):=
 (aQC F _ F 0).trans (by kernel_rfl)
theorem bHD (F:Nat) (Post:aB UU->Prop) (a0:List (List aA)) (a1 a2:List aA):exec qW Tryz.f33.ntmps yU F 0 (bo Tryz.f33) (cQ [.sl .rects a0,.sl .rect a1,.sl .rect a2]) (bH qW false Tryz.f33 Post)=aMZ F a0 a1 a2 (fun r0=>Post (.bool r0)):=
 Eq.trans (b:=aT5 a0 a1 a2 (fun r0=>Post (.bool r0)) (aGh F (aRl F Post) F 0)) (by kernel_rfl) (by rewrite[bDP F Post];kernel_rfl)
def aO8:Model UU
 |[.sl .rects a0,.sl .rect a1,.sl .rect a2]=>some ([aEW a0 a1 a2],.bool (kH a0 a1 a2))
 |_=>none
def qT:Cfg UU:=qW.add 33 aO8
theorem aYm:aX qT:=cM aYp mixed Tryz.func33 (by kernel_rfl) (by kernel_rfl) fun xs cs r h hc=>by
 unfold aO8 at h;split at h
 ·rename_i a0 a1 a2;cases h;obtain⟨F,hF⟩:=bC2 a0 a1 a2 hc;exact⟨by kernel_rfl,yU,F,false,⟨by rw[bHD];exact hF _ rfl⟩⟩
 ·cases h
set_option maxRecDepth 100000
def aLc (F:Nat):=bW (bC qN F 0 qT.bF) qT.bF Tryz.f10.ntmps qN F
def aNY (F:Nat):=cO (bC qN F 0 qT.bF) qT.bF Tryz.f10.ntmps qN F
def wC (k:ASt UU->Prop):tX:=(fun t4 t5 t12 aS aR aU aT bB bA aZ bE jG cN cI iO iN=>k ⟨tmL [(2,.ptr 2 0),(4,.bool t4),(5,.int .i64 t5),(7,.ptr 7 0),(9,.osl 82 0),(11,.osl 83 0),(12,.int .i64 t12)],obL [(82,.deep .rects 0 0 iO),(83,.row .rect 0 iN),(2,.cells [.str aS,.str aR,.int .i64 aU,.int .i64 aT,.int .i64 bB,.int .i64 bA,.sl .rect aZ,.sl .rect bE,.sl .pc jG]),(7,.cells [.sl .seg cN,.sl .rect cI])]⟩)
def aBg (k:ASt UU->Prop):xU:=(fun t4 t5 t12 t14 aS aR aU aT bB bA aZ bE jG cN cI cY cX cV cU gW gO iK iO iN=>k ⟨tmL [(2,.ptr 2 0),(4,.bool t4),(5,.int .i64 t5),(7,.ptr 7 0),(9,.osl 82 0),(11,.osl 83 0),(12,.int .i64 t12),(13,.ptr 13 0),(14,.int .i64 t14)],obL [(82,.deep .rects 0 0 iO),(83,.row .rect 0 iN),(2,.cells [.str aS,.str aR,.int .i64 aU,.int .i64 aT,.int .i64 bB,.int .i64 bA,.sl .rect aZ,.sl .rect bE,.sl .pc jG]),(7,.cells [.sl .seg cN,.sl .rect cI]),(13,.cells [.str cY,.str cX,.int .i64 cV,.int .i64 cU,.sl .rect gW,.sl .rect gO,.sl .rect iK])]⟩)
def aGU:=(cL (cB (cS (cF (cS4 (cS4 (bo Tryz.f10)))))))
def bJ8:=(cL (cB (cS4 (cB (cF (cS aGU))))))
def aCk (F:Nat) (K:zK) (n r:Nat):tX:=wC fun s=>iter (aLc F 0 aGU) (qN 0 0) n r s K
def aGn (F:Nat) (K:zK) (n r:Nat):xU:=aBg fun s=>iter (aLc F 2 bJ8) (qN 0 2) n r s K
def aRt (F:Nat) (Post:aB UU->Prop):zK:=bJ 0 (aNY F 0 (cS4 (cS4 (cS (bo Tryz.f10)))) (bH qT.bF false Tryz.f10 Post))
def aRs (F n r:Nat) (K:zK):zK:=bJ 2 (bJ 1 (aNY F 0 (cS (cS aGU)) (fW (aLc F 0 aGU) (qN 0 0) n r K)))
theorem aQJ (F:Nat) (K:zK):∀n r,aGn F K n r=aDU F (aBg (K .ret)) (aBg (K (.exit 2))) n
 |0,_=>by kernel_rfl
 |n+1,r=>Eq.trans (b:=aTg (aGn F K n (r+1)) (aBg (K .ret)) (aBg (K (.exit 2)))) (by kernel_rfl) (by rewrite[aQJ F K n (r+1)];kernel_rfl)
theorem bDW (F n r:Nat) (K:zK):aGn F (aRs F n r K) F 0=aJ4 F (aCk F K n (r+1)) (wC (K .ret)) (wC (K (.exit 0))):=
 (aQJ F _ F 0).trans (by kernel_rfl)
theorem aQK (F:Nat) (K:zK):∀n r,aCk F K n r=uO F (wC (K .ret)) (wC (K (.exit 0))) n
 |0,_=>by kernel_rfl
 |n+1,r=>Eq.trans (b:=aTh (aCk F K n (r+1)) (wC (K .ret)) (wC (K (.exit 0))) (aGn F (aRs F n r K) F 0)) (by kernel_rfl) (by rewrite[bDW F n r K,aQK F K n (r+1)];kernel_rfl)
theorem bDX (F:Nat) (Post:aB UU->Prop):aCk F (aRt F Post) F 0=aJ5 F (fun r0 r1=>Post (.tup [.bool r0,.int .i64 r1])):=
 (aQK F _ F 0).trans (by kernel_rfl)
theorem bHJ (F:Nat) (Post:aB UU->Prop) (y0 y1:ByteArray) (y2 y3 y4 y5:Int) (y6 y7:List aA) (y8:List Pce) (a1:List Opn):exec qT.bF Tryz.f10.ntmps qN F 0 (bo Tryz.f10) (cQ [.agg [.str y0,.str y1,.int .i64 y2,.int .i64 y3,.int .i64 y4,.int .i64 y5,.sl .rect y6,.sl .rect y7,.sl .pc y8],.sl .op a1]) (bH qT.bF false Tryz.f10 Post)=aM4 F y0 y1 y2 y3 y4 y5 y6 y7 y8 a1 (fun r0 r1=>Post (.tup [.bool r0,.int .i64 r1])):=
 Eq.trans (b:=aTi y0 y1 y2 y3 y4 y5 y6 y7 y8 a1 (fun r0 r1=>Post (.tup [.bool r0,.int .i64 r1])) (aCk F (aRt F Post) F 0)) (by kernel_rfl) (by rewrite[bDX F Post];kernel_rfl)
def aOe:Model UU
 |[.agg [.str y0,.str y1,.int .i64 y2,.int .i64 y3,.int .i64 y4,.int .i64 y5,.sl .rect y6,.sl .rect y7,.sl .pc y8],.sl .op a1]=>some ([aIt y0 y1 y2 y3 y4 y5 y6 y7 y8 a1],.tup [.bool ((sJ y0 y1 y2 y3 y4 y5 y6 y7 y8 a1).1),.int .i64 ((sJ y0 y1 y2 y3 y4 y5 y6 y7 y8 a1).2)])
 |_=>none
def aHw:Cfg UU:=qT.add 10 aOe
theorem aYs:aX aHw:=(aYm.aMI) mixed (c:=bo Tryz.f10) Tryz.func10 (by kernel_rfl) (by kernel_rfl) fun xs cs r h hc=>by
 unfold aOe at h;split at h
 ·rename_i y0 y1 y2 y3 y4 y5 y6 y7 y8 a1;cases h;obtain⟨F,hF⟩:=bC8 y0 y1 y2 y3 y4 y5 y6 y7 y8 a1 hc;exact⟨by kernel_rfl,qN,F,false,⟨by rw[bHJ];exact hF _ rfl⟩⟩
 ·cases h
set_option maxRecDepth 100000
theorem bHe (F:Nat) (Post:aB UU->Prop) (y0 y1:ByteArray) (y2 y3 y4 y5:Int) (y6 y7:List aA) (y8:List Pce) (a1:List Opn):exec aHw Tryz.f4.ntmps aWy F 0 (bo Tryz.f4) (cQ [.agg [.str y0,.str y1,.int .i64 y2,.int .i64 y3,.int .i64 y4,.int .i64 y5,.sl .rect y6,.sl .rect y7,.sl .pc y8],.sl .op a1]) (bH aHw false Tryz.f4 Post)=aMp F y0 y1 y2 y3 y4 y5 y6 y7 y8 a1 (fun r0=>Post (.bool r0)):=
 by kernel_rfl
end
end Go.Proofs.YtjjbojomlfgjlaaGreatDoor
