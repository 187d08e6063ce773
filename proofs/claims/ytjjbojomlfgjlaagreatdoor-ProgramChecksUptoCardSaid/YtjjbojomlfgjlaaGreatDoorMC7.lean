/- Texts of this proof, one behind another: That the code says what the printed pieces say, by the kernel; printed by gen.py. Conditio; That the code says what the printed pieces say, by the kernel; printed by gen.py. Conditio; That the code says what the printed pieces say, by the kernel; printed by gen.py. Conditio; That the code says what the printed pieces say, by the kernel; printed by gen.py. Conditio; That the code says what the printed pieces say, by the kernel; printed by gen.py. Conditio; That the code says what the printed pieces say, by the kernel; printed by gen.py. Conditio; That the code says what the printed pieces say, by the kernel; printed by gen.py. Conditio; Summaries by hand: program.places; calls in place of the functions of grids. Conditions: n; That the code says what the printed pieces say, by the kernel; printed by gen.py. Conditio; That the code says what the printed pieces say, by the kernel; printed by gen.py. Conditio; That the code says what the printed pieces say, by the kernel; printed by gen.py. Conditio; That the code says what the printed pieces say, by the kernel; printed by gen.py. Conditio; That the code says what the printed pieces say, by the kernel; printed by gen.py. Conditio; That the code says what the printed pieces say, by the kernel; printed by gen.py. Conditio; That the code says what the printed pieces say, by the kernel; printed by gen.py. Conditio; That the code says what the printed pieces say, by the kernel; printed by gen.py. Conditio; That the code says what the . Conditions: none. -/
import Derived.Test.YtjjbojomlfgjlaaGreatDoorMC4
import Derived.Test.YtjjbojomlfgjlaaGreatDoorMC6
import Derived.WalkKit
import Derived.Test.YtjjbojomlfgjlaaGreatDoorMC5
namespace Go.Proofs.YtjjbojomlfgjlaaGreatDoor
open Go.Vm Go.RowKit
set_option linter.unusedVariables false
set_option maxRecDepth 100000
noncomputable section
def bIU (F:Nat):=bW (bC zA F 1 (nN qY)) (nN qY) Tryz.f25.ntmps zA F
def bAw (F:Nat):=cO (bC zA F 1 (nN qY)) (nN qY) Tryz.f25.ntmps zA F
abbrev aWa:=Int->List Opn->Int->Int->ByteArray->ByteArray->Int->Int->Int->Int->List aA->List aA->Int->Int->List aA->List Seg->Prop
def aBn (k:ASt UU->Prop):aWa:=(fun t5 t24 t25 t26 eN eM eL eK eF eE dW eJ fQ fP eI cP=>k ⟨tmL [(4,.ptr 4 0),(5,.int .i64 t5),(7,.ptr 23 0),(24,.sl .op t24),(25,.int .i64 t25),(26,.int .i64 t26)],obL [(50,.row .rect 0 eI),(51,.row .seg 0 cP),(4,.cells [.nils,.nils]),(23,.cells [.str eN,.str eM,.int .i64 eL,.int .i64 eK,.int .i64 eF,.int .i64 eE,.sl .rect dW,.sl .rect eJ,.int .i64 fQ,.int .i64 fP,.osl 51 0,.osl 50 0])]⟩)
def bJk:=(cL (cB (cS (cF (cS4 (bo Tryz.f25))))))
def aGz (F:Nat) (K:zK) (n r:Nat):aWa:=aBn fun s=>iter (bIU F 0 bJk) (zA 0 0) n r s K
def aSM (F:Nat) (Post:aB UU->Prop):zK:=bJ 0 (bAw F 0 (cS4 (cS (bo Tryz.f25))) (bH (nN qY) true Tryz.f25 Post))
theorem aQ3 (F:Nat) (K:zK):∀n r,aGz F K n r=aAh F (aBn (K .ret)) (aBn (K (.exit 0))) n
 |0,_=>by kernel_rfl
 |n+1,r=>Eq.trans (b:=(fun t5 t24 t25 t26 eN eM eL eK eF eE dW eJ fQ fP eI cP=>aFg (aGz F K n (r+1)) (aBn (K .ret)) (aBn (K (.exit 0))) t5 t24 t25 t26 eN eM eL eK eF eE dW eJ fQ fP eI cP)) (by kernel_rfl) (by rewrite[aQ3 F K n (r+1)];kernel_rfl)
theorem bDg (F:Nat) (Post:aB UU->Prop):aGz F (aSM F Post) F 0=aOC F (fun nC nB r1=>Post (.tup [.agg [.new .seg nC,.new .rect nB],.int .i64 r1])):=
 (aQ3 F _ F 0).trans (by kernel_rfl)
theorem bHO (F:Nat) (Post:aB UU->Prop) (qa qb:ByteArray) (qc qd qf qg:Int) (qh qi:List aA) (a1:List Opn):exec (nN qY) Tryz.f25.ntmps zA F 0 (bo Tryz.f25) (cQ [.agg [.str qa,.str qb,.int .i64 qc,.int .i64 qd,.int .i64 qf,.int .i64 qg,.sl .rect qh,.sl .rect qi],.sl .op a1]) (bH (nN qY) true Tryz.f25 Post)=aIG F qa qb qc qd qf qg qh qi a1 (fun nC nB r1=>Post (.tup [.agg [.new .seg nC,.new .rect nB],.int .i64 r1])):=
 Eq.trans (b:=aLE qa qb qc qd qf qg qh qi a1 (fun nC nB r1=>Post (.tup [.agg [.new .seg nC,.new .rect nB],.int .i64 r1])) (aGz F (aSM F Post) F 0)) (by kernel_rfl) (by rewrite[bDg F Post];kernel_rfl)
def aOj:Model UU
 |[.agg [.str qa,.str qb,.int .i64 qc,.int .i64 qd,.int .i64 qf,.int .i64 qg,.sl .rect qh,.sl .rect qi],.sl .op a1]=>some ([aEX qa qb qc qd qf qg qh qi a1],.tup [.agg [.new .seg ((gR qa qb qc qd qf qg qh qi a1).1),.new .rect ((gR qa qb qc qd qf qg qh qi a1).2.1)],.int .i64 ((gR qa qb qc qd qf qg qh qi a1).2.2)])
 |_=>none
def aXB:Cfg UU:=qY.add 25 aOj
theorem aYx:aX aXB:=(bLW rfl aYv) mixed (c:=bo Tryz.f25) Tryz.func25 (by kernel_rfl) (by kernel_rfl) fun xs cs r h hc=>by
 unfold aOj at h;split at h
 ·rename_i qa qb qc qd qf qg qh qi a1;cases h;obtain⟨F,hF⟩:=bCd qa qb qc qd qf qg qh qi a1 hc;exact⟨by kernel_rfl,zA,F,true,⟨by rw[bHO];exact hF _ rfl⟩⟩
 ·cases h
set_option maxRecDepth 100000
def aP4:Model UU
 |[.agg [.int .i64 ql,.int .i64 aE,.int .i64 aD,.int .i64 aG,.int .i64 aF,.int .i64 dG],.agg [.int .i64 bL,.int .i64 bK]]=>some ([vX ql aE aD aG aF dG bL bK],.sl .int (vE ql aE aD aG aF dG bL bK))
 |_=>none
def rT:Cfg UU:=aXB.add 100 aP4
theorem aZi:aX rT:=cM aYx mixed Tryz.func100 (by kernel_rfl) (by kernel_rfl) fun xs cs r h hc=>by
 unfold aP4 at h;split at h
 ·rename_i ql aE aD aG aF dG bL bK;cases h;refine⟨by kernel_rfl,M0,0,false,⟨nH (fun Q:(zzI)->Prop=>cond (ql==3) ((((([aC (aE-bL),aC (aD-bK)]).length+([aG,aF]).length)*8<=140737488355328)/\Q (([aC (aE-bL),aC (aD-bK)])++([aG,aF])))) (Q ([aC (aE-bL),aC (aD-bK)]))) (fun Q=>Q (vE ql aE aD aG aF dG bL bK)) (fun r0=>(.sl .int r0:aB UU)=.sl .int (vE ql aE aD aG aF dG bL bK)) (by kernel_rfl) (fun Q h=>?_) rfl⟩⟩
  try dsimp only at h ⊢
  unfold vE at h;have hp:vX ql aE aD aG aF dG bL bK:=hc;unfold vX at hp;cases jB:(ql==3)
  ·try simp only[jB,cond_false] at h hp ⊢
   exact h
  ·try simp only[jB,cond_true] at h hp ⊢
   have aCO:=hp;refine⟨aCO,?_⟩;exact h
 ·cases h
set_option maxRecDepth 100000
def aLg (F:Nat):=bW (bC qR F 0 rT) rT Tryz.f24.ntmps qR F
def aIk (F:Nat):=cO (bC qR F 0 rT) rT Tryz.f24.ntmps qR F
abbrev aWr:=ByteArray->Int->List Opn->Int->Int->ByteArray->Int->Int->Prop
def wN (k:ASt UU->Prop):aWr:=(fun t4 t5 t28 t29 t30 o8 dM dL=>k ⟨tmL [(4,.str t4),(5,.int .i64 t5),(6,.ptr 6 0),(8,.ptr 8 0),(9,.ptr 9 0),(28,.sl .op t28),(29,.int .i64 t29),(30,.int .i64 t30)],obL [(6,.cells [.frz .W2,.fn 100 [],.fn 102 []]),(8,.opq .bld o8),(9,.cells [.int .i64 dM,.int .i64 dL])]⟩)
abbrev aWq:=ByteArray->Int->List Opn->Int->Int->zzI->Int->Int->ByteArray->Int->Int->Int->Int->Int->Int->Int->Int->Prop
def aKk (k:ASt UU->Prop):aWq:=(fun t4 t5 t28 t29 t30 t60 t61 t62 o8 dM dL fD eY eX fC fB fA=>k ⟨tmL [(4,.str t4),(5,.int .i64 t5),(6,.ptr 6 0),(8,.ptr 8 0),(9,.ptr 9 0),(11,.ptr 11 0),(28,.sl .op t28),(29,.int .i64 t29),(30,.int .i64 t30),(60,.sl .int t60),(61,.int .i64 t61),(62,.int .i64 t62)],obL [(6,.cells [.frz .W2,.fn 100 [],.fn 102 []]),(8,.opq .bld o8),(9,.cells [.int .i64 dM,.int .i64 dL]),(11,.cells [.int .i64 fD,.int .i64 eY,.int .i64 eX,.int .i64 fC,.int .i64 fB,.int .i64 fA])]⟩)
def aC9:=(cL (cB (cS (cF (cS4 (cS (cS (bo Tryz.f24))))))))
def bK2:=(cL (cB (cS (cF (cS4 (cB (cF (cS (cS aC9)))))))))
def aDD (F:Nat) (K:zK) (n r:Nat):aWr:=wN fun s=>iter (aLg F 0 aC9) (qR 0 0) n r s K
def aHh (F:Nat) (K:zK) (n r:Nat):aWq:=aKk fun s=>iter (aLg F 2 bK2) (qR 0 2) n r s K
def aTJ (F:Nat) (Post:aB UU->Prop):zK:=bJ 0 (aIk F 0 (cS4 (cS (cS (cS (bo Tryz.f24))))) (bH rT false Tryz.f24 Post))
def aTI (F n r:Nat) (K:zK):zK:=bJ 2 (aIk F 1 (cS4 (cS (cB (cF (cS (cS aC9)))))) (bJ 1 (aIk F 0 (cS (cS (cS aC9))) (fW (aLg F 0 aC9) (qR 0 0) n r K))))
theorem aRZ (F:Nat) (K:zK):∀n r,aHh F K n r=aDk F (aKk (K (.exit 2))) n
 |0,_=>by kernel_rfl
 |n+1,r=>Eq.trans (b:=(fun t4 t5 t28 t29 t30 t60 t61 t62 o8 dM dL fD eY eX fC fB fA=>aVQ (aHh F K n (r+1)) (aKk (K (.exit 2))) t4 t5 t28 t29 t30 t60 t61 t62 o8 dM dL fD eY eX fC fB fA)) (by kernel_rfl) (by rewrite[aRZ F K n (r+1)];kernel_rfl)
theorem bEc (F n r:Nat) (K:zK):aHh F (aTI F n r K) F 0=aJx F (aDD F K n (r+1)) (wN (K .ret)) (wN (K (.exit 0))):=
 (aRZ F _ F 0).trans (by kernel_rfl)
theorem aR0 (F:Nat) (K:zK):∀n r,aDD F K n r=sD F (wN (K .ret)) (wN (K (.exit 0))) n
 |0,_=>by kernel_rfl
 |n+1,r=>Eq.trans (b:=(fun t4 t5 t28 t29 t30 o8 dM dL=>aVR (aDD F K n (r+1)) (wN (K .ret)) (wN (K (.exit 0))) t4 t5 t28 t29 t30 o8 dM dL (aHh F (aTI F n r K) F 0))) (by kernel_rfl) (by rewrite[bEc F n r K,aR0 F K n (r+1)];kernel_rfl)
theorem bEd (F:Nat) (Post:aB UU->Prop):aDD F (aTJ F Post) F 0=aOV F (fun r0 r1=>Post (.tup [.str r0,.int .i64 r1])):=
 (aR0 F _ F 0).trans (by kernel_rfl)
theorem bHj (F:Nat) (Post:aB UU->Prop) (ops:List Opn):exec rT Tryz.f24.ntmps qR F 0 (bo Tryz.f24) (cQ [.int .i64 2,.sl .op ops]) (bH rT false Tryz.f24 Post)=aIP F ops (fun r0 r1=>Post (.tup [.str r0,.int .i64 r1])):=
 Eq.trans (b:=aL0 ops (fun r0 r1=>Post (.tup [.str r0,.int .i64 r1])) (aDD F (aTJ F Post) F 0)) (by kernel_rfl) (by rewrite[bEd F Post];kernel_rfl)
def aPp:Model UU
 |[.int .i64 2,.sl .op ops]=>some ([aJM ops],.tup [.str ((vI ops).1),.int .i64 ((vI ops).2)])
 |_=>none
def aHx:Cfg UU:=rT.add 24 aPp
theorem bAG:aX aHx:=cM aZi mixed Tryz.func24 (by kernel_rfl) (by kernel_rfl) fun xs cs r h hc=>by
 unfold aPp at h;split at h
 ·rename_i ops;cases h;obtain⟨F,hF⟩:=bDH ops hc;exact⟨by kernel_rfl,qR,F,false,⟨by rw[bHj];exact hF _ rfl⟩⟩
 ·cases h
set_option maxRecDepth 100000
theorem bHc (F:Nat) (Post:aB UU->Prop):exec aHx Tryz.f8.ntmps aWx F 0 (bo Tryz.f8) (cQ []) (bH aHx false Tryz.f8 Post)=aIM F  (fun r0=>Post (.bool r0)):=
 by kernel_rfl
def aPH:Model UU
 |[]=>some ([],.bool aDx)
 |_=>none
def aXH:Cfg UU:=aHx.add 8 aPH
theorem aZU:aX aXH:=cM bAG mixed Tryz.func8 (by kernel_rfl) (by kernel_rfl) fun xs cs r h hc=>by
 unfold aPH at h;split at h
 ·cases h;obtain⟨F,hF⟩:=bDB ;exact⟨by kernel_rfl,aWx,F,false,⟨by rw[bHc];exact hF _ rfl⟩⟩
 ·cases h
set_option maxRecDepth 100000
def aP0:Model UU
 |[.agg [.str qa,.str qb,.int .i64 qc,.int .i64 qd,.int .i64 qf,.int .i64 qg,.sl .rect qh,.sl .rect qi],.agg [.int .i64 qr,.int .i64 qq,.int .i64 qu,.int .i64 qs]]=>some ([],.bool (vD qa qb qc qd qf qg qh qi qr qq qu qs))
 |_=>none
def aXT:Cfg UU:=aXH.add 59 aP0
theorem aZe:aX aXT:=cM aZU mixed Tryz.func59 (by kernel_rfl) (by kernel_rfl) fun xs cs r h hc=>by
 unfold aP0 at h;split at h
 ·rename_i qa qb qc qd qf qg qh qi qr qq qu qs;cases h;refine⟨by kernel_rfl,M0,0,false,⟨of_eq (q:=(fun Q:Bool->Prop=>cond ((!(iC qa qb qc qd qf qg qh qi qr qq))||(!(iC qa qb qc qd qf qg qh qi qu qs))) (Q false) (Q (((qq==qs)&&(decide (qr<qu)))||((qr==qu)&&(decide (qq<qs)))))) fun r0=>(.bool r0:aB UU)=.bool (vD qa qb qc qd qf qg qh qi qr qq qu qs)) (by kernel_rfl) ?_⟩⟩;unfold vD;cases (((!(iC qa qb qc qd qf qg qh qi qr qq))||(!(iC qa qb qc qd qf qg qh qi qu qs))))<;>rfl
 ·cases h
def aPN:Model UU
 |[.agg [.str qa,.str qb,.int .i64 qc,.int .i64 qd,.int .i64 qf,.int .i64 qg,.sl .rect qh,.sl .rect qi],.int .i64 a1,.int .i64 a2]=>some ([],.bool (pH qa qb qc qd qf qg qh qi a1 a2))
 |_=>none
def aXK:Cfg UU:=aXT.add 70 aPN
theorem aZ0:aX aXK:=tin aZe mixed Tryz.func70 (by kernel_rfl) (by kernel_rfl) false fun xs cs r h=>by
 unfold aPN at h;split at h
 ·cases h;exact⟨by kernel_rfl,by kernel_rfl⟩
 ·cases h
def aPe:Model UU
 |[.int .u64 a0,.int .u64 a1]=>some ([aBW a0 a1],.tup [.int .u64 ((mG a0 a1).1),.int .u64 ((mG a0 a1).2)])
 |_=>none
def aX5:Cfg UU:=aXK.add 218 aPe
theorem aZt:aX aX5:=cM aZ0 mixed Tryz.func218 (by kernel_rfl) (by kernel_rfl) fun xs cs r h hc=>by
 unfold aPe at h;split at h
 ·rename_i a0 a1;cases h;refine⟨by kernel_rfl,M0,0,false,⟨nH (fun Q:Int->Int->Prop=>((0<=(32:Int))/\((0<=(32:Int))/\((0<=(32:Int))/\((0<=(32:Int))/\((0<=(32:Int))/\Q (IntKind.u64.wrap ((IntKind.u64.wrap ((IntKind.u64.wrap ((Int.fdiv a0 (2^(min 32 64)))*(Int.fdiv a1 (2^(min 32 64)))))+(Int.fdiv (IntKind.u64.wrap ((IntKind.u64.wrap ((Int.fdiv a0 (2^(min 32 64)))*(gP .u64 a1 4294967295)))+(Int.fdiv (IntKind.u64.wrap ((gP .u64 a0 4294967295)*(gP .u64 a1 4294967295))) (2^(min 32 64))))) (2^(min 32 64)))))+(Int.fdiv (IntKind.u64.wrap ((gP .u64 (IntKind.u64.wrap ((IntKind.u64.wrap ((Int.fdiv a0 (2^(min 32 64)))*(gP .u64 a1 4294967295)))+(Int.fdiv (IntKind.u64.wrap ((gP .u64 a0 4294967295)*(gP .u64 a1 4294967295))) (2^(min 32 64))))) 4294967295)+(IntKind.u64.wrap ((gP .u64 a0 4294967295)*(Int.fdiv a1 (2^(min 32 64))))))) (2^(min 32 64))))) (IntKind.u64.wrap (a0*a1)))))))) (fun Q=>Q ((mG a0 a1).1) ((mG a0 a1).2)) (fun r0 r1=>(.tup [.int .u64 r0,.int .u64 r1]:aB UU)=.tup [.int .u64 ((mG a0 a1).1),.int .u64 ((mG a0 a1).2)]) (by kernel_rfl) (fun Q h=>?_) rfl⟩⟩
  try dsimp only at h ⊢
  unfold mG at h;have hp:aBW a0 a1:=hc;unfold aBW at hp;obtain⟨jO,hp⟩:=hp;refine⟨jO,?_⟩;obtain⟨aCO,hp⟩:=hp;refine⟨aCO,?_⟩;obtain⟨aKt,hp⟩:=hp;refine⟨aKt,?_⟩;obtain⟨aKs,hp⟩:=hp;refine⟨aKs,?_⟩;have bGG:=hp;refine⟨bGG,?_⟩;exact h
 ·cases h
def aPf:Model UU
 |[.int .u64 a0,.int .u64 a1]=>some ([aE3 a0 a1],.tup [.int .u64 ((oD a0 a1).1),.int .u64 ((oD a0 a1).2)])
 |_=>none
def aX6:Cfg UU:=aX5.add 177 aPf
theorem aZu:aX aX6:=cM aZt mixed Tryz.func177 (by kernel_rfl) (by kernel_rfl) fun xs cs r h hc=>by
 unfold aPf at h;split at h
 ·rename_i a0 a1;cases h;refine⟨by kernel_rfl,M0,0,false,⟨nH (fun Q:Int->Int->Prop=>((aBW a0 a1)/\Q ((mG a0 a1).1) ((mG a0 a1).2))) (fun Q=>Q ((oD a0 a1).1) ((oD a0 a1).2)) (fun r0 r1=>(.tup [.int .u64 r0,.int .u64 r1]:aB UU)=.tup [.int .u64 ((oD a0 a1).1),.int .u64 ((oD a0 a1).2)]) (by kernel_rfl) (fun Q h=>?_) rfl⟩⟩
  try dsimp only at h ⊢
  unfold oD at h;have hp:aE3 a0 a1:=hc;unfold aE3 at hp;have jO:=hp;refine⟨jO,?_⟩;exact h
 ·cases h
def aPv:Model UU
 |[.int .i64 a0]=>some ([],.bool (aEF a0))
 |_=>none
def aXk:Cfg UU:=aX6.add 186 aPv
theorem bAN:aX aXk:=tin aZu mixed Tryz.func186 (by kernel_rfl) (by kernel_rfl) false fun xs cs r h=>by
 unfold aPv at h;split at h
 ·cases h;exact⟨by kernel_rfl,by kernel_rfl⟩
 ·cases h
def aPw:Model UU
 |[.int .i64 a0,.int .i64 a1]=>some ([],.bool (aEG a0 a1))
 |_=>none
def aXl:Cfg UU:=aXk.add 178 aPw
theorem bAO:aX aXl:=tin bAN mixed Tryz.func178 (by kernel_rfl) (by kernel_rfl) false fun xs cs r h=>by
 unfold aPw at h;split at h
 ·cases h;exact⟨by kernel_rfl,by kernel_rfl⟩
 ·cases h
def aPK:Model UU
 |[.int .i64 a0]=>some ([],.bool (l9 a0))
 |_=>none
def aXI:Cfg UU:=aXl.add 179 aPK
theorem aZX:aX aXI:=tin bAO mixed Tryz.func179 (by kernel_rfl) (by kernel_rfl) false fun xs cs r h=>by
 unfold aPK at h;split at h
 ·cases h;exact⟨by kernel_rfl,by kernel_rfl⟩
 ·cases h
def aPS:Model UU
 |[.str a0,.str a1,.int .i64 a2,.int .i64 a3]=>some ([],.int .i64 (kJ a0 a1 a2 a3))
 |_=>none
def rQ:Cfg UU:=aXI.add 132 aPS
theorem aZ5:aX rQ:=cM aZX mixed Tryz.func132 (by kernel_rfl) (by kernel_rfl) fun xs cs r h hc=>by
 unfold aPS at h;split at h
 ·rename_i a0 a1 a2 a3;cases h;refine⟨by kernel_rfl,M0,0,false,⟨of_eq (q:=(fun Q:Int->Prop=>cond ((!(vn a0))||(!(vn a1))) (Q 2) (cond ((((decide (a2<1))||(decide (60<a2)))||(decide (a3<0)))||(decide (2<a3))) (Q 1) (Q 0))) fun r0=>(.int .i64 r0:aB UU)=.int .i64 (kJ a0 a1 a2 a3)) (by kernel_rfl) ?_⟩⟩;unfold kJ;cases (((!(vn a0))||(!(vn a1))))<;>cases (((((decide (a2<1))||(decide (60<a2)))||(decide (a3<0)))||(decide (2<a3))))<;>rfl
 ·cases h
set_option maxRecDepth 100000
def bIP (F:Nat):=bW (bC yV F 0 rQ) rQ Tryz.f133.ntmps yV F
def bAr (F:Nat):=cO (bC yV F 0 rQ) rQ Tryz.f133.ntmps yV F
def aBb (k:ASt UU->Prop):List aA->Bool->Int->Prop:=(fun t0 t2 t3=>k ⟨tmL [(0,.sl .rect t0),(2,.bool t2),(3,.int .i64 t3)],obL []⟩)
def bJ3:=(cL (cB (cS (cF (cS (bo Tryz.f133))))))
def aGi (F:Nat) (K:zK) (n r:Nat):List aA->Bool->Int->Prop:=aBb fun s=>iter (bIP F 0 bJ3) (yV 0 0) n r s K
def aRm (F:Nat) (Post:aB UU->Prop):zK:=bJ 0 (bAr F 0 (cS (cS (bo Tryz.f133))) (bH rQ false Tryz.f133 Post))
theorem aQD (F:Nat) (K:zK):∀n r,aGi F K n r=aA9 F (aBb (K .ret)) (aBb (K (.exit 0))) n
 |0,_=>by kernel_rfl
 |n+1,r=>Eq.trans (b:=(fun t0 t2 t3=>aT6 (aGi F K n (r+1)) (aBb (K .ret)) (aBb (K (.exit 0))) t0 t2 t3)) (by kernel_rfl) (by rewrite[aQD F K n (r+1)];kernel_rfl)
theorem bDQ (F:Nat) (Post:aB UU->Prop):aGi F (aRm F Post) F 0=aNs F (fun r0=>Post (.bool r0)):=
 (aQD F _ F 0).trans (by kernel_rfl)
theorem bHE (F:Nat) (Post:aB UU->Prop) (a0:List aA):exec rQ Tryz.f133.ntmps yV F 0 (bo Tryz.f133) (cQ [.sl .rect a0]) (bH rQ false Tryz.f133 Post)=aM0 F a0 (fun r0=>Post (.bool r0)):=
 Eq.trans (b:=aT7 a0 (fun r0=>Post (.bool r0)) (aGi F (aRm F Post) F 0)) (by kernel_rfl) (by rewrite[bDQ F Post];kernel_rfl)
def aO9:Model UU
 |[.sl .rect a0]=>some ([oG a0],.bool (fY a0))
 |_=>none
def qU:Cfg UU:=rQ.add 133 aO9
theorem aYn:aX qU:=cM aZ5 mixed Tryz.func133 (by kernel_rfl) (by kernel_rfl) fun xs cs r h hc=>by
 unfold aO9 at h;split at h
 ·rename_i a0;cases h;obtain⟨F,hF⟩:=bC3 a0 hc;exact⟨by kernel_rfl,yV,F,false,⟨by rw[bHE];exact hF _ rfl⟩⟩
 ·cases h
def bIQ (F:Nat):=bW (bC yW F 0 qU) qU Tryz.f134.ntmps yW F
def bAs (F:Nat):=cO (bC yW F 0 qU) qU Tryz.f134.ntmps yW F
abbrev aWZ:=List aA->Bool->Int->ByteArray->ByteArray->Int->Int->Int->Int->List aA->List aA->Prop
def aBc (k:ASt UU->Prop):aWZ:=(fun t1 t4 t5 aS aR aU aT bB bA aZ bE=>k ⟨tmL [(1,.sl .rect t1),(2,.ptr 2 0),(4,.bool t4),(5,.int .i64 t5)],obL [(2,.cells [.str aS,.str aR,.int .i64 aU,.int .i64 aT,.int .i64 bB,.int .i64 bA,.sl .rect aZ,.sl .rect bE])]⟩)
def bJ4:=(cL (cB (cS (cF (cS (bo Tryz.f134))))))
def aGj (F:Nat) (K:zK) (n r:Nat):aWZ:=aBc fun s=>iter (bIQ F 0 bJ4) (yW 0 0) n r s K
def aRn (F:Nat) (Post:aB UU->Prop):zK:=bJ 0 (bAs F 0 (cS (cS (bo Tryz.f134))) (bH qU false Tryz.f134 Post))
theorem aQE (F:Nat) (K:zK):∀n r,aGj F K n r=aAa F (aBc (K .ret)) (aBc (K (.exit 0))) n
 |0,_=>by kernel_rfl
 |n+1,r=>Eq.trans (b:=(fun t1 t4 t5 aS aR aU aT bB bA aZ bE=>aT8 (aGj F K n (r+1)) (aBc (K .ret)) (aBc (K (.exit 0))) t1 t4 t5 aS aR aU aT bB bA aZ bE)) (by kernel_rfl) (by rewrite[aQE F K n (r+1)];kernel_rfl)
theorem bDR (F:Nat) (Post:aB UU->Prop):aGj F (aRn F Post) F 0=aNt F (fun r0=>Post (.bool r0)):=
 (aQE F _ F 0).trans (by kernel_rfl)
theorem bHF (F:Nat) (Post:aB UU->Prop) (qa qb:ByteArray) (qc qd qf qg:Int) (qh qi a1:List aA):exec qU Tryz.f134.ntmps yW F 0 (bo Tryz.f134) (cQ [.agg [.str qa,.str qb,.int .i64 qc,.int .i64 qd,.int .i64 qf,.int .i64 qg,.sl .rect qh,.sl .rect qi],.sl .rect a1]) (bH qU false Tryz.f134 Post)=aM1 F qa qb qc qd qf qg qh qi a1 (fun r0=>Post (.bool r0)):=
 Eq.trans (b:=aT9 qa qb qc qd qf qg qh qi a1 (fun r0=>Post (.bool r0)) (aGj F (aRn F Post) F 0)) (by kernel_rfl) (by rewrite[bDR F Post];kernel_rfl)
def aOa:Model UU
 |[.agg [.str qa,.str qb,.int .i64 qc,.int .i64 qd,.int .i64 qf,.int .i64 qg,.sl .rect qh,.sl .rect qi],.sl .rect a1]=>some ([s6 qa qb qc qd qf qg qh qi a1],.bool (lL qa qb qc qd qf qg qh qi a1))
 |_=>none
def qV:Cfg UU:=qU.add 134 aOa
theorem aYo:aX qV:=cM aYn mixed Tryz.func134 (by kernel_rfl) (by kernel_rfl) fun xs cs r h hc=>by
 unfold aOa at h;split at h
 ·rename_i qa qb qc qd qf qg qh qi a1;cases h;obtain⟨F,hF⟩:=bC4 qa qb qc qd qf qg qh qi a1 hc;exact⟨by kernel_rfl,yW,F,false,⟨by rw[bHF];exact hF _ rfl⟩⟩
 ·cases h
def bIY (F:Nat):=bW (bC zD F 0 qV) qV Tryz.f127.ntmps zD F
def bAz (F:Nat):=cO (bC zD F 0 qV) qV Tryz.f127.ntmps zD F
def aKa (k:ASt UU->Prop):Int->zzI->Prop:=(fun t8 fV=>k ⟨tmL [(7,.osl 48 0),(8,.int .i64 t8)],obL [(48,.row .int 0 fV)]⟩)
def bKF:=(cL (cB (cF (cS4 (cS (cS (bo Tryz.f127)))))))
def aHU (F:Nat) (K:zK) (n r:Nat):Int->zzI->Prop:=aKa fun s=>iter (bIY F 0 bKF) (zD 0 0) n r s K
def aSg (F:Nat) (Post:aB UU->Prop):zK:=bJ 0 (bAz F 0 (cS4 (cS (cS (cS (bo Tryz.f127))))) (bH qV true Tryz.f127 Post))
theorem aQx (F:Nat) (K:zK):∀n r,aHU F K n r=aAr F (aKa (K (.exit 0))) n
 |0,_=>by kernel_rfl
 |n+1,r=>Eq.trans (b:=(fun t8 fV=>aFq (aHU F K n (r+1)) (aKa (K (.exit 0))) t8 fV)) (by kernel_rfl) (by rewrite[aQx F K n (r+1)];kernel_rfl)
theorem bEK (F:Nat) (Post:aB UU->Prop):aHU F (aSg F Post) F 0=aON F (fun r0=>Post (.new .int r0)):=
 (aQx F _ F 0).trans (by kernel_rfl)
theorem bHY (F:Nat) (Post:aB UU->Prop) (a0:zzI) (a1:Int):exec qV Tryz.f127.ntmps zD F 0 (bo Tryz.f127) (cQ [.sl .int a0,.int .i64 a1]) (bH qV true Tryz.f127 Post)=aMb F a0 a1 (fun r0=>Post (.new .int r0)):=
 Eq.trans (b:=aFr a0 a1 (fun r0=>Post (.new .int r0)) (aHU F (aSg F Post) F 0)) (by kernel_rfl) (by rewrite[bEK F Post];kernel_rfl)
def aOt:Model UU
 |[.sl .int a0,.int .i64 a1]=>some ([aJD a0 a1],.new .int (k7 a0 a1))
 |_=>none
def rD:Cfg UU:=qV.add 127 aOt
theorem aZH:aX rD:=cM aYo mixed Tryz.func127 (by kernel_rfl) (by kernel_rfl) fun xs cs r h hc=>by
 unfold aOt at h;split at h
 ·rename_i a0 a1;cases h;obtain⟨F,hF⟩:=bCn a0 a1 hc;exact⟨by kernel_rfl,zD,F,true,⟨by rw[bHY];exact hF _ rfl⟩⟩
 ·cases h
def bIZ (F:Nat):=bW (bC zE F 0 rD) rD Tryz.f128.ntmps zE F
def bBA (F:Nat):=cO (bC zE F 0 rD) rD Tryz.f128.ntmps zE F
abbrev aWk:=zzI->Int->Int->Int->Int->Prop
def aKb (k:ASt UU->Prop):aWk:=(fun t0 t1 t6 t7 t8=>k ⟨tmL [(0,.sl .int t0),(1,.int .i64 t1),(6,.int .i64 t6),(7,.int .i64 t7),(8,.int .i64 t8)],obL []⟩)
def bKG:=(cL (cB (cF (cS (cS (cS (bo Tryz.f128)))))))
def aHV (F:Nat) (K:zK) (n r:Nat):aWk:=aKb fun s=>iter (bIZ F 0 bKG) (zE 0 0) n r s K
def aSh (F:Nat) (Post:aB UU->Prop):zK:=bJ 0 (bBA F 0 (cS4 (bo Tryz.f128)) (bH rD false Tryz.f128 Post))
theorem aQy (F:Nat) (K:zK):∀n r,aHV F K n r=aD4 F (aKb (K (.exit 0))) n
 |0,_=>by kernel_rfl
 |n+1,r=>Eq.trans (b:=(fun t0 t1 t6 t7 t8=>aFs (aHV F K n (r+1)) (aKb (K (.exit 0))) t0 t1 t6 t7 t8)) (by kernel_rfl) (by rewrite[aQy F K n (r+1)];kernel_rfl)
theorem bEL (F:Nat) (Post:aB UU->Prop):aHV F (aSh F Post) F 0=aOO F (fun r0 r1=>Post (.tup [.int .i64 r0,.bool r1])):=
 (aQy F _ F 0).trans (by kernel_rfl)
theorem bHZ (F:Nat) (Post:aB UU->Prop) (a0:zzI) (a1:Int):exec rD Tryz.f128.ntmps zE F 0 (bo Tryz.f128) (cQ [.sl .int a0,.int .i64 a1]) (bH rD false Tryz.f128 Post)=aMc F a0 a1 (fun r0 r1=>Post (.tup [.int .i64 r0,.bool r1])):=
 Eq.trans (b:=aUb a0 a1 (fun r0 r1=>Post (.tup [.int .i64 r0,.bool r1])) (aHV F (aSh F Post) F 0)) (by kernel_rfl) (by rewrite[bEL F Post];kernel_rfl)
def aOu:Model UU
 |[.sl .int a0,.int .i64 a1]=>some ([aE0 a0 a1],.tup [.int .i64 ((sM a0 a1).1),.bool ((sM a0 a1).2)])
 |_=>none
def rE:Cfg UU:=rD.add 128 aOu
theorem aZI:aX rE:=cM aZH mixed Tryz.func128 (by kernel_rfl) (by kernel_rfl) fun xs cs r h hc=>by
 unfold aOu at h;split at h
 ·rename_i a0 a1;cases h;obtain⟨F,hF⟩:=bCo a0 a1 hc;exact⟨by kernel_rfl,zE,F,false,⟨by rw[bHZ];exact hF _ rfl⟩⟩
 ·cases h
def bI8 (F:Nat):=bW (bC zO F 0 rE) rE Tryz.f74.ntmps zO F
def bBJ (F:Nat):=cO (bC zO F 0 rE) rE Tryz.f74.ntmps zO F
abbrev aWn:=zzI->Int->Int->zzI->Prop
def aKg (k:ASt UU->Prop):aWn:=(fun t0 t1 t6 cP=>k ⟨tmL [(0,.sl .int t0),(1,.int .i64 t1),(5,.osl 51 0),(6,.int .i64 t6)],obL [(51,.row .int 0 cP)]⟩)
def bKP:=(cL (cB (cF (cS (cS (cS (bo Tryz.f74)))))))
def aH4 (F:Nat) (K:zK) (n r:Nat):aWn:=aKg fun s=>iter (bI8 F 0 bKP) (zO 0 0) n r s K
def aSq (F:Nat) (Post:aB UU->Prop):zK:=bJ 0 (bBJ F 0 (cS4 (bo Tryz.f74)) (bH rE true Tryz.f74 Post))
theorem aRH (F:Nat) (K:zK):∀n r,aH4 F K n r=aDb F (aKg (K (.exit 0))) n
 |0,_=>by kernel_rfl
 |n+1,r=>Eq.trans (b:=(fun t0 t1 t6 cP=>aFv (aH4 F K n (r+1)) (aKg (K (.exit 0))) t0 t1 t6 cP)) (by kernel_rfl) (by rewrite[aRH F K n (r+1)];kernel_rfl)
theorem bEU (F:Nat) (Post:aB UU->Prop):aH4 F (aSq F Post) F 0=aOR F (fun r0=>Post (.new .int r0)):=
 (aRH F _ F 0).trans (by kernel_rfl)
theorem bH8 (F:Nat) (Post:aB UU->Prop) (a0:zzI) (a1:Int):exec rE Tryz.f74.ntmps zO F 0 (bo Tryz.f74) (cQ [.sl .int a0,.int .i64 a1]) (bH rE true Tryz.f74 Post)=aMl F a0 a1 (fun r0=>Post (.new .int r0)):=
 Eq.trans (b:=aUt a0 a1 (fun r0=>Post (.new .int r0)) (aH4 F (aSq F Post) F 0)) (by kernel_rfl) (by rewrite[bEU F Post];kernel_rfl)
def aPD:Model UU
 |[.sl .int a0,.int .i64 a1]=>some ([s8 a0 a1],.new .int (gS a0 a1))
 |_=>none
def rL:Cfg UU:=rE.add 74 aPD
theorem aZR:aX rL:=cM aZI mixed Tryz.func74 (by kernel_rfl) (by kernel_rfl) fun xs cs r h hc=>by
 unfold aPD at h;split at h
 ·rename_i a0 a1;cases h;obtain⟨F,hF⟩:=bCx a0 a1 hc;exact⟨by kernel_rfl,zO,F,true,⟨by rw[bH8];exact hF _ rfl⟩⟩
 ·cases h
def bI1 (F:Nat):=bW (bC zG F 0 rL) rL Tryz.f144.ntmps zG F
def bBC (F:Nat):=cO (bC zG F 0 rL) rL Tryz.f144.ntmps zG F
abbrev aWl:=zzI->Int->Int->Int->Prop
def aBx (k:ASt UU->Prop):aWl:=(fun t0 t1 t4 t5=>k ⟨tmL [(0,.sl .int t0),(1,.int .i64 t1),(4,.int .i64 t4),(5,.int .i64 t5)],obL []⟩)
def bKI:=(cL (cB (cS (cF (cS (bo Tryz.f144))))))
def aHX (F:Nat) (K:zK) (n r:Nat):aWl:=aBx fun s=>iter (bI1 F 0 bKI) (zG 0 0) n r s K
def aSj (F:Nat) (Post:aB UU->Prop):zK:=bJ 0 (bBC F 0 (cS (cS (bo Tryz.f144))) (bH rL false Tryz.f144 Post))
theorem aRA (F:Nat) (K:zK):∀n r,aHX F K n r=aD6 F (aBx (K .ret)) (aBx (K (.exit 0))) n
 |0,_=>by kernel_rfl
 |n+1,r=>Eq.trans (b:=(fun t0 t1 t4 t5=>aFu (aHX F K n (r+1)) (aBx (K .ret)) (aBx (K (.exit 0))) t0 t1 t4 t5)) (by kernel_rfl) (by rewrite[aRA F K n (r+1)];kernel_rfl)
theorem bEN (F:Nat) (Post:aB UU->Prop):aHX F (aSj F Post) F 0=aOP F (fun r0=>Post (.int .i64 r0)):=
 (aRA F _ F 0).trans (by kernel_rfl)
theorem bH1 (F:Nat) (Post:aB UU->Prop) (a0:zzI) (a1:Int):exec rL Tryz.f144.ntmps zG F 0 (bo Tryz.f144) (cQ [.sl .int a0,.int .i64 a1]) (bH rL false Tryz.f144 Post)=aMe F a0 a1 (fun r0=>Post (.int .i64 r0)):=
 Eq.trans (b:=aUe a0 a1 (fun r0=>Post (.int .i64 r0)) (aHX F (aSj F Post) F 0)) (by kernel_rfl) (by rewrite[bEN F Post];kernel_rfl)
def aOw:Model UU
 |[.sl .int a0,.int .i64 a1]=>some ([sW a0 a1],.int .i64 (mF a0 a1))
 |_=>none
def aXF:Cfg UU:=rL.add 144 aOw
theorem aZK:aX aXF:=cM aZR mixed Tryz.func144 (by kernel_rfl) (by kernel_rfl) fun xs cs r h hc=>by
 unfold aOw at h;split at h
 ·rename_i a0 a1;cases h;obtain⟨F,hF⟩:=bCq a0 a1 hc;exact⟨by kernel_rfl,zG,F,false,⟨by rw[bH1];exact hF _ rfl⟩⟩
 ·cases h
set_option maxRecDepth 100000
def aPV:Model UU
 |[.agg [.str qa,.str qb,.int .i64 qc,.int .i64 qd,.int .i64 qf,.int .i64 qg,.sl .rect qh,.sl .rect qi]]=>some ([pS qa qb qc qd qf qg qh qi],.int .i64 (iB qa qb qc qd qf qg qh qi))
 |_=>none
def aXP:Cfg UU:=aXF.add 65 aPV
theorem aZ8:aX aXP:=cM aZK mixed Tryz.func65 (by kernel_rfl) (by kernel_rfl) fun xs cs r h hc=>by
 unfold aPV at h;split at h
 ·rename_i qa qb qc qd qf qg qh qi;cases h;refine⟨by kernel_rfl,M0,0,false,⟨nH (fun Q:Int->Prop=>cond ((kJ qa qb qc qd) !=0) (Q (kJ qa qb qc qd)) (cond ((((decide (qf<1))||(decide (1048576<qf)))||(decide (qg<1)))||(decide (1048576<qg))) (Q 1) (cond ((decide (4<(qh.length:Int)))||(decide (48<(qi.length:Int)))) (Q 4) ((((oG qh)/\((!(fY qh))=false->oG qi))/\cond ((!(fY qh))||(!(fY qi))) (Q 1) ((((s6 qa qb qc qd qf qg qh qi qh)/\((!(lL qa qb qc qd qf qg qh qi qh))=false->s6 qa qb qc qd qf qg qh qi qi))/\cond ((!(lL qa qb qc qd qf qg qh qi qh))||(!(lL qa qb qc qd qf qg qh qi qi))) (Q 13) (Q 0)))))))) (fun Q=>Q (iB qa qb qc qd qf qg qh qi)) (fun r0=>(.int .i64 r0:aB UU)=.int .i64 (iB qa qb qc qd qf qg qh qi)) (by kernel_rfl) (fun Q h=>?_) rfl⟩⟩
  try dsimp only at h ⊢
  unfold iB at h;have hp:pS qa qb qc qd qf qg qh qi:=hc;unfold pS at hp;cases jB:((kJ qa qb qc qd) !=0)
  ·try simp only[jB,cond_false] at h hp ⊢
   cases bV:(((((decide (qf<1))||(decide (1048576<qf)))||(decide (qg<1)))||(decide (1048576<qg))))
   ·try simp only[bV,cond_false] at h hp ⊢
    cases cA:(((decide (4<(qh.length:Int)))||(decide (48<(qi.length:Int)))))
    ·try simp only[cA,cond_false] at h hp ⊢
     obtain⟨aKs,bGH,hp⟩:=hp;refine⟨⟨aKs,bGH⟩,?_⟩;cases kP:(((!(fY qh))||(!(fY qi))))
     ·try simp only[kP,cond_false] at h hp ⊢
      obtain⟨bGF,bGE⟩:=hp;refine⟨⟨bGF,bGE⟩,?_⟩;cases hb6:(((!(lL qa qb qc qd qf qg qh qi qh))||(!(lL qa qb qc qd qf qg qh qi qi))))
      ·try simp only[hb6,cond_false] at h ⊢
       exact h
      ·try simp only[hb6,cond_true] at h ⊢
       exact h
     ·try simp only[kP,cond_true] at h hp ⊢
      exact h
    ·try simp only[cA,cond_true] at h hp ⊢
     exact h
   ·try simp only[bV,cond_true] at h hp ⊢
    exact h
  ·try simp only[jB,cond_true] at h hp ⊢
   exact h
 ·cases h
end
end Go.Proofs.YtjjbojomlfgjlaaGreatDoor
namespace Go.Proofs.YtjjbojomlfgjlaaGreatDoor
open Go.Shelf Go.RowKit Go.Lib Go.Sort
theorem bCC {w:World} {os:Array Obj} {base:Nat} {e:TypeId} {u:Value} {n:Nat} {cs:List Value} (h:w.ownsRow base e 1 u n cs):(grow w os).ownsRow base e 1 u n cs:=by
 refine⟨h.1,?_⟩;rcases h.2 with hn|⟨g,cap,cur,h1,h2,h3,rest⟩
 ·exact .inl hn
 ·exact .inr ⟨g,cap,cur,h1,h2,by rw[heap_grow_old _ _ (Array.getElem?_eq_some_iff.1 h3).1];exact h3,rest⟩
theorem bKo {B:Nat} {w0 w:World} {os:Array Obj} (h:Below B w0 w) (hB:B<=w.heap.size):Below B w0 (grow w os):=
 ⟨h.os,h.tape,h.output,by have:=h.size;rw[size_grow];omega,fun k hk=>by rw[heap_grow_old _ _ (by omega)];exact h.block k hk⟩
set_option maxHeartbeats 2000000 in
set_option maxRecDepth 100000 in
theorem bBm (p:Option Addr) (c:Nat) (w:World):
  Calls Tryz.prog 126 #[.slice p 0 c] w fun e w'=>e=.returned (.slice p 0 c)/\w'=w:=by
 have hS:=fun q c W=>Tryz.slices_Sort_int_none q c W
 have hC:=fun q c W=>Tryz.slices_Compact_int_empty q c W
 go_enter Tryz.func126,Tryz.ntmps126
 go_wp2_with (first
  | (go_at_call 176;refine(hS _ _ _).mono ?_;rintro e w' ⟨rfl,rfl⟩)
  | (go_at_call 149;refine(hC _ _ _).mono ?_;rintro e w' ⟨rfl,rfl⟩))
 go_ret
 exact⟨rfl,rfl⟩
set_option maxHeartbeats 2000000 in
set_option maxRecDepth 100000 in
theorem bBl (g cap:Nat) (l:zzI) (w:World) (hl:l.length<=1000) (h5:Holds (Value.int .i64) w g 0 l.toArray) (h3:g<w.heap.size) (h4:l.length<=cap):
  Calls Tryz.prog 126 #[.slice (some ⟨g,0,none⟩) l.length cap] w fun e w'=>e=.returned (.slice (some ⟨g,0,none⟩) (eH l).length cap)/\
   ∃n1 os q,w'=putRow (Value.int .i64) (Sort.ahead (grow (putRow (Value.int .i64) (Sort.ahead w n1) g 0 (l.mergeSort fun x y=>decide (x<=y)).toArray) os) q) g 0 (eH l++List.replicate (l.length-(eH l).length) 0).toArray:=by
 have hS:Calls Tryz.prog 176 #[.slice (some ⟨g,0,none⟩) l.length cap] w fun e w'=>e=.returned (.tuple #[])/\∃n os,w'=grow (putRow (Value.int .i64) (Sort.ahead w n) g 0 (l.mergeSort fun x y=>decide (x<=y)).toArray) os:=
  Tryz.slices_Sort_int g 0 cap l w h5 h3 (by omega)
 have hlen:(l.mergeSort fun x y=>decide (x<=y)).length=l.length:=List.length_mergeSort ..;have hM:∀(n1:Nat) (os:Array Obj),Calls Tryz.prog 149 #[.slice (some ⟨g,0,none⟩) l.length cap] (grow (putRow (Value.int .i64) (Sort.ahead w n1) g 0 (l.mergeSort fun x y=>decide (x<=y)).toArray) os) fun e w'=>e=.returned (.slice (some ⟨g,0,none⟩) (eH l).length cap)/\∃q,w'=putRow (Value.int .i64) (Sort.ahead (grow (putRow (Value.int .i64) (Sort.ahead w n1) g 0 (l.mergeSort fun x y=>decide (x<=y)).toArray) os) q) g 0 (eH l++List.replicate (l.length-(eH l).length) 0).toArray:=fun n1 os=>by
  generalize hW:grow (putRow (Value.int .i64) (Sort.ahead w n1) g 0 (l.mergeSort fun x y=>decide (x<=y)).toArray) os=W;have hH:Holds (Value.int .i64) W g 0 (l.mergeSort fun x y=>decide (x<=y)).toArray:=by
   rw[<- hW];refine holds_grow _ _ _ _ _ _ (by simpa using h3) ?_;exact holds_putRow _ _ _ _ l.toArray _ h5 (by simp)
  have:=Tryz.slices_Compact_int g 0 cap (l.mergeSort fun x y=>decide (x<=y)) W hH (by rw[hlen];omega) (by rw[hlen];exact h4);rw[hlen] at this;exact this
 generalize hsq:eH l=sc at hM ⊢;generalize hms:(l.mergeSort fun x y=>decide (x<=y))=ms at hS hM ⊢;clear hsq hms hlen h5 h4;generalize hn:l.length=n at hS hM ⊢;clear hl hn
 go_enter Tryz.func126,Tryz.ntmps126
 go_wp2_with (first
  | (go_at_call 176;refine hS.mono ?_;rintro e w2 ⟨rfl,n1,os,rfl⟩)
  | (go_at_call 149;refine(hM _ _).mono ?_;rintro e w3 ⟨rfl,q,rfl⟩))
 go_ret
 exact⟨rfl,n1,os,q,rfl⟩
end Go.Proofs.YtjjbojomlfgjlaaGreatDoor
namespace Go.Proofs.YtjjbojomlfgjlaaGreatDoor
open Go.Vm Go.RowKit
set_option linter.unusedVariables false
noncomputable section
def aLk:aA4 UU
 |[.osl 0 g],.row .int g' l=>cond (Nat.beq g g') (some ([l.length<=1000],.osl 0 (g+1),.row .int (g+1) (eH l))) none
 |_,_=>none
open Go.Sort in
theorem bIH {C:Cfg UU} (hP:C.P=Tryz.prog) (hE:C.E=EE) (w0:World):zU C 126 aLk w0:=by
 refine⟨fun args w=>by rw[hP];exact hG (fn:=Tryz.f126) Tryz.func126 (by kernel_rfl) rfl args w,fun st ρ w args k0 xs ob ob' cs r hb hst hdom hsep hob hsz hrel lT hm hc jN hpr hown=>?_⟩;unfold aLk at hm;split at hm
 ·rename_i g g' l;have hm2:=bI hm;clear hm;obtain⟨hg,hm⟩:=hm2;obtain rfl:=Nat.eq_of_beq_eq_true hg;cases hm;obtain rfl:0=k0:=by cases hown;rfl
  have h2:l.length<=1000:=hc;rw[hE] at hob hrel ⊢;obtain⟨u,cells,hu,hup,hro,hcs⟩:=hob;have e0:=hrel 0 (by simp);obtain⟨al⟩:=args
  match al,hsz with
  |[x],_=>
   simp at e0;obtain rfl:x=u:=by
    cases e0 with
    |osl _ _ u' hu' _=>
     rw[hu] at hu';cases hu';rfl
    |oslOld _ _ g2 u' v hu' hlt=>
     rw[hu] at hu';cases hu';omega
   rw[hP];have hbase:w0.heap.size<=w.heap.size:=hb.size
   let ρ2:Own:=fun nm=>if nm=.ob 0 then none else ρ nm
   have fin:∀(w':World) (v':Value) (cs':List Value),w'.ownsRow w0.heap.size (UU.ety .int) (UU.size .int) v' (eH l).length ((eH l).map (Value.int .i64))->(∀a,v'≠ .pointer a)->(∀b,blk v'=some b->blk x=some b)->Go.RowKit.Below w0.heap.size w w'->
     (∀b,b<w.heap.size->blk x≠some b->w'.heap[b]?=w.heap[b]?)->∃v ρ',Ending.returned v'=.returned v/\(((aB.osl 0 (g+1):aB UU).sU=true->Rel EE w' bU (fun _=>False) (.osl 0 (g+1)) v)/\(w6 0 (.osl 0 (g+1):aB UU) (.row .int (g+1) (eH l))=true->Rel EE w' ρ' (fun _=>False) (.osl 0 (g+1)) v))/\
   eG EE w' ρ' (fun b=>(st b\/w.heap.size<=b\/∃nm g u,ρ nm=some (g,u)/\blk u=some b)/\b<w'.heap.size/\∀nm g u,ρ' nm=some (g,u)->blk u≠some b) w0.heap.size 0 (.row .int (g+1) (eH l))/\
   (∀nm g' u,ρ' nm=some (g',u)->nm.id=0/\((aV.row .int (g+1) (eH l):aV UU).simple=true->nm=.ob 0))/\Chg (fun _=>False) (fun i=>i=0) w0.heap.size ρ ρ' w w':=by
    intro w' v' cs' q1 qp q2 q3 q4;have er:bZ ρ (.ob 0) (g+1) v' (.ob 0)=some (g+1,v'):=by simp[bZ]
    refine⟨v',bZ ρ (.ob 0) (g+1) v',rfl,⟨(fun h=>by cases h),fun _=>.osl 0 (g+1) v' er qp⟩,⟨v',_,er,qp,q1,fun i hi k hk=>?_⟩,fun nm q u hr=>?_,?_⟩
    ·have iI:k=0:=by
      have:k<1:=hk;omega
     subst iI;show Rel EE w' _ _ (.int .i64 (eH l)[i]) _;have:((eH l).map (Value.int .i64)).getD (i*UU.size .int+0) undef=.int .i64 (eH l)[i]:=by
      show ((eH l).map (Value.int .i64)).getD (i*1+0) undef=_;simp[hi]
     rw[this];exact .int _ _
    ·by_cases hn:nm=.ob 0
     ·subst hn;exact⟨rfl,fun _=>rfl⟩
     ·have hr':ρ nm=some (q,u):=by
       unfold bZ at hr;rwa [if_neg hn] at hr
      have:=(hdom nm q u hr').2 rfl;exact absurd this hn
    ·have only0:∀(nm:Name) q u,ρ nm=some (q,u)->nm=.ob 0/\(q,u)=(g,x):=fun nm q u hr=>by
      have e:=(hdom nm q u hr).2 rfl;subst e;rw[hu] at hr;cases hr;exact⟨rfl,rfl⟩
     refine⟨fun nm hn=>?_,fun nm q u hn hr=>?_,q3,fun b hb hne=>q4 b hb (hne (.ob 0) _ _ rfl hu),fun nm q u k hn h hbl=>?_,fun nm nm' q q' u u' k hn hn' h h' hne hbl=>?_⟩
     ·unfold bZ;rw[if_neg (fun e=>hn (by rw[e];rfl))]
     ·obtain⟨rfl,e⟩:=only0 nm q u hr;cases e;exact .inr ⟨hup,_,_,er,by omega⟩
     ·by_cases fX:nm=.ob 0
      ·subst fX;rw[er] at h;cases h;exact .inl ⟨.ob 0,_,_,rfl,hu,q2 k hbl⟩
      ·unfold bZ at h;rw[if_neg fX] at h;exact absurd (only0 _ _ _ h).1 fX
     ·exfalso;have z:∀(nm:Name) q u,bZ ρ (.ob 0) (g+1) v' nm=some (q,u)->nm=.ob 0:=fun nm q u h=>by
       refine Classical.byContradiction fun fX=>?_
       unfold bZ at h;rw[if_neg fX] at h;exact fX (only0 _ _ _ h).1
      exact hne ((z _ _ _ h).trans (z _ _ _ h').symm)
   rcases hro.2 with ⟨rfl,hn⟩|⟨b,cap,cur,rfl,q1,q2,q3,q4,q5,q6⟩
   ·have nQ:l=[]:=List.eq_nil_of_length_eq_zero hn;subst nQ;refine(bBm none 0 w).mono ?_
    rintro e w' ⟨rfl,rfl⟩
    have e3:eH ([]:zzI)=[]:=List.eq_nil_of_length_eq_zero (Nat.le_zero.1 (aDq []));refine fin w' _ [] ?_ (fun a e=>by cases e) (fun b hb=>hb) (Go.RowKit.Below.refl _ _) (fun b hb _=>rfl);rw[e3];exact World.ownsRow_nil _ _ _ _
   ·have hbl:b<w.heap.size:=(Array.getElem?_eq_some_iff.1 q2).1;have hsz1:UU.size .int=1:=rfl;rw[hsz1,Nat.mul_one] at q6;have hcl:cells.length=l.length:=by rw[hro.1,hsz1,Nat.mul_one]
    have hcells:cells=l.map (Value.int .i64):=by
     refine List.ext_getElem (by simp[hcl]) fun i h1 h2=>?_
     have hi:i<l.length:=by omega
     have:=hcs i hi 0 (by show 0<1;omega);rw[hsz1,Nat.mul_one,Nat.add_zero] at this;have h9:Rel EE w ρ st (.int .i64 l[i]) (cells.getD i undef):=this;rw[List.getD_eq_getElem?_getD,List.getElem?_eq_getElem h1,Option.getD_some] at h9;generalize hcv:cells[i]=cv at h9;cases h9;simp
    obtain⟨hH0,hcp⟩:Holds (Value.int .i64) w b 0 l.toArray/\l.length<=cap:=by
     refine⟨?_,q3⟩;intro j hj;have hj':j<l.length:=by simpa using hj
     refine⟨?_,by simp[World.frozen?,q2]⟩;have h6:(cur.toList.take l.length)[j]?=some (.int .i64 l[j]):=by
      rw[q6,hcells];simp[hj']
     rw[List.getElem?_take,if_pos hj'] at h6;rw[Nat.zero_add,cell_of_row w b j cur _ (0,0) q2,<- Array.getElem?_toList,h6];simp[hj']
    refine(bBl b cap l w h2 hH0 hbl hcp).mono ?_
    rintro e w' ⟨rfl,n1,os,q,rfl⟩
    have hle:=aDq l;have hro':w.ownsRow w0.heap.size 3 1 (.slice (some ⟨b,0,none⟩) l.length cap) l.length (l.map (Value.int .i64)):=by
     rw[<- hcells];exact hro
    have s1:=Go.Lib.ownsRow_putRow (q:=n1) (k:=l.length) (ys:=l.mergeSort fun x y=>decide (x<=y)) hro' (List.length_mergeSort ..) (Nat.le_refl _);have s2:=bCC (os:=os) s1;have s3:=Go.Lib.ownsRow_putRow (q:=q) (k:=(eH l).length) (ys:=eH l++List.replicate (l.length-(eH l).length) 0) s2 (by simp;omega) hle;rw[List.take_left] at s3;refine fin _ _ [] s3 (fun a e=>by cases e) (fun b' hb'=>hb') ?_ (fun b' hb' hne=>?_)
    ·exact Go.Lib.below_putRow (bKo (Go.Lib.below_putRow (Go.RowKit.Below.refl _ _) q1) (by simp;omega)) q1
    ·have hne':b≠b':=fun e=>hne (by rw[e];rfl)
     simp only[putRow,mapBlock,Sort.ahead];rw[Array.getElem?_modify,if_neg hne'];rw[heap_grow_old _ _ (by simpa using hb')];rw[Array.getElem?_modify,if_neg hne']
 ·cases hm
def cG:Cfg UU:=aXP.aA1 126 aLk
theorem aZd:aX cG:=aZ8.aEU fun w0 _=>bIH rfl rfl w0
def aKq (f:FuncId):Option (Func×Code):=cond (Nat.beq f 60) (some (Tryz.f60,bo Tryz.f60)) (cond (Nat.beq f 61) (some (Tryz.f61,bo Tryz.f61)) (cond (Nat.beq f 129) (some (Tryz.f129,bo Tryz.f129)) (cond (Nat.beq f 180) (some (Tryz.f180,bo Tryz.f180))
 (cond (Nat.beq f 75) (some (Tryz.f75,bo Tryz.f75)) (cond (Nat.beq f 76) (some (Tryz.f76,bo Tryz.f76)) (cond (Nat.beq f 77) (some (Tryz.f77,bo Tryz.f77)) none))))))
theorem xD {α:Type} {b:Bool} {x y:Option α} {z:α} (h:cond b x y=some z):(b=true/\x=some z)\/y=some z:=by
 cases b
 ·exact .inr h
 ·exact .inl ⟨rfl,h⟩
theorem bFt (f:FuncId) (fn:Func) (c:Code) (h:aKq f=some (fn,c)):Tryz.prog.funcs[f]?=some fn/\fn.body=some c/\∀(args:Array Value) (w:World),(callFunc f args).run Tryz.prog w=.ok (.enter f args) w:=by
 unfold aKq at h;have one:∀{k:Nat} {fk:Func},Tryz.prog.funcs[k]?=some fk->fk.body=some (bo fk)->(∀args w,(callFunc k args).run Tryz.prog w=.ok (.enter k args) w)->Nat.beq f k=true->some (fk,bo fk)=some (fn,c)->
   Tryz.prog.funcs[f]?=some fn/\fn.body=some c/\∀(args:Array Value) (w:World),(callFunc f args).run Tryz.prog w=.ok (.enter f args) w:=fun h1 h2 h3 hb he=>by
  obtain rfl:=Nat.eq_of_beq_eq_true hb;cases he;exact⟨h1,h2,h3⟩
 rcases xD h with ⟨hb,h⟩|h
 ·exact one Tryz.func60 (by kernel_rfl) (hG (fn:=Tryz.f60) Tryz.func60 (by kernel_rfl) rfl) hb h
 rcases xD h with ⟨hb,h⟩|h
 ·exact one Tryz.func61 (by kernel_rfl) (hG (fn:=Tryz.f61) Tryz.func61 (by kernel_rfl) rfl) hb h
 rcases xD h with ⟨hb,h⟩|h
 ·exact one Tryz.func129 (by kernel_rfl) (hG (fn:=Tryz.f129) Tryz.func129 (by kernel_rfl) rfl) hb h
 rcases xD h with ⟨hb,h⟩|h
 ·exact one Tryz.func180 (by kernel_rfl) (hG (fn:=Tryz.f180) Tryz.func180 (by kernel_rfl) rfl) hb h
 rcases xD h with ⟨hb,h⟩|h
 ·exact one Tryz.func75 (by kernel_rfl) (hG (fn:=Tryz.f75) Tryz.func75 (by kernel_rfl) rfl) hb h
 rcases xD h with ⟨hb,h⟩|h
 ·exact one Tryz.func76 (by kernel_rfl) (hG (fn:=Tryz.f76) Tryz.func76 (by kernel_rfl) rfl) hb h
 rcases xD h with ⟨hb,h⟩|h
 ·exact one Tryz.func77 (by kernel_rfl) (hG (fn:=Tryz.f77) Tryz.func77 (by kernel_rfl) rfl) hb h
 ·cases h
def bM (C:Cfg UU) (hP:C.P=Tryz.prog:=by rfl):Cfg UU:={C with inl:=aKq,inlOK:=fun f fn c h=>by rw[hP];exact bFt f fn c h,dep:=3}
theorem aWX {C:Cfg UU} (hP:C.P=Tryz.prog) (hs:aX C) (hmix:C.P.follows .mixedOrders=true) {f:FuncId} {m:Model UU} {fn:Func} {c:Code} (hf:C.P.funcs[f]?=some fn) (hn:(fn.name== "runtime.NumGoroutine")=false)
  (hb:fn.body=some c) (hx:∀xs cs r,m xs=some (cs,r)->dE cs->(Nat.ble xs.length fn.ntmps&&Nat.ble fn.ntmps 1000000)=true/\∃M fuel fr,aA5 (exec (bM C hP).bF fn.ntmps M fuel 0 c (cQ xs) (bH (bM C hP).bF fr fn fun r'=>r'=r))):aX (C.add f m):=by
 have hs':aX (bM C hP):=hs;have:=aX.aMI (C:=bM C hP) hs' hmix hf hn hb hx;exact this
set_option maxRecDepth 100000
def bIX (F:Nat):=bW (bC cE F 3 (bM cG).bF) (bM cG).bF Tryz.f27.ntmps cE F
def aBR (F:Nat):=cO (bC cE F 3 (bM cG).bF) (bM cG).bF Tryz.f27.ntmps cE F
abbrev aWh:=List Seg->Int->List Seg->Int->Int->ByteArray->ByteArray->Int->Int->Int->Int->List aA->List aA->Prop
def aBs (k:ASt UU->Prop):aWh:=(fun t1 t5 t19 t20 t21 aS aR aU aT bB bA aZ bE=>k ⟨tmL [(1,.sl .seg t1),(2,.ptr 2 0),(4,.nils),(5,.int .i64 t5),(19,.sl .seg t19),(20,.int .i64 t20),(21,.int .i64 t21)],obL [(2,.cells [.str aS,.str aR,.int .i64 aU,.int .i64 aT,.int .i64 bB,.int .i64 bA,.sl .rect aZ,.sl .rect bE])]⟩)
abbrev aWg:=List Seg->List Seg->Int->Int->zzI->zzI->Prop
def aK6 (k:ASt UU->Prop):aWg:=(fun t1 t23 t24 t25 qaq qar=>k ⟨tmL [(1,.sl .seg t1),(6,.osl 34188 0),(7,.osl 34189 0),(23,.sl .seg t23),(24,.int .i64 t24),(25,.int .i64 t25)],obL [(34188,.row .int 0 qaq),(34189,.row .int 0 qar)]⟩)
abbrev aHr:=List Seg->Int->Int->zzI->zzI->zzB->zzB->zzZ->Prop
def aK5 (k:ASt UU->Prop):aHr:=(fun t1 t68 t69 qaq qar qas qat qau=>k ⟨tmL [(1,.sl .seg t1),(10,.ptr 34049 0),(68,.int .i64 t68),(69,.int .i64 t69)],obL [(34188,.row .int 0 qaq),(34189,.row .int 0 qar),(34190,.deep .bools 0 0 qas),(34191,.deep .bools 0 0 qat),(34192,.deep .ints 0 0 qau),(34049,.cells [.osl 34188 0,.osl 34189 0,.osl 34190 0,.osl 34191 0,.osl 34192 0])]⟩)
def y9 (k:ASt UU->Prop):aHr:=(fun t118 t119 t120 qaq qar qas qat qau=>k ⟨tmL [(10,.ptr 34049 0),(118,.sl .seg t118),(119,.int .i64 t119),(120,.int .i64 t120)],obL [(34188,.row .int 0 qaq),(34189,.row .int 0 qar),(34190,.deep .bools 0 0 qas),(34191,.deep .bools 0 0 qat),(34192,.deep .ints 0 0 qau),(34049,.cells [.osl 34188 0,.osl 34189 0,.osl 34190 0,.osl 34191 0,.osl 34192 0])]⟩)
abbrev aHq:=Int->Int->List Seg->Int->Int->Int->Int->Int->Int->zzI->zzI->zzB->zzB->zzZ->Prop
def aK4 (k:ASt UU->Prop):aHq:=(fun t13 t15 t118 t119 t120 qz qaa qab qac qaq qar qas qat qau=>k ⟨tmL [(10,.ptr 34049 0),(12,.ptr 34012 0),(13,.int .i64 t13),(15,.int .i64 t15),(118,.sl .seg t118),(119,.int .i64 t119),(120,.int .i64 t120)],obL [(34188,.row .int 0 qaq),(34189,.row .int 0 qar),(34190,.deep .bools 0 0 qas),(34191,.deep .bools 0 0 qat),(34192,.deep .ints 0 0 qau),(34012,.cells [.int .i64 qz,.int .i64 qaa,.int .i64 qab,.int .i64 qac]),(34049,.cells [.osl 34188 0,.osl 34189 0,.osl 34190 0,.osl 34191 0,.osl 34192 0])]⟩)
abbrev aWf:=Int->Int->zzI->zzI->zzB->zzB->zzZ->List (List aA)->Prop
def aFQ (k:ASt UU->Prop):aWf:=(fun t12 t13 qbc qbd qbe qbf qbg qbh=>k ⟨tmL [(0,.ptr 34049 0),(3,.osl 40119 0),(12,.int .i64 t12),(13,.int .i64 t13)],obL [(40114,.row .int 0 qbc),(40115,.row .int 0 qbd),(40116,.deep .bools 0 0 qbe),(40117,.deep .bools 0 0 qbf),(40118,.deep .ints 0 0 qbg),(40119,.deep .rects 0 0 qbh),(34049,.cells [.osl 40114 0,.osl 40115 0,.osl 40116 0,.osl 40117 0,.osl 40118 0])]⟩)
def aK3 (k:ASt UU->Prop):aHq:=(fun t13 t15 t118 t119 t120 qz qaa qab qac qaq qar qas qat qau=>k ⟨tmL [(10,.ptr 34049 0),(12,.ptr 34012 0),(13,.int .i64 t13),(15,.int .i64 t15),(118,.sl .seg t118),(119,.int .i64 t119),(120,.int .i64 t120)],obL [(34188,.row .int 0 qaq),(34189,.row .int 0 qar),(34190,.deep .bools 0 0 qas),(34191,.deep .bools 0 0 qat),(34192,.deep .ints 0 0 qau),(34012,.cells [.int .i64 qz,.int .i64 qaa,.int .i64 qab,.int .i64 qac]),(34049,.cells [.osl 34188 0,.osl 34189 0,.osl 34190 0,.osl 34191 0,.osl 34192 0])]⟩)
abbrev aWe:=Int->Int->Int->Int->Int->zzI->zzI->zzB->zzB->zzZ->List (List aA)->Prop
def aFP (k:ASt UU->Prop):aWe:=(fun t4 t12 t13 t21 t22 qbc qbd qbe qbf qbg qbh=>k ⟨tmL [(0,.ptr 34049 0),(3,.osl 40119 0),(4,.int .i64 t4),(12,.int .i64 t12),(13,.int .i64 t13),(21,.int .i64 t21),(22,.int .i64 t22)],obL [(40114,.row .int 0 qbc),(40115,.row .int 0 qbd),(40116,.deep .bools 0 0 qbe),(40117,.deep .bools 0 0 qbf),(40118,.deep .ints 0 0 qbg),(40119,.deep .rects 0 0 qbh),(34049,.cells [.osl 40114 0,.osl 40115 0,.osl 40116 0,.osl 40117 0,.osl 40118 0])]⟩)
abbrev aWd:=Int->Int->Int->Int->Int->Int->Int->zzI->zzI->zzB->zzB->zzZ->List Par->List (List aA)->Prop
def aK2 (k:ASt UU->Prop):aWd:=(fun qbm qbn qbo qbp qbq qbr qad qav qaw qax qay qaz qba qbb=>k ⟨tmL [(4,.ptr 40042004 0),(7,.ptr 40042007 0),(8,.ptr 40042008 0),(2000000,.ptr 34049 0),(2000003,.osl 40042151 0),(2000004,.int .i64 qbm),(2000005,.int .i64 qbn),(2000012,.int .i64 qbo),(2000013,.int .i64 qbp),(2000021,.int .i64 qbq),(2000022,.int .i64 qbr)],obL [(40042145,.row .int 0 qav),(40042146,.row .int 0 qaw),(40042147,.deep .bools 0 0 qax),(40042148,.deep .bools 0 0 qay),(40042149,.deep .ints 0 0 qaz),(40042150,.row .par 0 qba),(40042151,.deep .rects 0 0 qbb),(34049,.cells [.osl 40042145 0,.osl 40042146 0,.osl 40042147 0,.osl 40042148 0,.osl 40042149 0]),(40042004,.cells [.ptr 34049 0]),(40042007,.cells [.int .i64 qad]),(40042008,.cells [.osl 40042150 0])]⟩)
def bJy:=(cL (cB (cS (cF (cS (cS (cS (bo Tryz.f27))))))))
def bJx:=(cL (cB (cS (cF (cS (cS (bo Tryz.f60)))))))
def bJw:=(cL (cB (cS (cF (cS4 (cS (bo Tryz.f60)))))))
def tQ:=(cL (cB (cS (cF (cS4 (cS (cS (bo Tryz.f60))))))))
def bJv:=(cL (cB (cF (cS (cS (cS (cB (cF (cS (cS tQ))))))))))
def aG2:=(cL (cB (cS (cF (cS (cS (bo Tryz.f61)))))))
def bJu:=(cL (cB (cS4 (cB (cF (cS (cS tQ)))))))
def aAT:=(cL (cB (cS (cS (cB (cF (cS (cS aG2))))))))
def bJt:=(cL (cB (cS (cS (cS (bo Tryz.f129))))))
def aHN (F:Nat) (K:zK) (n r:Nat):aWh:=aBs fun s=>iter (bIX F 0 bJy) (cE 0 0) n r s K
def aHM (F:Nat) (K:zK) (n r:Nat):aWg:=aK6 fun s=>iter (bW (bC cE F 2 ((bM cG).bF.at 34000)) ((bM cG).bF.at 34000) Tryz.f60.ntmps cE F 0 bJx) (cE 34000 0) n r s K
def aHL (F:Nat) (K:zK) (n r:Nat):aHr:=aK5 fun s=>iter (bW (bC cE F 2 ((bM cG).bF.at 34000)) ((bM cG).bF.at 34000) Tryz.f60.ntmps cE F 2 bJw) (cE 34000 2) n r s K
def xM (F:Nat) (K:zK) (n r:Nat):aHr:=y9 fun s=>iter (bW (bC cE F 2 ((bM cG).bF.at 34000)) ((bM cG).bF.at 34000) Tryz.f60.ntmps cE F 4 tQ) (cE 34000 4) n r s K
def aHK (F:Nat) (K:zK) (n r:Nat):aHq:=aK4 fun s=>iter (bW (bC cE F 2 ((bM cG).bF.at 34000)) ((bM cG).bF.at 34000) Tryz.f60.ntmps cE F 6 bJv) (cE 34000 6) n r s K
def aCu (F:Nat) (K:zK) (n r:Nat):aWf:=aFQ fun s=>iter (bW (bC cE F 2 ((bM cG).bF.at 40000)) ((bM cG).bF.at 40000) Tryz.f61.ntmps cE F 0 aG2) (cE 40000 0) n r s K
def aHJ (F:Nat) (K:zK) (n r:Nat):aHq:=aK3 fun s=>iter (bW (bC cE F 2 ((bM cG).bF.at 34000)) ((bM cG).bF.at 34000) Tryz.f60.ntmps cE F 8 bJu) (cE 34000 8) n r s K
def aCt (F:Nat) (K:zK) (n r:Nat):aWe:=aFP fun s=>iter (bW (bC cE F 2 ((bM cG).bF.at 40000)) ((bM cG).bF.at 40000) Tryz.f61.ntmps cE F 2 aAT) (cE 40000 2) n r s K
def aHI (F:Nat) (K:zK) (n r:Nat):aWd:=aK2 fun s=>iter (bW (bC cE F 1 (((bM cG).bF.at 40000).at 40042000)) (((bM cG).bF.at 40000).at 40042000) Tryz.f129.ntmps cE F 0 bJt) (cE 40042000 0) n r s K
def aS6 (F:Nat) (Post:aB UU->Prop):zK:=bJ 0 (aBR F 0 (cS4 (bo Tryz.f27)) (bH (bM cG).bF true Tryz.f27 Post))
def aS5 (F:Nat) (Post:aB UU->Prop):zK:=bJ 0 (cO (bC cE F 2 ((bM cG).bF.at 34000)) ((bM cG).bF.at 34000) Tryz.f60.ntmps cE F 0 (cS (cS (cS (bo Tryz.f60)))) (pZ (bC cE F 3 (bM cG).bF) (bM cG).bF Tryz.f27.ntmps (cR (cF (cS4 (bo Tryz.f27)))) 8 3 Tryz.f60 (some 33) (fun s9=>(aBR F 0 (cS4 (cS (bo Tryz.f27))) (bH (bM cG).bF true Tryz.f27 Post)) .normal s9)))
def aS4 (F:Nat) (Post:aB UU->Prop):zK:=bJ 2 (cO (bC cE F 2 ((bM cG).bF.at 34000)) ((bM cG).bF.at 34000) Tryz.f60.ntmps cE F 0 (cS4 (cS (cS (bo Tryz.f60)))) (pZ (bC cE F 3 (bM cG).bF) (bM cG).bF Tryz.f27.ntmps (cR (cF (cS4 (bo Tryz.f27)))) 8 3 Tryz.f60 (some 33) (fun s9=>(aBR F 0 (cS4 (cS (bo Tryz.f27))) (bH (bM cG).bF true Tryz.f27 Post)) .normal s9)))
def aS3 (F:Nat) (Post:aB UU->Prop):zK:=bJ 4 (cO (bC cE F 2 ((bM cG).bF.at 34000)) ((bM cG).bF.at 34000) Tryz.f60.ntmps cE F 0 (cS4 (cS (cS (cS (bo Tryz.f60))))) (pZ (bC cE F 3 (bM cG).bF) (bM cG).bF Tryz.f27.ntmps (cR (cF (cS4 (bo Tryz.f27)))) 8 3 Tryz.f60 (some 33) (fun s9=>(aBR F 0 (cS4 (cS (bo Tryz.f27))) (bH (bM cG).bF true Tryz.f27 Post)) .normal s9)))
def aS2 (F n r:Nat) (K:zK):zK:=bJ 6 (cO (bC cE F 2 ((bM cG).bF.at 34000)) ((bM cG).bF.at 34000) Tryz.f60.ntmps cE F 5 (cS4 (cB (cF (cS (cS tQ))))) (bJ 5 (cO (bC cE F 2 ((bM cG).bF.at 34000)) ((bM cG).bF.at 34000) Tryz.f60.ntmps cE F 4 (cS (cS (cS tQ))) (fW (bW (bC cE F 2 ((bM cG).bF.at 34000)) ((bM cG).bF.at 34000) Tryz.f60.ntmps cE F 4 tQ) (cE 34000 4) n r K))))
def aS1 (F:Nat) (Post:aB UU->Prop):zK:=bJ 0 (cO (bC cE F 2 ((bM cG).bF.at 40000)) ((bM cG).bF.at 40000) Tryz.f61.ntmps cE F 0 (cS (cS (cS (bo Tryz.f61)))) (pZ (bC cE F 3 (bM cG).bF) (bM cG).bF Tryz.f27.ntmps (cR (cF (cS4 (cS (cS (bo Tryz.f27)))))) 4 2 Tryz.f61 (some 39) (fun s9=>(aBR F 0 (cS4 (cS (cS (cS (bo Tryz.f27))))) (bH (bM cG).bF true Tryz.f27 Post)) .normal s9)))
def aS0 (F n r:Nat) (K:zK):zK:=bJ 8 (bJ 5 (cO (bC cE F 2 ((bM cG).bF.at 34000)) ((bM cG).bF.at 34000) Tryz.f60.ntmps cE F 4 (cS (cS (cS tQ))) (fW (bW (bC cE F 2 ((bM cG).bF.at 34000)) ((bM cG).bF.at 34000) Tryz.f60.ntmps cE F 4 tQ) (cE 34000 4) n r K)))
def aSZ (F n r:Nat) (K:zK):zK:=bJ 2 (bJ 1 (cO (bC cE F 2 ((bM cG).bF.at 40000)) ((bM cG).bF.at 40000) Tryz.f61.ntmps cE F 0 (cS (cS (cS aG2))) (fW (bW (bC cE F 2 ((bM cG).bF.at 40000)) ((bM cG).bF.at 40000) Tryz.f61.ntmps cE F 0 aG2) (cE 40000 0) n r K)))
def aSY (F n r:Nat) (K:zK):zK:=bJ 0 (pZ (bC cE F 2 ((bM cG).bF.at 40000)) ((bM cG).bF.at 40000) Tryz.f61.ntmps (cR (cF (cT (cS (cF (cS (cB (cF (cS (cS aAT)))))))))) 6 6 Tryz.f129 (some 41) (fun s9=>(cO (bC cE F 2 ((bM cG).bF.at 40000)) ((bM cG).bF.at 40000) Tryz.f61.ntmps cE F 3 (cS (cT (cS (cF (cS (cB (cF (cS (cS aAT))))))))) (cO (bC cE F 2 ((bM cG).bF.at 40000)) ((bM cG).bF.at 40000) Tryz.f61.ntmps cE F 3 (cS (cS (cB (cF (cS (cS aAT)))))) (bJ 3 (cO (bC cE F 2 ((bM cG).bF.at 40000)) ((bM cG).bF.at 40000) Tryz.f61.ntmps cE F 2 (cS (cS (cS aAT))) (fW (bW (bC cE F 2 ((bM cG).bF.at 40000)) ((bM cG).bF.at 40000) Tryz.f61.ntmps cE F 2 aAT) (cE 40000 2) n r K))))) .normal s9))
theorem aQh (F:Nat) (K:zK):∀n r,aHJ F K n r=aAl F (aK3 (K (.exit 8))) n
 |0,_=>by kernel_rfl
 |n+1,r=>Eq.trans (b:=(fun t13 t15 t118 t119 t120 qz qaa qab qac qaq qar qas qat qau=>aFj (aHJ F K n (r+1)) (aK3 (K (.exit 8))) t13 t15 t118 t119 t120 qz qaa qab qac qaq qar qas qat qau)) (by kernel_rfl) (by rewrite[aQh F K n (r+1)];kernel_rfl)
theorem bDu (F n r:Nat) (K:zK):aHJ F (aS0 F n r K) F 0=aJi F (xM F K n (r+1)) (y9 (K (.exit 4))):=
 (aQh F _ F 0).trans (by kernel_rfl)
theorem aQj (F:Nat) (K:zK):∀n r,aHK F K n r=c6 F (aK4 (K (.exit 6))) n
 |0,_=>by kernel_rfl
 |n+1,r=>Eq.trans (b:=(fun t13 t15 t118 t119 t120 qz qaa qab qac qaq qar qas qat qau=>aFl (aHK F K n (r+1)) (aK4 (K (.exit 6))) t13 t15 t118 t119 t120 qz qaa qab qac qaq qar qas qat qau)) (by kernel_rfl) (by rewrite[aQj F K n (r+1)];kernel_rfl)
theorem bDw (F n r:Nat) (K:zK):aHK F (aS2 F n r K) F 0=aOI F (xM F K n (r+1)) (y9 (K (.exit 4))):=
 (aQj F _ F 0).trans (Eq.trans (b:=c6 F (fun t13 t15 t118 t119 t120 qz qaa qab qac qaq qar qas qat qau=>aLJ (xM F K n (r+1)) (y9 (K (.exit 4))) t13 t15 t118 t119 t120 qz qaa qab qac qaq qar qas qat qau (aHJ F (aS0 F n r K) F 0)) F) (by kernel_rfl) (by rewrite[bDu F n r K];kernel_rfl))
theorem aQf (F:Nat) (K:zK):∀n r,aHI F K n r=aAk F (aK2 (K (.exit 0))) n
 |0,_=>by kernel_rfl
 |n+1,r=>Eq.trans (b:=(fun qbm qbn qbo qbp qbq qbr qad qav qaw qax qay qaz qba qbb=>aFh (aHI F K n (r+1)) (aK2 (K (.exit 0))) qbm qbn qbo qbp qbq qbr qad qav qaw qax qay qaz qba qbb)) (by kernel_rfl) (by rewrite[aQf F K n (r+1)];kernel_rfl)
theorem bDs (F n r:Nat) (K:zK):aHI F (aSY F n r K) F 0=aOG F (aCt F K n (r+1)) (aFP (K (.exit 2))):=
 (aQf F _ F 0).trans (by kernel_rfl)
theorem aQg (F:Nat) (K:zK):∀n r,aCt F K n r=uU F (aFP (K (.exit 2))) n
 |0,_=>by kernel_rfl
 |n+1,r=>Eq.trans (b:=(fun t4 t12 t13 t21 t22 qbc qbd qbe qbf qbg qbh=>aFi (aCt F K n (r+1)) (aFP (K (.exit 2))) t4 t12 t13 t21 t22 qbc qbd qbe qbf qbg qbh (aHI F (aSY F n r K) F 0))) (by kernel_rfl) (by rewrite[bDs F n r K,aQg F K n (r+1)];kernel_rfl)
theorem bDt (F n r:Nat) (K:zK):aCt F (aSZ F n r K) F 0=aOH F (aCu F K n (r+1)) (aFQ (K (.exit 0))):=
 (aQg F _ F 0).trans (by kernel_rfl)
theorem aQi (F:Nat) (K:zK):∀n r,aCu F K n r=sB F (aFQ (K (.exit 0))) n
 |0,_=>by kernel_rfl
 |n+1,r=>Eq.trans (b:=(fun t12 t13 qbc qbd qbe qbf qbg qbh=>aFk (aCu F K n (r+1)) (aFQ (K (.exit 0))) t12 t13 qbc qbd qbe qbf qbg qbh (aCt F (aSZ F n r K) F 0))) (by kernel_rfl) (by rewrite[bDt F n r K,aQi F K n (r+1)];kernel_rfl)
theorem bDv (F:Nat) (Post:aB UU->Prop):aCu F (aS1 F Post) F 0=aJj F (fun r0 r1=>Post (.tup [.newd .rects r0,.int .i64 r1])):=
 (aQi F _ F 0).trans (by kernel_rfl)
theorem aQk (F:Nat) (K:zK):∀n r,xM F K n r=mY F (y9 (K (.exit 4))) n
 |0,_=>by kernel_rfl
 |n+1,r=>Eq.trans (b:=(fun t118 t119 t120 qaq qar qas qat qau=>aFm (xM F K n (r+1)) (y9 (K (.exit 4))) t118 t119 t120 qaq qar qas qat qau (aHK F (aS2 F n r K) F 0))) (by kernel_rfl) (by rewrite[bDw F n r K,aQk F K n (r+1)];kernel_rfl)
theorem bDx (F:Nat) (Post:aB UU->Prop):xM F (aS3 F Post) F 0=aJk F (fun r0 r1=>Post (.tup [.newd .rects r0,.int .i64 r1])):=
 (aQk F _ F 0).trans (Eq.trans (b:=mY F (fun t118 t119 t120 qaq qar qas qat qau=>aLK (fun r0 r1=>Post (.tup [.newd .rects r0,.int .i64 r1])) t118 t119 t120 qaq qar qas qat qau (aCu F (aS1 F Post) F 0)) F) (by kernel_rfl) (by rewrite[bDv F Post];kernel_rfl))
theorem aQl (F:Nat) (K:zK):∀n r,aHL F K n r=c7 F (aK5 (K (.exit 2))) n
 |0,_=>by kernel_rfl
 |n+1,r=>Eq.trans (b:=(fun t1 t68 t69 qaq qar qas qat qau=>aFn (aHL F K n (r+1)) (aK5 (K (.exit 2))) t1 t68 t69 qaq qar qas qat qau)) (by kernel_rfl) (by rewrite[aQl F K n (r+1)];kernel_rfl)
theorem bDy (F:Nat) (Post:aB UU->Prop):aHL F (aS4 F Post) F 0=aEn F (fun r0 r1=>Post (.tup [.newd .rects r0,.int .i64 r1])):=
 (aQl F _ F 0).trans (Eq.trans (b:=c7 F (fun t1 t68 t69 qaq qar qas qat qau=>aLL (fun r0 r1=>Post (.tup [.newd .rects r0,.int .i64 r1])) t1 t68 t69 qaq qar qas qat qau (xM F (aS3 F Post) F 0)) F) (by kernel_rfl) (by rewrite[bDx F Post];kernel_rfl))
theorem aQm (F:Nat) (K:zK):∀n r,aHM F K n r=c8 F (aK6 (K (.exit 0))) n
 |0,_=>by kernel_rfl
 |n+1,r=>Eq.trans (b:=(fun t1 t23 t24 t25 qaq qar=>aFo (aHM F K n (r+1)) (aK6 (K (.exit 0))) t1 t23 t24 t25 qaq qar)) (by kernel_rfl) (by rewrite[aQm F K n (r+1)];kernel_rfl)
theorem bDz (F:Nat) (Post:aB UU->Prop):aHM F (aS5 F Post) F 0=aOJ F (fun r0 r1=>Post (.tup [.newd .rects r0,.int .i64 r1])):=
 (aQm F _ F 0).trans (Eq.trans (b:=c8 F (fun t1 t23 t24 t25 qaq qar=>aCU (fun r0 r1=>Post (.tup [.newd .rects r0,.int .i64 r1])) t1 t23 t24 t25 qaq qar (aHL F (aS4 F Post) F 0)) F) (by kernel_rfl) (by rewrite[bDy F Post];kernel_rfl))
theorem aQn (F:Nat) (K:zK):∀n r,aHN F K n r=aAm F (aBs (K .ret)) (aBs (K (.exit 0))) n
 |0,_=>by kernel_rfl
 |n+1,r=>Eq.trans (b:=(fun t1 t5 t19 t20 t21 aS aR aU aT bB bA aZ bE=>aUT (aHN F K n (r+1)) (aBs (K .ret)) (aBs (K (.exit 0))) t1 t5 t19 t20 t21 aS aR aU aT bB bA aZ bE)) (by kernel_rfl) (by rewrite[aQn F K n (r+1)];kernel_rfl)
theorem bEA (F:Nat) (Post:aB UU->Prop):aHN F (aS6 F Post) F 0=aOK F (fun r0 r1=>Post (.tup [.newd .rects r0,.int .i64 r1])):=
 (aQn F _ F 0).trans (Eq.trans (b:=aAm F (fun t1 t5 t19 t20 t21 aS aR aU aT bB bA aZ bE=>aUY (fun r0 r1=>Post (.tup [.newd .rects r0,.int .i64 r1])) t1 t5 t19 t20 t21 aS aR aU aT bB bA aZ bE) (fun t1 t5 t19 t20 t21 aS aR aU aT bB bA aZ bE=>aUX (fun r0 r1=>Post (.tup [.newd .rects r0,.int .i64 r1])) t1 t5 t19 t20 t21 aS aR aU aT bB bA aZ bE (aHM F (aS5 F Post) F 0)) F) (by kernel_rfl) (by rewrite[bDz F Post];kernel_rfl))
theorem bHU (F:Nat) (Post:aB UU->Prop) (qa qb:ByteArray) (qc qd qf qg:Int) (qh qi:List aA) (a1:List Seg):exec (bM cG).bF Tryz.f27.ntmps cE F 0 (bo Tryz.f27) (cQ [.agg [.str qa,.str qb,.int .i64 qc,.int .i64 qd,.int .i64 qf,.int .i64 qg,.sl .rect qh,.sl .rect qi],.sl .seg a1]) (bH (bM cG).bF true Tryz.f27 Post)=aII F qa qb qc qd qf qg qh qi a1 (fun r0 r1=>Post (.tup [.newd .rects r0,.int .i64 r1])):=
 Eq.trans (b:=aLI qa qb qc qd qf qg qh qi a1 (fun r0 r1=>Post (.tup [.newd .rects r0,.int .i64 r1])) (aHN F (aS6 F Post) F 0)) (by kernel_rfl) (by rewrite[bEA F Post];kernel_rfl)
def aOp:Model UU
 |[.agg [.str qa,.str qb,.int .i64 qc,.int .i64 qd,.int .i64 qf,.int .i64 qg,.sl .rect qh,.sl .rect qi],.sl .seg a1]=>some ([aJB qa qb qc qd qf qg qh qi a1],.tup [.newd .rects ((fF qa qb qc qd qf qg qh qi a1).1),.int .i64 ((fF qa qb qc qd qf qg qh qi a1).2)])
 |_=>none
def dX:Cfg UU:=cG.add 27 aOp
theorem aZD:aX dX:=(aWX rfl aZd) mixed (c:=bo Tryz.f27) Tryz.func27 (by kernel_rfl) (by kernel_rfl) fun xs cs r h hc=>by
 unfold aOp at h;split at h
 ·rename_i qa qb qc qd qf qg qh qi a1;cases h;obtain⟨F,hF⟩:=bCj qa qb qc qd qf qg qh qi a1 hc;exact⟨by kernel_rfl,cE,F,true,⟨by rw[bHU];exact hF _ rfl⟩⟩
 ·cases h
set_option maxRecDepth 100000
def tN (F:Nat):=bW (bC dP F 3 (bM dX).bF) (bM dX).bF Tryz.f32.ntmps dP F
def pR (F:Nat):=cO (bC dP F 3 (bM dX).bF) (bM dX).bF Tryz.f32.ntmps dP F
abbrev aW8:=List Seg->Int->Int->ByteArray->ByteArray->Int->Int->Int->Int->List aA->List aA->zzI->zzI->Prop
def aBj (k:ASt UU->Prop):aW8:=(fun t1 t5 t9 aS aR aU aT bB bA aZ bE aJ aI=>k ⟨tmL [(1,.sl .seg t1),(2,.ptr 2 0),(4,.nils),(5,.int .i64 t5),(7,.osl 208 0),(8,.osl 209 0),(9,.int .i64 t9)],obL [(208,.row .int 0 aJ),(209,.row .int 0 aI),(2,.cells [.str aS,.str aR,.int .i64 aU,.int .i64 aT,.int .i64 bB,.int .i64 bA,.sl .rect aZ,.sl .rect bE])]⟩)
abbrev aW7:=Int->List Seg->zzI->zzI->zzB->zzB->zzZ->Prop
def aKV (k:ASt UU->Prop):aW7:=(fun t6 qbi aJ aI qae qaf qag=>k ⟨tmL [(0,.osl 208 0),(1,.osl 209 0),(5,.ptr 112010 0),(6,.int .i64 t6),(1000001,.sl .seg qbi),(1000007,.osl 208 0),(1000008,.osl 209 0)],obL [(112055,.deep .bools 0 0 qae),(112056,.deep .bools 0 0 qaf),(112057,.deep .ints 0 0 qag),(208,.row .int 0 aJ),(209,.row .int 0 aI),(112010,.cells [.osl 208 0,.osl 209 0,.osl 112055 0,.osl 112056 0,.osl 112057 0])]⟩)
abbrev aW6:=List Seg->Int->zzI->zzI->zzB->zzB->zzZ->Prop
def aBi (k:ASt UU->Prop):aW6:=(fun t1 t12 aJ aI dB dA cK=>k ⟨tmL [(1,.sl .seg t1),(7,.osl 208 0),(8,.osl 209 0),(11,.ptr 112010 0),(12,.int .i64 t12)],obL [(210,.deep .bools 0 0 dB),(211,.deep .bools 0 0 dA),(212,.deep .ints 0 0 cK),(208,.row .int 0 aJ),(209,.row .int 0 aI),(112010,.cells [.osl 208 0,.osl 209 0,.osl 210 0,.osl 211 0,.osl 212 0])]⟩)
abbrev aHp:=Int->Int->List Seg->Int->zzI->zzI->Int->Int->Int->Int->zzB->zzB->zzZ->Prop
def aKU (k:ASt UU->Prop):aHp:=(fun t4 t5 qbi qbj aJ aI qv qw qx qy qah qai qaj=>k ⟨tmL [(0,.ptr 112010 0),(3,.ptr 124003 0),(4,.int .i64 t4),(5,.int .i64 t5),(1000001,.sl .seg qbi),(1000007,.osl 208 0),(1000008,.osl 209 0),(1000011,.ptr 112010 0),(1000012,.int .i64 qbj)],obL [(124099,.deep .bools 0 0 qah),(124100,.deep .bools 0 0 qai),(124101,.deep .ints 0 0 qaj),(208,.row .int 0 aJ),(209,.row .int 0 aI),(112010,.cells [.osl 208 0,.osl 209 0,.osl 124099 0,.osl 124100 0,.osl 124101 0]),(124003,.cells [.int .i64 qv,.int .i64 qw,.int .i64 qx,.int .i64 qy])]⟩)
def aKT (k:ASt UU->Prop):aHp:=(fun t6 t7 qbi qbj aJ aI qv qw qx qy qah qai qaj=>k ⟨tmL [(0,.ptr 112010 0),(3,.ptr 124003 0),(6,.int .i64 t6),(7,.int .i64 t7),(1000001,.sl .seg qbi),(1000007,.osl 208 0),(1000008,.osl 209 0),(1000011,.ptr 112010 0),(1000012,.int .i64 qbj)],obL [(124099,.deep .bools 0 0 qah),(124100,.deep .bools 0 0 qai),(124101,.deep .ints 0 0 qaj),(208,.row .int 0 aJ),(209,.row .int 0 aI),(112010,.cells [.osl 208 0,.osl 209 0,.osl 124099 0,.osl 124100 0,.osl 124101 0]),(124003,.cells [.int .i64 qv,.int .i64 qw,.int .i64 qx,.int .i64 qy])]⟩)
abbrev aW5:=Int->zzI->zzI->zzB->zzB->zzZ->List (List aA)->Prop
def aFN (k:ASt UU->Prop):aW5:=(fun t14 aJ aI dB dA cK dV=>k ⟨tmL [(7,.osl 208 0),(8,.osl 209 0),(11,.ptr 112010 0),(13,.osl 213 0),(14,.int .i64 t14)],obL [(210,.deep .bools 0 0 dB),(211,.deep .bools 0 0 dA),(212,.deep .ints 0 0 cK),(213,.deep .rects 0 0 dV),(208,.row .int 0 aJ),(209,.row .int 0 aI),(112010,.cells [.osl 208 0,.osl 209 0,.osl 210 0,.osl 211 0,.osl 212 0])]⟩)
abbrev aW4:=Int->Int->zzI->zzI->zzB->zzB->zzZ->List (List aA)->Prop
def aFM (k:ASt UU->Prop):aW4:=(fun t14 t15 aJ aI dB dA cK dV=>k ⟨tmL [(7,.osl 208 0),(8,.osl 209 0),(11,.ptr 112010 0),(13,.osl 213 0),(14,.int .i64 t14),(15,.int .i64 t15)],obL [(210,.deep .bools 0 0 dB),(211,.deep .bools 0 0 dA),(212,.deep .ints 0 0 cK),(213,.deep .rects 0 0 dV),(208,.row .int 0 aJ),(209,.row .int 0 aI),(112010,.cells [.osl 208 0,.osl 209 0,.osl 210 0,.osl 211 0,.osl 212 0])]⟩)
abbrev aW3:=Int->Int->Int->Int->Int->Int->zzI->zzI->List Cel->List (List aA)->zzB->zzB->zzZ->Prop
def aFL (k:ASt UU->Prop):aW3:=(fun t3 t8 t9 t11 qbk qbl aJ aI qak qal qam qan qao=>k ⟨tmL [(0,.ptr 112010 0),(3,.int .i64 t3),(8,.int .i64 t8),(9,.int .i64 t9),(10,.osl 158215 0),(11,.int .i64 t11),(1000007,.osl 208 0),(1000008,.osl 209 0),(1000011,.ptr 112010 0),(1000013,.osl 158216 0),(1000014,.int .i64 qbk),(1000015,.int .i64 qbl)],obL [(158215,.row .cell 0 qak),(158216,.deep .rects 0 0 qal),(158217,.deep .bools 0 0 qam),(158218,.deep .bools 0 0 qan),(158219,.deep .ints 0 0 qao),(208,.row .int 0 aJ),(209,.row .int 0 aI),(112010,.cells [.osl 208 0,.osl 209 0,.osl 158217 0,.osl 158218 0,.osl 158219 0])]⟩)
abbrev aW2:=Int->Int->Int->Int->Int->Int->Int->zzI->zzI->List Cel->List Cel->List (List aA)->zzB->zzB->zzZ->Prop
def aKS (k:ASt UU->Prop):aW2:=(fun t3 t8 t9 t11 t14 qbk qbl aJ aI qak qal qam qan qao qap=>k ⟨tmL [(0,.ptr 112010 0),(3,.int .i64 t3),(8,.int .i64 t8),(9,.int .i64 t9),(10,.osl 158215 0),(11,.int .i64 t11),(13,.osl 158216 0),(14,.int .i64 t14),(1000007,.osl 208 0),(1000008,.osl 209 0),(1000011,.ptr 112010 0),(1000013,.osl 158217 0),(1000014,.int .i64 qbk),(1000015,.int .i64 qbl)],obL [(158215,.row .cell 0 qak),(158216,.row .cell 0 qal),(158217,.deep .rects 0 0 qam),(158218,.deep .bools 0 0 qan),(158219,.deep .bools 0 0 qao),(158220,.deep .ints 0 0 qap),(208,.row .int 0 aJ),(209,.row .int 0 aI),(112010,.cells [.osl 208 0,.osl 209 0,.osl 158218 0,.osl 158219 0,.osl 158220 0])]⟩)
def bJf:=(cL (cB (cS (cF (cS4 (cS (bo Tryz.f32)))))))
def bJe:=(cL (cB (cS (cF (cS (cS (bo Tryz.f75)))))))
def xF:=(cL (cB (cS (cF (cS4 (cS4 (bo Tryz.f32)))))))
def bJd:=(cL (cB (cS (cF (cS (cT (cS (cF (cS (bo Tryz.f76))))))))))
def bJc:=(cL (cB (cS4 (bo Tryz.f76))))
def aGW:=(cL (cB (cS (cF (cS4 (cS4 (cS (cS (bo Tryz.f32)))))))))
def aC8:=(cL (cB (cS (cB (cF (cS aGW))))))
def aGV:=(cL (cB (cS4 (bo Tryz.f77))))
def bJb:=(cL (cB (cS4 (cS (cS (cS (cB (cF (cS aGV)))))))))
def aGu (F:Nat) (K:zK) (n r:Nat):aW8:=aBj fun s=>iter (tN F 0 bJf) (dP 0 0) n r s K
def aGt (F:Nat) (K:zK) (n r:Nat):aW7:=aKV fun s=>iter (bW (bC dP F 2 ((bM dX).bF.at 112000)) ((bM dX).bF.at 112000) Tryz.f75.ntmps dP F 0 bJe) (dP 112000 0) n r s K
def aAY (F:Nat) (K:zK) (n r:Nat):aW6:=aBi fun s=>iter (tN F 2 xF) (dP 0 2) n r s K
def aGs (F:Nat) (K:zK) (n r:Nat):aHp:=aKU fun s=>iter (bW (bC dP F 2 ((bM dX).bF.at 124000)) ((bM dX).bF.at 124000) Tryz.f76.ntmps dP F 0 bJd) (dP 124000 0) n r s K
def aGr (F:Nat) (K:zK) (n r:Nat):aHp:=aKT fun s=>iter (bW (bC dP F 2 ((bM dX).bF.at 124000)) ((bM dX).bF.at 124000) Tryz.f76.ntmps dP F 2 bJc) (dP 124000 2) n r s K
def aCn (F:Nat) (K:zK) (n r:Nat):aW5:=aFN fun s=>iter (tN F 4 aGW) (dP 0 4) n r s K
def aCm (F:Nat) (K:zK) (n r:Nat):aW4:=aFM fun s=>iter (tN F 6 aC8) (dP 0 6) n r s K
def aCl (F:Nat) (K:zK) (n r:Nat):aW3:=aFL fun s=>iter (bW (bC dP F 2 ((bM dX).bF.at 158000)) ((bM dX).bF.at 158000) Tryz.f77.ntmps dP F 0 aGV) (dP 158000 0) n r s K
def aGq (F:Nat) (K:zK) (n r:Nat):aW2:=aKS fun s=>iter (bW (bC dP F 2 ((bM dX).bF.at 158000)) ((bM dX).bF.at 158000) Tryz.f77.ntmps dP F 2 bJb) (dP 158000 2) n r s K
def aSE (F:Nat) (Post:aB UU->Prop):zK:=bJ 0 (pR F 0 (cS4 (cS (cS (bo Tryz.f32)))) (bH (bM dX).bF true Tryz.f32 Post))
def aSD (F:Nat) (Post:aB UU->Prop):zK:=bJ 0 (cO (bC dP F 2 ((bM dX).bF.at 112000)) ((bM dX).bF.at 112000) Tryz.f75.ntmps dP F 0 (cS (cS (cS (bo Tryz.f75)))) (pZ (bC dP F 3 (bM dX).bF) (bM dX).bF Tryz.f32.ntmps (cR (cF (cS4 (cS (cS (cS (bo Tryz.f32))))))) 4 3 Tryz.f75 (some 111) (fun s9=>(pR F 0 (cS4 (cS4 (bo Tryz.f32))) (bH (bM dX).bF true Tryz.f32 Post)) .normal s9)))
def aSC (F:Nat) (Post:aB UU->Prop):zK:=bJ 2 (pR F 0 (cS4 (cS4 (cS (bo Tryz.f32)))) (bH (bM dX).bF true Tryz.f32 Post))
def aSB (F n r:Nat) (K:zK):zK:=bJ 0 (cO (bC dP F 2 ((bM dX).bF.at 124000)) ((bM dX).bF.at 124000) Tryz.f76.ntmps dP F 0 (cS (cS (cT (cS (cF (cS (bo Tryz.f76))))))) (cO (bC dP F 2 ((bM dX).bF.at 124000)) ((bM dX).bF.at 124000) Tryz.f76.ntmps dP F 0 (cS (cS (bo Tryz.f76))) (pZ (bC dP F 3 (bM dX).bF) (bM dX).bF Tryz.f32.ntmps (cR (cB (cF (cS xF)))) 6 6 Tryz.f76 (some 123) (fun s9=>(bJ 3 (pR F 2 (cS (cS xF)) (fW (tN F 2 xF) (dP 0 2) n r K))) .normal s9))))
def aSA (F n r:Nat) (K:zK):zK:=bJ 2 (pZ (bC dP F 3 (bM dX).bF) (bM dX).bF Tryz.f32.ntmps (cR (cB (cF (cS xF)))) 6 6 Tryz.f76 (some 123) (fun s9=>(bJ 3 (pR F 2 (cS (cS xF)) (fW (tN F 2 xF) (dP 0 2) n r K))) .normal s9))
def aRz (F:Nat) (Post:aB UU->Prop):zK:=bJ 4 (pR F 0 (cS4 (cS4 (cS (cS (cS (bo Tryz.f32)))))) (bH (bM dX).bF true Tryz.f32 Post))
def aRy (F n r:Nat) (K:zK):zK:=bJ 6 (bJ 5 (pR F 4 (cS (cS aGW)) (fW (tN F 4 aGW) (dP 0 4) n r K)))
def aRx (F n r:Nat) (K:zK):zK:=bJ 0 (pZ (bC dP F 3 (bM dX).bF) (bM dX).bF Tryz.f32.ntmps (cR (cS (cT (cS (cF (cB (cF (cS aC8)))))))) 6 6 Tryz.f77 (some 157) (fun s9=>(pR F 7 (cS (cB (cF (cS aC8)))) (bJ 7 (pR F 6 (cS (cS aC8)) (fW (tN F 6 aC8) (dP 0 6) n r K)))) .normal s9))
def aRw (F n r:Nat) (K:zK):zK:=bJ 2 (bJ 1 (cO (bC dP F 2 ((bM dX).bF.at 158000)) ((bM dX).bF.at 158000) Tryz.f77.ntmps dP F 0 (cS (cS aGV)) (fW (bW (bC dP F 2 ((bM dX).bF.at 158000)) ((bM dX).bF.at 158000) Tryz.f77.ntmps dP F 0 aGV) (dP 158000 0) n r K)))
theorem aQS (F:Nat) (K:zK):∀n r,aGs F K n r=aAf F (aKU (K (.exit 0))) n
 |0,_=>by kernel_rfl
 |n+1,r=>Eq.trans (b:=(fun t4 t5 qbi qbj aJ aI qv qw qx qy qah qai qaj=>aF8 (aGs F K n (r+1)) (aKU (K (.exit 0))) t4 t5 qbi qbj aJ aI qv qw qx qy qah qai qaj)) (by kernel_rfl) (by rewrite[aQS F K n (r+1)];kernel_rfl)
theorem bD5 (F n r:Nat) (K:zK):aGs F (aSB F n r K) F 0=aNz F (aAY F K n (r+1)) (aBi (K (.exit 2))):=
 (aQS F _ F 0).trans (by kernel_rfl)
theorem aQR (F:Nat) (K:zK):∀n r,aGr F K n r=aAe F (aKT (K (.exit 2))) n
 |0,_=>by kernel_rfl
 |n+1,r=>Eq.trans (b:=(fun t6 t7 qbi qbj aJ aI qv qw qx qy qah qai qaj=>aF7 (aGr F K n (r+1)) (aKT (K (.exit 2))) t6 t7 qbi qbj aJ aI qv qw qx qy qah qai qaj)) (by kernel_rfl) (by rewrite[aQR F K n (r+1)];kernel_rfl)
theorem bD4 (F n r:Nat) (K:zK):aGr F (aSA F n r K) F 0=aNy F (aAY F K n (r+1)) (aBi (K (.exit 2))):=
 (aQR F _ F 0).trans (by kernel_rfl)
theorem aQN (F:Nat) (K:zK):∀n r,aGq F K n r=aAd F (aKS (K (.exit 2))) n
 |0,_=>by kernel_rfl
 |n+1,r=>Eq.trans (b:=(fun t3 t8 t9 t11 t14 qbk qbl aJ aI qak qal qam qan qao qap=>aF3 (aGq F K n (r+1)) (aKS (K (.exit 2))) t3 t8 t9 t11 t14 qbk qbl aJ aI qak qal qam qan qao qap)) (by kernel_rfl) (by rewrite[aQN F K n (r+1)];kernel_rfl)
theorem bD0 (F n r:Nat) (K:zK):aGq F (aRw F n r K) F 0=aNv F (aCl F K n (r+1)) (aFL (K (.exit 0))):=
 (aQN F _ F 0).trans (by kernel_rfl)
theorem aQO (F:Nat) (K:zK):∀n r,aCl F K n r=rY F (aFL (K (.exit 0))) n
 |0,_=>by kernel_rfl
 |n+1,r=>Eq.trans (b:=(fun t3 t8 t9 t11 qbk qbl aJ aI qak qal qam qan qao=>aF4 (aCl F K n (r+1)) (aFL (K (.exit 0))) t3 t8 t9 t11 qbk qbl aJ aI qak qal qam qan qao (aGq F (aRw F n r K) F 0))) (by kernel_rfl) (by rewrite[bD0 F n r K,aQO F K n (r+1)];kernel_rfl)
theorem bD1 (F n r:Nat) (K:zK):aCl F (aRx F n r K) F 0=aNw F (aCm F K n (r+1)) (aFM (K (.exit 6))):=
 (aQO F _ F 0).trans (by kernel_rfl)
theorem aQP (F:Nat) (K:zK):∀n r,aCm F K n r=uP F (aFM (K (.exit 6))) n
 |0,_=>by kernel_rfl
 |n+1,r=>Eq.trans (b:=(fun t14 t15 aJ aI dB dA cK dV=>aF5 (aCm F K n (r+1)) (aFM (K (.exit 6))) t14 t15 aJ aI dB dA cK dV (aCl F (aRx F n r K) F 0))) (by kernel_rfl) (by rewrite[bD1 F n r K,aQP F K n (r+1)];kernel_rfl)
theorem bD2 (F n r:Nat) (K:zK):aCm F (aRy F n r K) F 0=aNx F (aCn F K n (r+1)) (aFN (K (.exit 4))):=
 (aQP F _ F 0).trans (by kernel_rfl)
theorem aQQ (F:Nat) (K:zK):∀n r,aCn F K n r=rZ F (aFN (K (.exit 4))) n
 |0,_=>by kernel_rfl
 |n+1,r=>Eq.trans (b:=(fun t14 aJ aI dB dA cK dV=>aF6 (aCn F K n (r+1)) (aFN (K (.exit 4))) t14 aJ aI dB dA cK dV (aCm F (aRy F n r K) F 0))) (by kernel_rfl) (by rewrite[bD2 F n r K,aQQ F K n (r+1)];kernel_rfl)
theorem bD3 (F:Nat) (Post:aB UU->Prop):aCn F (aRz F Post) F 0=aJ7 F (fun r0 r1=>Post (.tup [.newd .rects r0,.int .i64 r1])):=
 (aQQ F _ F 0).trans (by kernel_rfl)
theorem aQT (F:Nat) (K:zK):∀n r,aAY F K n r=mC F (aBi (K (.exit 2))) n
 |0,_=>by kernel_rfl
 |n+1,r=>Eq.trans (b:=(fun t1 t12 aJ aI dB dA cK=>aF9 (aAY F K n (r+1)) (aBi (K (.exit 2))) t1 t12 aJ aI dB dA cK (aGs F (aSB F n r K) F 0) (aGr F (aSA F n r K) F 0))) (by kernel_rfl) (by rewrite[bD5 F n r K,bD4 F n r K,aQT F K n (r+1)];kernel_rfl)
theorem bD6 (F:Nat) (Post:aB UU->Prop):aAY F (aSC F Post) F 0=aJ8 F (fun r0 r1=>Post (.tup [.newd .rects r0,.int .i64 r1])):=
 (aQT F _ F 0).trans (Eq.trans (b:=mC F (fun t1 t12 aJ aI dB dA cK=>aKy (fun r0 r1=>Post (.tup [.newd .rects r0,.int .i64 r1])) t1 t12 aJ aI dB dA cK (aCn F (aRz F Post) F 0)) F) (by kernel_rfl) (by rewrite[bD3 F Post];kernel_rfl))
theorem aQU (F:Nat) (K:zK):∀n r,aGt F K n r=zY F (aKV (K (.exit 0))) n
 |0,_=>by kernel_rfl
 |n+1,r=>Eq.trans (b:=(fun t6 qbi aJ aI qae qaf qag=>aFa (aGt F K n (r+1)) (aKV (K (.exit 0))) t6 qbi aJ aI qae qaf qag)) (by kernel_rfl) (by rewrite[aQU F K n (r+1)];kernel_rfl)
theorem bD7 (F:Nat) (Post:aB UU->Prop):aGt F (aSD F Post) F 0=aJ9 F (fun r0 r1=>Post (.tup [.newd .rects r0,.int .i64 r1])):=
 (aQU F _ F 0).trans (Eq.trans (b:=zY F (fun t6 qbi aJ aI qae qaf qag=>aKz (fun r0 r1=>Post (.tup [.newd .rects r0,.int .i64 r1])) t6 qbi aJ aI qae qaf qag (aAY F (aSC F Post) F 0)) F) (by kernel_rfl) (by rewrite[bD6 F Post];kernel_rfl))
theorem aQV (F:Nat) (K:zK):∀n r,aGu F K n r=zZ F (aBj (K .ret)) (aBj (K (.exit 0))) n
 |0,_=>by kernel_rfl
 |n+1,r=>Eq.trans (b:=(fun t1 t5 t9 aS aR aU aT bB bA aZ bE aJ aI=>aFb (aGu F K n (r+1)) (aBj (K .ret)) (aBj (K (.exit 0))) t1 t5 t9 aS aR aU aT bB bA aZ bE aJ aI)) (by kernel_rfl) (by rewrite[aQV F K n (r+1)];kernel_rfl)
theorem bD8 (F:Nat) (Post:aB UU->Prop):aGu F (aSE F Post) F 0=aOA F (fun r0 r1=>Post (.tup [.newd .rects r0,.int .i64 r1])):=
 (aQV F _ F 0).trans (Eq.trans (b:=zZ F (fun t1 t5 t9 aS aR aU aT bB bA aZ bE aJ aI=>aLA (fun r0 r1=>Post (.tup [.newd .rects r0,.int .i64 r1])) t1 t5 t9 aS aR aU aT bB bA aZ bE aJ aI) (fun t1 t5 t9 aS aR aU aT bB bA aZ bE aJ aI=>aCT (fun r0 r1=>Post (.tup [.newd .rects r0,.int .i64 r1])) t1 t5 t9 aS aR aU aT bB bA aZ bE aJ aI (aGt F (aSD F Post) F 0)) F) (by kernel_rfl) (by rewrite[bD7 F Post];kernel_rfl))
theorem bHL (F:Nat) (Post:aB UU->Prop) (qa qb:ByteArray) (qc qd qf qg:Int) (qh qi:List aA) (a1:List Seg):exec (bM dX).bF Tryz.f32.ntmps dP F 0 (bo Tryz.f32) (cQ [.agg [.str qa,.str qb,.int .i64 qc,.int .i64 qd,.int .i64 qf,.int .i64 qg,.sl .rect qh,.sl .rect qi],.sl .seg a1]) (bH (bM dX).bF true Tryz.f32 Post)=aIE F qa qb qc qd qf qg qh qi a1 (fun r0 r1=>Post (.tup [.newd .rects r0,.int .i64 r1])):=
 Eq.trans (b:=aKx qa qb qc qd qf qg qh qi a1 (fun r0 r1=>Post (.tup [.newd .rects r0,.int .i64 r1])) (aGu F (aSE F Post) F 0)) (by kernel_rfl) (by rewrite[bD8 F Post];kernel_rfl)
def aOg:Model UU
 |[.agg [.str qa,.str qb,.int .i64 qc,.int .i64 qd,.int .i64 qf,.int .i64 qg,.sl .rect qh,.sl .rect qi],.sl .seg a1]=>some ([aIv qa qb qc qd qf qg qh qi a1],.tup [.newd .rects ((sK qa qb qc qd qf qg qh qi a1).1),.int .i64 ((sK qa qb qc qd qf qg qh qi a1).2)])
 |_=>none
def qX:Cfg UU:=dX.add 32 aOg
theorem aYu:aX qX:=(aWX rfl aZD) mixed (c:=bo Tryz.f32) Tryz.func32 (by kernel_rfl) (by kernel_rfl) fun xs cs r h hc=>by
 unfold aOg at h;split at h
 ·rename_i qa qb qc qd qf qg qh qi a1;cases h;obtain⟨F,hF⟩:=bCa qa qb qc qd qf qg qh qi a1 hc;exact⟨by kernel_rfl,dP,F,true,⟨by rw[bHL];exact hF _ rfl⟩⟩
 ·cases h
set_option maxRecDepth 100000
def bIW (F:Nat):=bW (bC zC F 0 qX) qX Tryz.f34.ntmps zC F
def bAy (F:Nat):=cO (bC zC F 0 qX) qX Tryz.f34.ntmps zC F
abbrev aWc:=List aA->List aA->Bool->Int->Prop
def aBq (k:ASt UU->Prop):aWc:=(fun t0 t1 t4 t5=>k ⟨tmL [(0,.sl .rect t0),(1,.sl .rect t1),(4,.bool t4),(5,.int .i64 t5)],obL []⟩)
def bJq:=(cL (cB (cS (cF (cS (cS (bo Tryz.f34)))))))
def aHF (F:Nat) (K:zK) (n r:Nat):aWc:=aBq fun s=>iter (bIW F 0 bJq) (zC 0 0) n r s K
def aST (F:Nat) (Post:aB UU->Prop):zK:=bJ 0 (bAy F 0 (cS (cS (cS (bo Tryz.f34)))) (bH qX false Tryz.f34 Post))
theorem aQa (F:Nat) (K:zK):∀n r,aHF F K n r=aDZ F (aBq (K .ret)) (aBq (K (.exit 0))) n
 |0,_=>by kernel_rfl
 |n+1,r=>Eq.trans (b:=(fun t0 t1 t4 t5=>aAJ (aHF F K n (r+1)) (aBq (K .ret)) (aBq (K (.exit 0))) t0 t1 t4 t5)) (by kernel_rfl) (by rewrite[aQa F K n (r+1)];kernel_rfl)
theorem bDn (F:Nat) (Post:aB UU->Prop):aHF F (aST F Post) F 0=aOE F (fun r0=>Post (.bool r0)):=
 (aQa F _ F 0).trans (by kernel_rfl)
theorem bHR (F:Nat) (Post:aB UU->Prop) (a0 a1:List aA):exec qX Tryz.f34.ntmps zC F 0 (bo Tryz.f34) (cQ [.sl .rect a0,.sl .rect a1]) (bH qX false Tryz.f34 Post)=aIH F a0 a1 (fun r0=>Post (.bool r0)):=
 Eq.trans (b:=aLH a0 a1 (fun r0=>Post (.bool r0)) (aHF F (aST F Post) F 0)) (by kernel_rfl) (by rewrite[bDn F Post];kernel_rfl)
def aOm:Model UU
 |[.sl .rect a0,.sl .rect a1]=>some ([aIy a0 a1],.bool (aDs a0 a1))
 |_=>none
def aXE:Cfg UU:=qX.add 34 aOm
theorem aZA:aX aXE:=cM aYu mixed Tryz.func34 (by kernel_rfl) (by kernel_rfl) fun xs cs r h hc=>by
 unfold aOm at h;split at h
 ·rename_i a0 a1;cases h;obtain⟨F,hF⟩:=bCg a0 a1 hc;exact⟨by kernel_rfl,zC,F,false,⟨by rw[bHR];exact hF _ rfl⟩⟩
 ·cases h
set_option maxRecDepth 100000
def aPM:Model UU
 |[.int .i64 a0,.int .i64 a1,.int .i64 a2,.int .i64 a3]=>some ([],.tup [.agg [.int .i64 ((kZ a0 a1 a2 a3).1),.int .i64 ((kZ a0 a1 a2 a3).2.1),.int .i64 ((kZ a0 a1 a2 a3).2.2.1),.int .i64 ((kZ a0 a1 a2 a3).2.2.2.1)],.bool ((kZ a0 a1 a2 a3).2.2.2.2)])
 |_=>none
def aXJ:Cfg UU:=aXE.add 71 aPM
theorem aZZ:aX aXJ:=cM aZA mixed Tryz.func71 (by kernel_rfl) (by kernel_rfl) fun xs cs r h hc=>by
 unfold aPM at h;split at h
 ·rename_i a0 a1 a2 a3;cases h;refine⟨by kernel_rfl,M0,0,false,⟨of_eq (q:=(fun Q:Int->Int->Int->Int->Bool->Prop=>cond (((a0==a2)&&(a1==a3))||((a0 !=a2)&&(a1 !=a3))) (Q 0 0 0 0 false) (Q (mi a0 a2) (mi a1 a3) (ma a0 a2) (ma a1 a3) true)) fun bAn bAk bAm bAj r1=>(.tup [.agg [.int .i64 bAn,.int .i64 bAk,.int .i64 bAm,.int .i64 bAj],.bool r1]:aB UU)=.tup [.agg [.int .i64 ((kZ a0 a1 a2 a3).1),.int .i64 ((kZ a0 a1 a2 a3).2.1),.int .i64 ((kZ a0 a1 a2 a3).2.2.1),.int .i64 ((kZ a0 a1 a2 a3).2.2.2.1)],.bool ((kZ a0 a1 a2 a3).2.2.2.2)]) (by kernel_rfl) ?_⟩⟩;unfold kZ;cases ((((a0==a2)&&(a1==a3))||((a0 !=a2)&&(a1 !=a3))))<;>rfl
 ·cases h
def aPQ:Model UU
 |[.agg [.int .i64 qo,.int .i64 qm,.int .i64 qt,.int .i64 qn],.agg [.int .i64 bL,.int .i64 bK,.int .i64 cC,.int .i64 cD]]=>some ([],.bool (aDz qo qm qt qn bL bK cC cD))
 |_=>none
def aXN:Cfg UU:=aXJ.add 72 aPQ
theorem aZ3:aX aXN:=cM aZZ mixed Tryz.func72 (by kernel_rfl) (by kernel_rfl) fun xs cs r h hc=>by
 unfold aPQ at h;split at h
 ·rename_i qo qm qt qn bL bK cC cD;cases h;refine⟨by kernel_rfl,M0,0,false,⟨of_eq (q:=(fun Q:Bool->Prop=>cond (qm==qn) (Q ((((decide (bK<qm))&&(decide (qm<(aC (bK+cD)))))&&(decide (qo<(aC (bL+cC)))))&&(decide (bL<qt)))) (Q ((((decide (bL<qo))&&(decide (qo<(aC (bL+cC)))))&&(decide (qm<(aC (bK+cD)))))&&(decide (bK<qn))))) fun r0=>(.bool r0:aB UU)=.bool (aDz qo qm qt qn bL bK cC cD)) (by kernel_rfl) ?_⟩⟩;unfold aDz;cases (qm==qn)<;>rfl
 ·cases h
def aPm:Model UU
 |[.agg [.int .i64 aE,.int .i64 aD,.int .i64 aG,.int .i64 aF],.agg [.int .i64 bL,.int .i64 bK,.int .i64 cC,.int .i64 cD]]=>some ([],.bool (vG aE aD aG aF bL bK cC cD))
 |_=>none
def aXe:Cfg UU:=aXN.add 125 aPm
theorem bAD:aX aXe:=tin aZ3 mixed Tryz.func125 (by kernel_rfl) (by kernel_rfl) false fun xs cs r h=>by
 unfold aPm at h;split at h
 ·cases h;exact⟨by kernel_rfl,by kernel_rfl⟩
 ·cases h
def aPo:Model UU
 |[.agg [.int .i64 aE,.int .i64 aD,.int .i64 aG,.int .i64 aF],.agg [.int .i64 bL,.int .i64 bK,.int .i64 cC,.int .i64 cD]]=>some ([],.int .i64 (vH aE aD aG aF bL bK cC cD))
 |_=>none
def aXg:Cfg UU:=aXe.add 215 aPo
theorem bAF:aX aXg:=cM bAD mixed Tryz.func215 (by kernel_rfl) (by kernel_rfl) fun xs cs r h hc=>by
 unfold aPo at h;split at h
 ·rename_i aE aD aG aF bL bK cC cD;cases h;refine⟨by kernel_rfl,M0,0,false,⟨of_eq (q:=(fun Q:Int->Prop=>cond ((!(iW aE aD aG aF))||(!(iW bL bK cC cD))) (Q 0) (Q (ma (ma (ma (ma 0 (aC ((aC (bL-aE))-aG))) (aC ((aC (aE-bL))-cC))) (aC ((aC (bK-aD))-aF))) (aC ((aC (aD-bK))-cD))))) fun r0=>(.int .i64 r0:aB UU)=.int .i64 (vH aE aD aG aF bL bK cC cD)) (by kernel_rfl) ?_⟩⟩;unfold vH;cases (((!(iW aE aD aG aF))||(!(iW bL bK cC cD))))<;>rfl
 ·cases h
def aP9:Model UU
 |[.agg [.int .i64 aE,.int .i64 aD,.int .i64 aG,.int .i64 aF],.agg [.int .i64 bL,.int .i64 bK,.int .i64 cC,.int .i64 cD]]=>some ([],.bool (aNH aE aD aG aF bL bK cC cD))
 |_=>none
def aX0:Cfg UU:=aXg.add 213 aP9
theorem aZn:aX aX0:=tin bAF mixed Tryz.func213 (by kernel_rfl) (by kernel_rfl) false fun xs cs r h=>by
 unfold aP9 at h;split at h
 ·cases h;exact⟨by kernel_rfl,by kernel_rfl⟩
 ·cases h
def aP2:Model UU
 |[.agg [.int .i64 aE,.int .i64 aD,.int .i64 aG,.int .i64 aF],.agg [.int .i64 bL,.int .i64 bK,.int .i64 cC,.int .i64 cD]]=>some ([],.int .i64 (aBF aE aD aG aF bL bK cC cD))
 |_=>none
def aXV:Cfg UU:=aX0.add 131 aP2
theorem aZg:aX aXV:=tin aZn mixed Tryz.func131 (by kernel_rfl) (by kernel_rfl) false fun xs cs r h=>by
 unfold aP2 at h;split at h
 ·cases h;exact⟨by kernel_rfl,by kernel_rfl⟩
 ·cases h
def aPX:Model UU
 |[.agg [.int .i64 aE,.int .i64 aD,.int .i64 aG,.int .i64 aF],.agg [.int .i64 bL,.int .i64 bK,.int .i64 cC,.int .i64 cD]]=>some ([],.bool (aBE aE aD aG aF bL bK cC cD))
 |_=>none
def aXR:Cfg UU:=aXV.add 141 aPX
theorem aZa:aX aXR:=tin aZg mixed Tryz.func141 (by kernel_rfl) (by kernel_rfl) false fun xs cs r h=>by
 unfold aPX at h;split at h
 ·cases h;exact⟨by kernel_rfl,by kernel_rfl⟩
 ·cases h
def aPZ:Model UU
 |[.agg [.int .i64 aE,.int .i64 aD,.int .i64 aG,.int .i64 aF],.agg [.int .i64 bL,.int .i64 bK,.int .i64 cC,.int .i64 cD]]=>some ([],.int .i64 (o4 aE aD aG aF bL bK cC cD))
 |_=>none
def aXS:Cfg UU:=aXR.add 139 aPZ
theorem aZc:aX aXS:=cM aZa mixed Tryz.func139 (by kernel_rfl) (by kernel_rfl) fun xs cs r h hc=>by
 unfold aPZ at h;split at h
 ·rename_i aE aD aG aF bL bK cC cD;cases h;refine⟨by kernel_rfl,M0,0,false,⟨of_eq (q:=(fun Q:Int->Prop=>cond ((!(gK aE aD aG aF))||(!(gK bL bK cC cD))) (Q 0) (Q (ma (ma (ma 0 (aC ((aC (aE-bL))-cC))) (aC ((aC (bL-aE))-aG))) (ma (ma 0 (aC ((aC (aD-bK))-cD))) (aC ((aC (bK-aD))-aF)))))) fun r0=>(.int .i64 r0:aB UU)=.int .i64 (o4 aE aD aG aF bL bK cC cD)) (by kernel_rfl) ?_⟩⟩;unfold o4;cases (((!(gK aE aD aG aF))||(!(gK bL bK cC cD))))<;>rfl
 ·cases h
def aPR:Model UU
 |[.agg [.int .i64 aE,.int .i64 aD,.int .i64 aG,.int .i64 aF],.agg [.int .i64 bL,.int .i64 bK,.int .i64 cC,.int .i64 cD]]=>some ([],.bool (aNG aE aD aG aF bL bK cC cD))
 |_=>none
def oZ:Cfg UU:=aXS.add 183 aPR
theorem aZ4:aX oZ:=tin aZc mixed Tryz.func183 (by kernel_rfl) (by kernel_rfl) false fun xs cs r h=>by
 unfold aPR at h;split at h
 ·cases h;exact⟨by kernel_rfl,by kernel_rfl⟩
 ·cases h
set_option maxRecDepth 100000
def aGP (F:Nat):=bW (bC oV F 0 oZ) oZ Tryz.f73.ntmps oV F
def aIj (F:Nat):=cO (bC oV F 0 oZ) oZ Tryz.f73.ntmps oV F
def aFS (k:ASt UU->Prop):List Seg->Int->List Seg->Prop:=(fun t0 t5 bS=>k ⟨tmL [(0,.sl .seg t0),(3,.osl 119 0),(4,.nils),(5,.int .i64 t5)],obL [(119,.row .seg 0 bS)]⟩)
abbrev aWo:=List Seg->Int->Int->List Seg->Prop
def aKj (k:ASt UU->Prop):aWo:=(fun t0 t5 t6 bS=>k ⟨tmL [(0,.sl .seg t0),(3,.osl 119 0),(4,.nils),(5,.int .i64 t5),(6,.int .i64 t6)],obL [(119,.row .seg 0 bS)]⟩)
def aKi (k:ASt UU->Prop):Int->List Seg->List Seg->Prop:=(fun t8 bS bP=>k ⟨tmL [(3,.osl 119 0),(4,.osl 120 0),(8,.int .i64 t8)],obL [(119,.row .seg 0 bS),(120,.row .seg 0 bP)]⟩)
def aG7:=(cL (cB (cS (cF (cS (cS (bo Tryz.f73)))))))
def bKU:=(cL (cB (cS (cS (cB (cF (cS aG7)))))))
def bKT:=(cL (cB (cS (cF (cS (cS (cS (bo Tryz.f73))))))))
def aCz (F:Nat) (K:zK) (n r:Nat):List Seg->Int->List Seg->Prop:=aFS fun s=>iter (aGP F 0 aG7) (oV 0 0) n r s K
def aH9 (F:Nat) (K:zK) (n r:Nat):aWo:=aKj fun s=>iter (aGP F 2 bKU) (oV 0 2) n r s K
def aH8 (F:Nat) (K:zK) (n r:Nat):Int->List Seg->List Seg->Prop:=aKi fun s=>iter (aGP F 4 bKT) (oV 0 4) n r s K
def aSx (F:Nat) (Post:aB UU->Prop):zK:=bJ 0 (aIj F 0 (cS (cS (cS (bo Tryz.f73)))) (bH oZ true Tryz.f73 Post))
def aSw (F n r:Nat) (K:zK):zK:=bJ 2 (bJ 1 (aIj F 0 (cS (cS aG7)) (fW (aGP F 0 aG7) (oV 0 0) n r K)))
def aSv (F:Nat) (Post:aB UU->Prop):zK:=bJ 4 (aIj F 0 (cS4 (bo Tryz.f73)) (bH oZ true Tryz.f73 Post))
theorem aRN (F:Nat) (K:zK):∀n r,aH9 F K n r=aDe F (aKj (K (.exit 2))) n
 |0,_=>by kernel_rfl
 |n+1,r=>Eq.trans (b:=(fun t0 t5 t6 bS=>aFy (aH9 F K n (r+1)) (aKj (K (.exit 2))) t0 t5 t6 bS)) (by kernel_rfl) (by rewrite[aRN F K n (r+1)];kernel_rfl)
theorem bE0 (F n r:Nat) (K:zK):aH9 F (aSw F n r K) F 0=aEw F (aCz F K n (r+1)) (aFS (K (.exit 0))):=
 (aRN F _ F 0).trans (by kernel_rfl)
theorem aRM (F:Nat) (K:zK):∀n r,aH8 F K n r=aAv F (aKi (K (.exit 4))) n
 |0,_=>by kernel_rfl
 |n+1,r=>Eq.trans (b:=(fun t8 bS bP=>aFx (aH8 F K n (r+1)) (aKi (K (.exit 4))) t8 bS bP)) (by kernel_rfl) (by rewrite[aRM F K n (r+1)];kernel_rfl)
theorem bEZ (F:Nat) (Post:aB UU->Prop):aH8 F (aSv F Post) F 0=aOS F (fun r0=>Post (.new .seg r0)):=
 (aRM F _ F 0).trans (by kernel_rfl)
theorem aRO (F:Nat) (K:zK):∀n r,aCz F K n r=pE F (aFS (K (.exit 0))) n
 |0,_=>by kernel_rfl
 |n+1,r=>Eq.trans (b:=(fun t0 t5 bS=>aFz (aCz F K n (r+1)) (aFS (K (.exit 0))) t0 t5 bS (aH9 F (aSw F n r K) F 0))) (by kernel_rfl) (by rewrite[bE0 F n r K,aRO F K n (r+1)];kernel_rfl)
theorem bE1 (F:Nat) (Post:aB UU->Prop):aCz F (aSx F Post) F 0=aOT F (fun r0=>Post (.new .seg r0)):=
 (aRO F _ F 0).trans (Eq.trans (b:=pE F (fun t0 t5 bS=>aVC (fun r0=>Post (.new .seg r0)) t0 t5 bS (aH8 F (aSv F Post) F 0)) F) (by kernel_rfl) (by rewrite[bEZ F Post];kernel_rfl))
theorem bHb (F:Nat) (Post:aB UU->Prop) (a0:List Seg):exec oZ Tryz.f73.ntmps oV F 0 (bo Tryz.f73) (cQ [.sl .seg a0]) (bH oZ true Tryz.f73 Post)=aMo F a0 (fun r0=>Post (.new .seg r0)):=
 Eq.trans (b:=aVA a0 (fun r0=>Post (.new .seg r0)) (aCz F (aSx F Post) F 0)) (by kernel_rfl) (by rewrite[bE1 F Post];kernel_rfl)
def aPG:Model UU
 |[.sl .seg a0]=>some ([aJI a0],.new .seg (k9 a0))
 |_=>none
def rM:Cfg UU:=oZ.add 73 aPG
theorem aZT:aX rM:=cM aZ4 mixed Tryz.func73 (by kernel_rfl) (by kernel_rfl) fun xs cs r h hc=>by
 unfold aPG at h;split at h
 ·rename_i a0;cases h;obtain⟨F,hF⟩:=bDA a0 hc;exact⟨by kernel_rfl,oV,F,true,⟨by rw[bHb];exact hF _ rfl⟩⟩
 ·cases h
set_option maxRecDepth 100000
def aLb (F:Nat):=bW (bC qM F 0 rM) rM Tryz.f31.ntmps qM F
def aES (F:Nat):=cO (bC qM F 0 rM) rM Tryz.f31.ntmps qM F
abbrev aW1:=List Opn->Int->Int->Int->Int->ByteArray->ByteArray->Int->Int->Int->Int->List aA->List aA->List aA->List Seg->Prop
def wB (k:ASt UU->Prop):aW1:=(fun t1 t5 t8 t9 t10 aS aR aU aT bB bA aZ bE dI dF=>k ⟨tmL [(1,.sl .op t1),(2,.ptr 2 0),(4,.ptr 4 0),(5,.int .i64 t5),(7,.ptr 7 0),(8,.int .i64 t8),(9,.int .i64 t9),(10,.int .i64 t10)],obL [(132,.row .rect 0 dI),(133,.row .seg 0 dF),(2,.cells [.str aS,.str aR,.int .i64 aU,.int .i64 aT,.int .i64 bB,.int .i64 bA,.sl .rect aZ,.sl .rect bE]),(4,.cells [.nils,.nils]),(7,.cells [.osl 133 0,.osl 132 0])]⟩)
abbrev bL2:=List Opn->Int->Int->ByteArray->ByteArray->Int->Int->Int->Int->List aA->List aA->List aA->List Seg->Prop
def aKQ (k:ASt UU->Prop):bL2:=(fun t1 t5 t10 aS aR aU aT bB bA aZ bE dI dF=>k ⟨tmL [(1,.sl .op t1),(2,.ptr 2 0),(4,.ptr 4 0),(5,.int .i64 t5),(7,.ptr 7 0),(8,.any),(9,.any),(10,.int .i64 t10)],obL [(132,.row .rect 0 dI),(133,.row .seg 0 dF),(2,.cells [.str aS,.str aR,.int .i64 aU,.int .i64 aT,.int .i64 bB,.int .i64 bA,.sl .rect aZ,.sl .rect bE]),(4,.cells [.nils,.nils]),(7,.cells [.osl 133 0,.osl 132 0])]⟩)
abbrev aW0:=List Opn->Int->Int->Int->ByteArray->ByteArray->Int->Int->Int->Int->List aA->List aA->Int->Int->Int->Int->Int->Int->Int->Int->Int->Int->List aA->List Seg->Prop
def aBe (k:ASt UU->Prop):aW0:=(fun t1 t5 t10 t15 aS aR aU aT bB bA aZ bE fD eY eX fC fB fA cY cX cV cU dI dF=>k ⟨tmL [(1,.sl .op t1),(2,.ptr 2 0),(4,.ptr 4 0),(5,.int .i64 t5),(7,.ptr 7 0),(10,.int .i64 t10),(11,.ptr 11 0),(13,.ptr 13 0),(15,.int .i64 t15)],obL [(132,.row .rect 0 dI),(133,.row .seg 0 dF),(2,.cells [.str aS,.str aR,.int .i64 aU,.int .i64 aT,.int .i64 bB,.int .i64 bA,.sl .rect aZ,.sl .rect bE]),(4,.cells [.nils,.nils]),(7,.cells [.osl 133 0,.osl 132 0]),(11,.cells [.int .i64 fD,.int .i64 eY,.int .i64 eX,.int .i64 fC,.int .i64 fB,.int .i64 fA]),(13,.cells [.int .i64 cY,.int .i64 cX,.int .i64 cV,.int .i64 cU])]⟩)
def aAS:=(cL (cB (cS (cF (cS4 (cS (cS (bo Tryz.f31))))))))
def bJ6:=(cL (cB (cS (cF (cS (cS (cT (cS (cF (cS (cS (cS (cB (cF (cS aAS)))))))))))))))
def aCj (F:Nat) (K:zK) (n r:Nat):aW1:=wB fun s=>iter (aLb F 0 aAS) (qM 0 0) n r s K
def aGl (F:Nat) (K:zK) (n r:Nat):aW0:=aBe fun s=>iter (aLb F 2 bJ6) (qM 0 2) n r s K
def aRq (F:Nat) (Post:aB UU->Prop):zK:=bJ 0 (aES F 0 (cS4 (cS (cS (cS (bo Tryz.f31))))) (bH rM false Tryz.f31 Post))
def aRp (F n r:Nat) (K:zK):zK:=bJ 2 (aES F 1 (cS (cS (cS (cT (cS (cF (cS (cS (cS (cB (cF (cS aAS)))))))))))) (aES F 1 (cS4 (cB (cF (cS aAS)))) (bJ 1 (aES F 0 (cS (cS aAS)) (fW (aLb F 0 aAS) (qM 0 0) n r K)))))
theorem aQG (F:Nat) (K:zK):∀n r,aGl F K n r=aAb F (aBe (K .ret)) (aBe (K (.exit 2))) n
 |0,_=>by kernel_rfl
 |n+1,r=>Eq.trans (b:=(fun t1 t5 t10 t15 aS aR aU aT bB bA aZ bE fD eY eX fC fB fA cY cX cV cU dI dF=>aTc (aGl F K n (r+1)) (aBe (K .ret)) (aBe (K (.exit 2))) t1 t5 t10 t15 aS aR aU aT bB bA aZ bE fD eY eX fC fB fA cY cX cV cU dI dF)) (by kernel_rfl) (by rewrite[aQG F K n (r+1)];kernel_rfl)
theorem bDT (F n r:Nat) (K:zK):aGl F (aRp F n r K) F 0=aJ3 F (aCj F K n (r+1)) (wB (K .ret)) (wB (K (.exit 0))) (aKQ (K .ret)):=
 (aQG F _ F 0).trans (by kernel_rfl)
theorem aQH (F:Nat) (K:zK):∀n r,aCj F K n r=uN F (wB (K .ret)) (wB (K (.exit 0))) (aKQ (K .ret)) n
 |0,_=>by kernel_rfl
 |n+1,r=>Eq.trans (b:=(fun t1 t5 t8 t9 t10 aS aR aU aT bB bA aZ bE dI dF=>aF2 (aCj F K n (r+1)) (wB (K .ret)) (wB (K (.exit 0))) (aKQ (K .ret)) t1 t5 t8 t9 t10 aS aR aU aT bB bA aZ bE dI dF (aGl F (aRp F n r K) F 0))) (by kernel_rfl) (by rewrite[bDT F n r K,aQH F K n (r+1)];kernel_rfl)
theorem bDU (F:Nat) (Post:aB UU->Prop):aCj F (aRq F Post) F 0=aNu F (fun nC nB r1=>Post (.tup [.agg [.sl .seg nC,.sl .rect nB],.int .i64 r1])):=
 (aQH F _ F 0).trans (by kernel_rfl)
theorem bHH (F:Nat) (Post:aB UU->Prop) (qa qb:ByteArray) (qc qd qf qg:Int) (qh qi:List aA) (a1:List Opn):exec rM Tryz.f31.ntmps qM F 0 (bo Tryz.f31) (cQ [.agg [.str qa,.str qb,.int .i64 qc,.int .i64 qd,.int .i64 qf,.int .i64 qg,.sl .rect qh,.sl .rect qi],.sl .op a1]) (bH rM false Tryz.f31 Post)=aID F qa qb qc qd qf qg qh qi a1 (fun nC nB r1=>Post (.tup [.agg [.sl .seg nC,.sl .rect nB],.int .i64 r1])):=
 Eq.trans (b:=aKw qa qb qc qd qf qg qh qi a1 (fun nC nB r1=>Post (.tup [.agg [.sl .seg nC,.sl .rect nB],.int .i64 r1])) (aCj F (aRq F Post) F 0)) (by kernel_rfl) (by rewrite[bDU F Post];kernel_rfl)
def aOc:Model UU
 |[.agg [.str qa,.str qb,.int .i64 qc,.int .i64 qd,.int .i64 qf,.int .i64 qg,.sl .rect qh,.sl .rect qi],.sl .op a1]=>some ([aIr qa qb qc qd qf qg qh qi a1],.tup [.agg [.sl .seg ((jS qa qb qc qd qf qg qh qi a1).1),.sl .rect ((jS qa qb qc qd qf qg qh qi a1).2.1)],.int .i64 ((jS qa qb qc qd qf qg qh qi a1).2.2)])
 |_=>none
def aXA:Cfg UU:=rM.add 31 aOc
theorem aYq:aX aXA:=cM aZT mixed Tryz.func31 (by kernel_rfl) (by kernel_rfl) fun xs cs r h hc=>by
 unfold aOc at h;split at h
 ·rename_i qa qb qc qd qf qg qh qi a1;cases h;obtain⟨F,hF⟩:=bC6 qa qb qc qd qf qg qh qi a1 hc;exact⟨by kernel_rfl,qM,F,false,⟨by rw[bHH];exact hF _ rfl⟩⟩
 ·cases h
set_option maxRecDepth 100000
def aPd:Model UU
 |[.agg [.int .i64 a_0,.int .i64 a_1,.int .i64 a_2,.int .i64 a_3],.ref [.int .i64 c_0,.int .i64 c_1,.int .i64 c_2,.int .i64 c_3] 0]=>some ([],.bool (aIY a_0 a_1 a_2 a_3 c_0 c_1 c_2 c_3))
 |_=>none
def rU:Cfg UU:=aXA.add 124 aPd
theorem aZs:aX rU:=tin aYq mixed Tryz.func124 (by kernel_rfl) (by kernel_rfl) false fun xs cs r h=>by
 unfold aPd at h;split at h
 ·cases h;exact⟨by kernel_rfl,by kernel_rfl⟩
 ·cases h
def bIc (F:Nat):=bW (bC zS F 0 rU) rU Tryz.f166.ntmps zS F
def bBN (F:Nat):=cO (bC zS F 0 rU) rU Tryz.f166.ntmps zS F
def aCI (k:ASt UU->Prop):yR:=(fun t0 dS eS eQ eP t4 t7 t8=>k ⟨tmL [(0,.sl .rect t0),(1,.fn 124 [.ref [.int .i64 dS,.int .i64 eS,.int .i64 eQ,.int .i64 eP] 0]),(4,.int .i64 t4),(7,.int .i64 t7),(8,.int .i64 t8)],obL []⟩)
def bK0:=(cL (cB (cS (cF (cS (bo Tryz.f166))))))
def aHf (F:Nat) (K:zK) (n r:Nat):yR:=aCI fun s=>iter (bIc F 0 bK0) (zS 0 0) n r s K
def aTG (F:Nat) (Post:aB UU->Prop):zK:=bJ 0 (bBN F 0 (cS (cS (bo Tryz.f166))) (bH rU false Tryz.f166 Post))
theorem aRX (F:Nat) (K:zK):∀n r,aHf F K n r=aDj F (aCI (K .ret)) (aCI (K (.exit 0))) n
 |0,_=>by kernel_rfl
 |n+1,r=>Eq.trans (b:=aVM (aHf F K n (r+1)) (aCI (K .ret)) (aCI (K (.exit 0)))) (by kernel_rfl) (by rewrite[aRX F K n (r+1)];kernel_rfl)
theorem bEa (F:Nat) (Post:aB UU->Prop):aHf F (aTG F Post) F 0=aEy F (fun r0=>Post (.int .i64 r0)):=
 (aRX F _ F 0).trans (by kernel_rfl)
theorem bHh (F:Nat) (Post:aB UU->Prop) (l:List aA) (c_0 c_1 c_2 c_3:Int):exec rU Tryz.f166.ntmps zS F 0 (bo Tryz.f166) (cQ [.sl .rect l,.fn 124 [.ref [.int .i64 c_0,.int .i64 c_1,.int .i64 c_2,.int .i64 c_3] 0]]) (bH rU false Tryz.f166 Post)=aMr F l c_0 c_1 c_2 c_3 (fun r0=>Post (.int .i64 r0)):=
 Eq.trans (b:=aVN l c_0 c_1 c_2 c_3 (fun r0=>Post (.int .i64 r0)) (aHf F (aTG F Post) F 0)) (by kernel_rfl) (by rewrite[bEa F Post];kernel_rfl)
def aPh:Model UU
 |[.sl .rect l,.fn 124 [.ref [.int .i64 c_0,.int .i64 c_1,.int .i64 c_2,.int .i64 c_3] 0]]=>some ([aE5 l c_0 c_1 c_2 c_3],.int .i64 (aEC l c_0 c_1 c_2 c_3))
 |_=>none
def aX9:Cfg UU:=rU.add 166 aPh
theorem aZx:aX aX9:=cM aZs mixed Tryz.func166 (by kernel_rfl) (by kernel_rfl) fun xs cs r h hc=>by
 unfold aPh at h;split at h
 ·rename_i l c_0 c_1 c_2 c_3;cases h;obtain⟨F,hF⟩:=bDF l c_0 c_1 c_2 c_3 hc;exact⟨by kernel_rfl,zS,F,false,⟨by rw[bHh];exact hF _ rfl⟩⟩
 ·cases h
set_option maxRecDepth 100000
def aPt:Model UU
 |[.sl .rect l,.fn 124 [.ref [.int .i64 c_0,.int .i64 c_1,.int .i64 c_2,.int .i64 c_3] 0]]=>some ([aBY l c_0 c_1 c_2 c_3],.bool (o7 l c_0 c_1 c_2 c_3))
 |_=>none
def aXi:Cfg UU:=aX9.add 115 aPt
theorem bAL:aX aXi:=cM aZx mixed Tryz.func115 (by kernel_rfl) (by kernel_rfl) fun xs cs r h hc=>by
 unfold aPt at h;split at h
 ·rename_i l c_0 c_1 c_2 c_3;cases h;refine⟨by kernel_rfl,M0,0,false,⟨nH (fun Q:Bool->Prop=>((aE5 l c_0 c_1 c_2 c_3)/\Q (decide (0<=(aEC l c_0 c_1 c_2 c_3))))) (fun Q=>Q (o7 l c_0 c_1 c_2 c_3)) (fun r0=>(.bool r0:aB UU)=.bool (o7 l c_0 c_1 c_2 c_3)) (by kernel_rfl) (fun Q h=>?_) rfl⟩⟩
  try dsimp only at h ⊢
  unfold o7 at h;have hp:aBY l c_0 c_1 c_2 c_3:=hc;unfold aBY at hp;have jO:=hp;refine⟨jO,?_⟩;exact h
 ·cases h
def aPr:Model UU
 |[.agg [.int .i64 aE,.int .i64 aD,.int .i64 aG,.int .i64 aF],.sl .rect a1]=>some ([u4 aE aD aG aF a1],.bool (oE aE aD aG aF a1))
 |_=>none
def rX:Cfg UU:=aXi.add 58 aPr
theorem bAI:aX rX:=cM bAL mixed Tryz.func58 (by kernel_rfl) (by kernel_rfl) fun xs cs r h hc=>by
 unfold aPr at h;split at h
 ·rename_i aE aD aG aF a1;cases h;refine⟨by kernel_rfl,M0,0,false,⟨nH (fun Q:Bool->Prop=>((aBY a1 aE aD aG aF)/\Q (o7 a1 aE aD aG aF))) (fun Q=>Q (oE aE aD aG aF a1)) (fun r0=>(.bool r0:aB UU)=.bool (oE aE aD aG aF a1)) (by kernel_rfl) (fun Q h=>?_) rfl⟩⟩
  try dsimp only at h ⊢
  unfold oE at h;have hp:u4 aE aD aG aF a1:=hc;unfold u4 at hp;have jO:=hp;refine⟨jO,?_⟩;exact h
 ·cases h
set_option maxRecDepth 100000
def bI0 (F:Nat):=bW (bC zF F 0 rX) rX Tryz.f123.ntmps zF F
def bBB (F:Nat):=cO (bC zF F 0 rX) rX Tryz.f123.ntmps zF F
def aKc (k:ASt UU->Prop):yF:=(fun t1 t2 t13 t14 dU=>k ⟨tmL [(1,.int .i64 t1),(2,.int .i64 t2),(7,.osl 67 0),(13,.int .i64 t13),(14,.int .i64 t14)],obL [(67,.row .rect 0 dU)]⟩)
def bKH:=(cL (cB (cS (cF (cS (cS (bo Tryz.f123)))))))
def aHW (F:Nat) (K:zK) (n r:Nat):yF:=aKc fun s=>iter (bI0 F 0 bKH) (zF 0 0) n r s K
def aSi (F:Nat) (Post:aB UU->Prop):zK:=bJ 0 (bBB F 0 (cS (cS (cS (bo Tryz.f123)))) (bH rX true Tryz.f123 Post))
theorem aQz (F:Nat) (K:zK):∀n r,aHW F K n r=aD5 F (aKc (K (.exit 0))) n
 |0,_=>by kernel_rfl
 |n+1,r=>Eq.trans (b:=aUc (aHW F K n (r+1)) (aKc (K (.exit 0)))) (by kernel_rfl) (by rewrite[aQz F K n (r+1)];kernel_rfl)
theorem bEM (F:Nat) (Post:aB UU->Prop):aHW F (aSi F Post) F 0=aEq F (fun r0=>Post (.new .rect r0)):=
 (aQz F _ F 0).trans (by kernel_rfl)
theorem bH0 (F:Nat) (Post:aB UU->Prop) (a0:List aA) (a1 a2:Int):exec rX Tryz.f123.ntmps zF F 0 (bo Tryz.f123) (cQ [.sl .rect a0,.int .i64 a1,.int .i64 a2]) (bH rX true Tryz.f123 Post)=aMd F a0 a1 a2 (fun r0=>Post (.new .rect r0)):=
 Eq.trans (b:=aUd a0 a1 a2 (fun r0=>Post (.new .rect r0)) (aHW F (aSi F Post) F 0)) (by kernel_rfl) (by rewrite[bEM F Post];kernel_rfl)
def aOv:Model UU
 |[.sl .rect a0,.int .i64 a1,.int .i64 a2]=>some ([aBT a0 a1 a2],.new .rect (sN a0 a1 a2))
 |_=>none
def rF:Cfg UU:=rX.add 123 aOv
theorem aZJ:aX rF:=cM bAI mixed Tryz.func123 (by kernel_rfl) (by kernel_rfl) fun xs cs r h hc=>by
 unfold aOv at h;split at h
 ·rename_i a0 a1 a2;cases h;obtain⟨F,hF⟩:=bCp a0 a1 a2 hc;exact⟨by kernel_rfl,zF,F,true,⟨by rw[bH0];exact hF _ rfl⟩⟩
 ·cases h
set_option maxRecDepth 100000
def bIS (F:Nat):=bW (bC yY F 0 rF) rF Tryz.f214.ntmps yY F
def bAu (F:Nat):=cO (bC yY F 0 rF) rF Tryz.f214.ntmps yY F
def aBf (k:ASt UU->Prop):xS:=(fun t4 t7 t8 t9 aS aR aU aT=>k ⟨tmL [(2,.ptr 2 0),(4,.bool t4),(7,.sl .rect t7),(8,.int .i64 t8),(9,.int .i64 t9)],obL [(2,.cells [.int .i64 aS,.int .i64 aR,.int .i64 aU,.int .i64 aT])]⟩)
def bJ7:=(cL (cB (cS (cF (cS (bo Tryz.f214))))))
def aGm (F:Nat) (K:zK) (n r:Nat):xS:=aBf fun s=>iter (bIS F 0 bJ7) (yY 0 0) n r s K
def aRr (F:Nat) (Post:aB UU->Prop):zK:=bJ 0 (bAu F 0 (cS (cS (bo Tryz.f214))) (bH rF false Tryz.f214 Post))
theorem aQI (F:Nat) (K:zK):∀n r,aGm F K n r=aDT F (aBf (K .ret)) (aBf (K (.exit 0))) n
 |0,_=>by kernel_rfl
 |n+1,r=>Eq.trans (b:=aTe (aGm F K n (r+1)) (aBf (K .ret)) (aBf (K (.exit 0)))) (by kernel_rfl) (by rewrite[aQI F K n (r+1)];kernel_rfl)
theorem bDV (F:Nat) (Post:aB UU->Prop):aGm F (aRr F Post) F 0=aEj F (fun r0=>Post (.bool r0)):=
 (aQI F _ F 0).trans (by kernel_rfl)
theorem bHI (F:Nat) (Post:aB UU->Prop) (aE aD aG aF:Int) (a1:List aA):exec rF Tryz.f214.ntmps yY F 0 (bo Tryz.f214) (cQ [.agg [.int .i64 aE,.int .i64 aD,.int .i64 aG,.int .i64 aF],.sl .rect a1]) (bH rF false Tryz.f214 Post)=aM3 F aE aD aG aF a1 (fun r0=>Post (.bool r0)):=
 Eq.trans (b:=aTf aE aD aG aF a1 (fun r0=>Post (.bool r0)) (aGm F (aRr F Post) F 0)) (by kernel_rfl) (by rewrite[bDV F Post];kernel_rfl)
def aOd:Model UU
 |[.agg [.int .i64 aE,.int .i64 aD,.int .i64 aG,.int .i64 aF],.sl .rect a1]=>some ([aIs aE aD aG aF a1],.bool (sI aE aD aG aF a1))
 |_=>none
def oX:Cfg UU:=rF.add 214 aOd
theorem aYr:aX oX:=cM aZJ mixed Tryz.func214 (by kernel_rfl) (by kernel_rfl) fun xs cs r h hc=>by
 unfold aOd at h;split at h
 ·rename_i aE aD aG aF a1;cases h;obtain⟨F,hF⟩:=bC7 aE aD aG aF a1 hc;exact⟨by kernel_rfl,yY,F,false,⟨by rw[bHI];exact hF _ rfl⟩⟩
 ·cases h
set_option maxRecDepth 100000
def aGO (F:Nat):=bW (bC oU F 0 oX) oX Tryz.f175.ntmps oU F
def aIi (F:Nat):=cO (bC oU F 0 oX) oX Tryz.f175.ntmps oU F
def aCC (k:ASt UU->Prop):yM:=(fun t2 t17 t18 aQ aP aO aN aH aK aL dK=>k ⟨tmL [(1,.ptr 1 0),(2,.int .i64 t2),(3,.osl 12 1),(16,.osl 12 1),(17,.int .i64 t17),(18,.int .i64 t18)],obL [(1,.cells [.str aQ,.str aP,.int .i64 aO,.int .i64 aN,.sl .rect aH,.sl .rect aK,.sl .rect aL]),(12,.row .rect 1 dK)]⟩)
def wJ (k:ASt UU->Prop):uE:=(fun t2 t47 t48 dK=>k ⟨tmL [(2,.int .i64 t2),(3,.osl 12 1),(46,.osl 12 1),(47,.int .i64 t47),(48,.int .i64 t48)],obL [(12,.row .rect 1 dK)]⟩)
def aCB (k:ASt UU->Prop):yL:=(fun t2 t47 t48 t55 t56 t57 cN cI dO dN dK=>k ⟨tmL [(2,.int .i64 t2),(3,.osl 12 1),(7,.ptr 7 0),(46,.osl 12 1),(47,.int .i64 t47),(48,.int .i64 t48),(55,.ovw 12 1 0 t55 4),(56,.int .i64 t56),(57,.int .i64 t57)],obL [(7,.cells [.int .i64 cN,.int .i64 cI,.int .i64 dO,.int .i64 dN]),(12,.row .rect 1 dK)]⟩)
def bKS:=(cL (cB (cS (cF (cS (cS (bo Tryz.f175)))))))
def aG6:=(cL (cB (cS (cF (cS (cS (cS (bo Tryz.f175))))))))
def bKR:=(cL (cB (cS (cS (cB (cF (cS (cS aG6))))))))
def aH7 (F:Nat) (K:zK) (n r:Nat):yM:=aCC fun s=>iter (aGO F 0 bKS) (oU 0 0) n r s K
def aCy (F:Nat) (K:zK) (n r:Nat):uE:=wJ fun s=>iter (aGO F 2 aG6) (oU 0 2) n r s K
def aH6 (F:Nat) (K:zK) (n r:Nat):yL:=aCB fun s=>iter (aGO F 4 bKR) (oU 0 4) n r s K
def aSu (F:Nat) (Post:aB UU->Prop):zK:=bJ 0 (aIi F 0 (cS (cS (cS (bo Tryz.f175)))) (bH oX false Tryz.f175 Post))
def aSt (F:Nat) (Post:aB UU->Prop):zK:=bJ 2 (aIi F 0 (cS4 (bo Tryz.f175)) (bH oX false Tryz.f175 Post))
def aSs (F n r:Nat) (K:zK):zK:=bJ 4 (bJ 3 (aIi F 2 (cS (cS (cS aG6))) (fW (aGO F 2 aG6) (oU 0 2) n r K)))
theorem aRJ (F:Nat) (K:zK):∀n r,aH6 F K n r=aDd F (aCB (K .ret)) (aCB (K (.exit 4))) n
 |0,_=>by kernel_rfl
 |n+1,r=>Eq.trans (b:=aUw (aH6 F K n (r+1)) (aCB (K .ret)) (aCB (K (.exit 4)))) (by kernel_rfl) (by rewrite[aRJ F K n (r+1)];kernel_rfl)
theorem bEW (F n r:Nat) (K:zK):aH6 F (aSs F n r K) F 0=aJr F (aCy F K n (r+1)) (wJ (K (.exit 2))) (wJ (K .ret)):=
 (aRJ F _ F 0).trans (by kernel_rfl)
theorem aRK (F:Nat) (K:zK):∀n r,aCy F K n r=uW F (wJ (K (.exit 2))) (wJ (K .ret)) n
 |0,_=>by kernel_rfl
 |n+1,r=>Eq.trans (b:=aUx (aCy F K n (r+1)) (wJ (K (.exit 2))) (wJ (K .ret)) (aH6 F (aSs F n r K) F 0)) (by kernel_rfl) (by rewrite[bEW F n r K,aRK F K n (r+1)];kernel_rfl)
theorem bEX (F:Nat) (Post:aB UU->Prop):aCy F (aSt F Post) F 0=aB6 F (fun r0=>Post (.int .i64 r0)):=
 (aRK F _ F 0).trans (by kernel_rfl)
theorem aRL (F:Nat) (K:zK):∀n r,aH7 F K n r=aAu F (aCC (K .ret)) (aCC (K (.exit 0))) n
 |0,_=>by kernel_rfl
 |n+1,r=>Eq.trans (b:=aUy (aH7 F K n (r+1)) (aCC (K .ret)) (aCC (K (.exit 0)))) (by kernel_rfl) (by rewrite[aRL F K n (r+1)];kernel_rfl)
theorem bEY (F:Nat) (Post:aB UU->Prop):aH7 F (aSu F Post) F 0=aEv F (fun r0=>Post (.int .i64 r0)):=
 (aRL F _ F 0).trans (Eq.trans (b:=aAu F (aLT (fun r0=>Post (.int .i64 r0))) (aLS (fun r0=>Post (.int .i64 r0)) (aCy F (aSt F Post) F 0)) F) (by kernel_rfl) (by rewrite[bEX F Post];kernel_rfl))
theorem bHa (F:Nat) (Post:aB UU->Prop) (qa qb:ByteArray) (qc qd:Int) (qe qj qk:List aA):exec oX Tryz.f175.ntmps oU F 0 (bo Tryz.f175) (cQ [.agg [.str qa,.str qb,.int .i64 qc,.int .i64 qd,.sl .rect qe,.sl .rect qj,.sl .rect qk]]) (bH oX false Tryz.f175 Post)=aMn F qa qb qc qd qe qj qk (fun r0=>Post (.int .i64 r0)):=
 Eq.trans (b:=aUz qa qb qc qd qe qj qk (fun r0=>Post (.int .i64 r0)) (aH7 F (aSu F Post) F 0)) (by kernel_rfl) (by rewrite[bEY F Post];kernel_rfl)
def aPF:Model UU
 |[.agg [.str qa,.str qb,.int .i64 qc,.int .i64 qd,.sl .rect qe,.sl .rect qj,.sl .rect qk]]=>some ([aJH qa qb qc qd qe qj qk],.int .i64 (aDw qa qb qc qd qe qj qk))
 |_=>none
def fJ:Cfg UU:=oX.add 175 aPF
theorem aNR:aX fJ:=cM aYr mixed Tryz.func175 (by kernel_rfl) (by kernel_rfl) fun xs cs r h hc=>by
 unfold aPF at h;split at h
 ·rename_i qa qb qc qd qe qj qk;cases h;obtain⟨F,hF⟩:=bCz qa qb qc qd qe qj qk hc;exact⟨by kernel_rfl,oU,F,false,⟨by rw[bHa];exact hF _ rfl⟩⟩
 ·cases h
end
end Go.Proofs.YtjjbojomlfgjlaaGreatDoor
namespace Go.Vm
open Go.RowKit
set_option linter.unusedVariables false
section
variable {U:dH} {E:Enc U} {n:Nat} {N N':Nat->Prop} {w0 F':Fr} {w w':World} {ρ ρ':Own} {s s':ASt U} {a a':Act} {C:Cfg U}
theorem RR.anchor (h:RR E n N w0 ρ s a w) (e0:F'.w0=w0.w0) (e1:∀id p,F'.pin id=some p->(∃ob,s.objs id=some ob)/\ρ (.ob id)=some p) (e2:F'.hv=w0.hv) (e3:a'.defers=F'.ds) (ea:a'.tmps=a.tmps) (e4:F'.we=w')
  (hN:∀b,N' b->b<w0.w0.heap.size\/F'.K b) (hst:∀b,aM N ρ w b->¬N' b) (hfree:∀nm g u b,ρ nm=some (g,u)->blk u=some b->¬F'.K b) (hown:∀nm g u b,ρ nm=some (g,u)->blk u=some b->¬N' b)
  (hsame:∀b,b<w.heap.size->¬N' b->w'.heap[b]?=w.heap[b]?) (hb:Below w0.w0.heap.size w0.w0 w') (hsz:w.heap.size<=w'.heap.size):RR E n N' F' ρ s a' w':=by
 have hstab:∀b,aM N ρ w b->aM N' ρ w' b/\w'.heap[b]?=w.heap[b]?:=fun b hs=>⟨⟨Nat.lt_of_lt_of_le hs.1 hsz,hst b hs,hs.2.2⟩,hsame b hs.1 (hst b hs)⟩
 have hva:∀t,a'.iA F' t=a.iA w0 t:=fun t=>by
  unfold Act.iA;rw[e2,ea]
 have hh:F'.heap=w0.w0.heap:=by
  unfold Fr.heap;rw[e0]
 refine⟨e3,by rw[ea];exact h.size,fun t=>by rw[hva];exact(h.tmps t).mono hstab (fun _ _ _ hr=>.inl hr),fun id ob ho=>?_,h.dom,h.sep,by rw[hh,e0];exact hb,fun b hb'=>by rw[hh];exact hN b hb',⟨by rw[e4];exact Nat.le_refl _,fun b hk=>by rw[e4]⟩,hfree,e1,h.nle⟩;have:=(h.objs id ob ho).mono hstab (fun _ _ _ hr=>.inl hr) (fun _ _=>rfl) (fun nm g u b _ hr hbl=>hsame b ((h.own hr).2 b hbl).2 (hown nm g u b hr hbl));rw[hh];exact this
theorem RR.forget (h:RR E n N w0 ρ s a w) (ho:s'.objs=s.objs) (ha:a'.defers=a.defers) (hz:a'.tmps.size=a.tmps.size) (ht:∀t,Rel E w ρ (aM N ρ w) (s'.tmps t) (a'.iA w0 t)):RR E n N w0 ρ s' a' w:=
 ⟨ha.trans h.defers,hz.trans h.size,ht,fun id ob h'=>h.objs id ob (by rw[<- ho];exact h'),fun nm g u hr=>by obtain⟨ob,h1,h2⟩:=h.dom nm g u hr;exact⟨ob,by rw[ho];exact h1,h2⟩,h.sep,h.below,h.nlt,h.kept,h.free,fun id p hp=>by rw[ho];exact h.pin id p hp,h.nle⟩
theorem RR.less (h:RR E n N w0 ρ s a w) (ho:s'.objs=s.objs) (ht:∀t,s'.tmps t=.any\/s'.tmps t=s.tmps t):RR E n N w0 ρ s' a w:=
 h.forget ho rfl rfl fun t=>by
  rcases ht t with e|e
  ·rw[e];exact .any _
  ·rw[e];exact h.tmps t
theorem RR.bBa (h:RR E n N w0 ρ s a w) {d:Nat} (hd:d<n) (ht:s.tmps d=.any) (u:Value):RR E n N w0 ρ s (a.put (some d) u) w:=by
 refine h.forget rfl rfl (by simp[Act.put]) fun t=>?_
 by_cases e:t=d
 ·subst e;rw[ht];exact .any _
 ·have hv:(a.put (some d) u).iA w0 t=a.iA w0 t:=by
   unfold Act.iA;simp only[Act.put];rw[aCS a.tmps d u (by rw[h.size];exact hd) t,if_neg e]
  rw[hv];exact h.tmps t
theorem RR.bB7 (h:RR E n N w0 ρ s a w) {d:Nat} (hd:d<n) {u:Value} {x:aB U} (hx:Rel E w ρ (aM N ρ w) x u) (ho:s'.objs=s.objs) (hed:s'.tmps d=x) (he:∀t,t≠d->s'.tmps t=s.tmps t):RR E n N w0 ρ s' (a.put (some d) u) w:=by
 refine h.forget ho rfl (by simp[Act.put]) fun t=>?_
 by_cases e:t=d
 ·subst e;rw[hed];have hv:(a.put (some t) u).iA w0 t=u:=by
   rw[j3 (Nat.lt_of_lt_of_le hd h.nle)];simp only[Act.put];rw[aCS a.tmps t u (by rw[h.size];exact hd) t,if_pos rfl]
  rw[hv];exact hx
 ·have hv:(a.put (some d) u).iA w0 t=a.iA w0 t:=by
   unfold Act.iA;simp only[Act.put];rw[aCS a.tmps d u (by rw[h.size];exact hd) t,if_neg e]
  rw[hv,he t e];exact h.tmps t
def FrA (w0 W:World) (Kp:Nat->Prop) (hlt:∀b,Kp b->b<W.heap.size) (hle:w0.heap.size<=W.heap.size) (pn:Nat->Option (Nat×Value)) (hp:∀id p,pn id=some p->∃a,p.2=.pointer a) (ds:List Deferred):Fr:=
 {w0:=w0,we:=W,K:=Kp,lt:=hlt,le:=hle,pin:=pn,pinp:=hp,ds:=ds}
end
end Go.Vm
namespace Go.Proofs.YtjjbojomlfgjlaaGreatDoor
open Go.Vm Go.RowKit
set_option linter.unusedVariables false
set_option maxRecDepth 100000
noncomputable section
def bCX:Oper:={dst:=none,op:=.move (.tmp 0),type:=0,pos:= "",after:=#[],guard:=none}
def opn (c:Code) (i:Nat):Oper:=(cR c).toList.getD i bCX
theorem aXt {o:Oper} {f:Nat->Option Bool} (h:o.guard=none):Region.wanted o f=true:=by
 unfold Region.wanted;rw[h]
variable {P:Program} {a a':Act} {w w':World} {ops:Array Oper} {Q:Exit->Act->World->Prop} {K:Act->World->Prop} {rest:List Oper} {o:Oper}
theorem jH {u:Value} {d:Nat} (hg:o.guard=none) (hd:o.dst=some d) (hr:(execOp a.eval o).run P w=.ok (.value u) w') (h:wpl P ops Q rest K (a.put (some d) u) w'):wpl P ops Q (o::rest) K a w:=by
 unfold wpl;rw[if_pos (aXt hg)];exact hJ hr (by rw[hd];exact h)
theorem aGL {x:Operand} (ho:o.op=.assign x):(execOp a.eval o).run P w=.ok (.value (a.eval x)) w:=by
 unfold execOp;rw[ho];rfl
theorem aN3 {d t:Nat} {u:Value} (hd:d<a.tmps.size):(a.put (some d) u).tmps.getD t undef=if t=d then u else a.tmps.getD t undef:=by
 simp only[Act.put];exact aCS a.tmps d u hd t
section
variable {P:Program} {a:Act} {w:World} {o:Oper} {x y:Operand} {t t' e:TypeId} {i:TypeInfo} {n c:Nat}
theorem aC2 (ho:o.op=.move x):(execOp a.eval o).run P w=.ok (.value (a.eval x)) w:=by
 unfold execOp;rw[ho];rfl
theorem bHm {ad:Option Addr} (ho:o.op=.call {callee:=.builtin .len,args:=#[x],argTypes:=#[t]}) (hx:a.eval x=.slice ad n c) (hu:P.underlying t=some (.slice e)):(execOp a.eval o).run P w=.ok (.value (.int .i64 n)) w:=by
 unfold execOp;rw[ho];simp[resolve,invoke,builtin,hx,Builtin.len_,run_underlying hu,goInt]
theorem bHo {n m:Int} (ho:o.op=.binOp .gtr t x y t') (hx:a.eval x=.int .i64 n) (hy:a.eval y=.int .i64 m):(execOp a.eval o).run P w=.ok (.value (.bool (decide (m<n)))) w:=by
 unfold execOp;rw[ho];simp[hx,hy,eqGuard,binOp,Op.intCmp]
theorem aWU (ad:Addr):ad.add 0=ad:=by
 unfold Addr.add;split
 ·rfl
 ·rename_i h;exact absurd rfl h
theorem bHn {ad:Addr} (ho:o.op=.indexAddr t x y) (hx:a.eval x=.slice (some ad) n c) (hy:a.eval y=.int .i64 0) (hn:0<n) (hu:P.underlying t=some (.slice e)) (hi:P.info? e=some i):(execOp a.eval o).run P w=.ok (.value (.pointer (some ad))) w:=by
 unfold execOp;rw[ho];simp[hx,hy,Instr.indexAt,run_underlying hu,sizeOf,typeInfo,hi,asIntOf,hn,aWU]
theorem bHl {ad:Addr} {k:Int} (ho:o.op=.load t x) (hx:a.eval x=.pointer (some ad)) (hu:P.underlying t=some (.int .i64)) (hc:w.cell? ad=some (.int .i64 k)):(execOp a.eval o).run P w=.ok (.value (.int .i64 k)) w:=by
 have hagg:(isAgg t).run P w=.ok false w:=by simp[isAgg,run_underlying hu]
 unfold execOp;rw[ho];simp only[hx,Instr.loadAt,Instr.sureAddr,Sem.run_bind,Sem.run_pure,Result.andThen_ok,loadVar,hagg,Bool.false_eq_true,if_false,run_load,hc]
theorem bHk {b q:Nat} (ho:o.op=.slice t x (some y) none none) (hx:a.eval x=.slice (some ⟨b,q,none⟩) n c) (hy:a.eval y=.int .i64 1) (hn:1<=n) (hu:P.underlying t=some (.slice (P.elem t))) (hi:P.info? (P.elem t)=some i) (h1:i.size=1):
  (execOp a.eval o).run P w=.ok (.value (.slice (some ⟨b,if c=1 then q else q+1,none⟩) (n-1) (c-1))) w:=by
 unfold execOp;rw[ho];simp only[hx,hy,Option.map_some,Option.map_none,run_sliceAt_slice w t _ _ _ _ hu,Sem.run_bind];rw[run_slice_l w t _ n c hu .i64 1 (by omega) (by omega)];simp only[sizeOf,typeInfo,Sem.run_bind,run_program,hi,Sem.run_pure,Result.andThen_ok,sliced,h1]
 by_cases hc:c=1
 ·simp[hc]
 ·simp[hc,Addr.add]
theorem bA1 (k:Int) (w:World):(Instr.buildSlice 45 1 #[(0,.int .i64 k)]).run Tryz.prog w=.ok (.slice (some ⟨w.heap.size,0,none⟩) 1 1) (w.alloc (.cells #[.int .i64 k] 3)):=by
 obtain⟨i0,hi,qB,lR,tI⟩:=info_parts (P:=Tryz.prog) (e:=3) (z:=.int .i64 0) (size:=1) (bytes:=8) (by kernel_rfl);simp[Instr.buildSlice,run_underlying Tryz.underlying45,sizeOf,typeInfo,hi,lR,zeroValue,qB,Instr.fill,newRow,Value.cells];have e:∀f:Nat->Value,(Array.map f (Array.range 1)).setIfInBounds 0 (.int .i64 k)=#[.int .i64 k]:=fun f=>by
  refine Array.ext (by simp) fun j h1 h2=>?_
  obtain rfl:j=0:=by
   have:j<1:=h2;omega
  simp
 rw[e]
theorem aV8 {k:Int} (ho:o.op=.buildSlice 45 1 #[(0,x)]) (hx:a.eval x=.int .i64 k):(execOp a.eval o).run Tryz.prog w=.ok (.value (.slice (some ⟨w.heap.size,0,none⟩) 1 1)) (w.alloc (.cells #[.int .i64 k] 3)):=by
 unfold execOp;rw[ho];have:=bA1 k w;simp only[List.map_toArray,List.map_cons,List.map_nil,hx,Sem.run_bind,this,Result.andThen_ok,Sem.run_pure]
def QB (w:World) (v:Value) (b:Nat) (xs:zzI):Prop:=∃q cap cur,v=.slice (some ⟨b,q,none⟩) xs.length cap/\w.heap[b]?=some (.cells cur 3 (0,0))/\xs.length<=cap/\q+cap<=cur.size/\∀j (h:j<xs.length),cur[q+j]?=some (.int .i64 xs[j])
theorem QB.lt {v:Value} {b:Nat} {xs:zzI} (h:QB w v b xs):b<w.heap.size:=by
 obtain⟨q,cap,cur,_,h2,_⟩:=h;exact(Array.getElem?_eq_some_iff.1 h2).1
theorem QB.same {v:Value} {b:Nat} {xs:zzI} (h:QB w v b xs) {w':World} (hw:w'.heap[b]?=w.heap[b]?):QB w' v b xs:=by
 obtain⟨q,cap,cur,h1,h2,h3⟩:=h;exact⟨q,cap,cur,h1,hw.trans h2,h3⟩
theorem QB.one (k:Int) (w:World):QB (w.alloc (.cells #[.int .i64 k] 3)) (.slice (some ⟨w.heap.size,0,none⟩) 1 1) w.heap.size [k]:=
 ⟨0,1,_,rfl,heap_alloc_new w _,by simp,by simp,fun j h=>by
  obtain rfl:j=0:=by
   have:j<1:=h;omega
  simp⟩
theorem QB.tail {b q cap:Nat} {k:Int} {xs:zzI} (h:QB w (.slice (some ⟨b,q,none⟩) (k::xs).length cap) b (k::xs)):QB w (.slice (some ⟨b,if cap=1 then q else q+1,none⟩) xs.length (cap-1)) b xs:=by
 obtain⟨q',cap',cur,h1,h2,h3,h4,h5⟩:=h;simp only[Value.slice.injEq,Option.some.injEq,Addr.mk.injEq,and_true,true_and] at h1;obtain⟨rfl,rfl⟩:=h1;rw[List.length_cons] at h3;refine⟨_,_,cur,rfl,h2,by omega,?_,fun j hj=>?_⟩
 ·split<;>omega
 ·have:=h5 (j+1) (by rw[List.length_cons];omega);rw[if_neg (by omega),Nat.add_assoc,Nat.add_comm 1 j];simpa using this
theorem QB.append {v:Value} {b:Nat} {xs:zzI} {k:Int} {c:Nat} {bx:Nat} (h:QB w v b xs) (hx:w.heap[bx]?=some (.cells #[.int .i64 k] 3 (0,0))) (hlen:xs.length<=1000) (ty:TypeId):
  ∃v' w' b',(Builtin.append_ #[45,45] ty #[v,.slice (some ⟨bx,0,none⟩) 1 c]).run Tryz.prog w=.ok v' w'/\QB w' v' b' (xs++[k])/\(b'=b\/w.heap.size<=b')/\(∀j,j<w.heap.size->j≠b'->w'.heap[j]?=w.heap[j]?)/\w.heap.size<=w'.heap.size/\w'.os=w.os/\w'.tape=w.tape/\w'.output=w.output:=by
 obtain⟨i0,hi,qB,lR,tI⟩:=info_parts (P:=Tryz.prog) (e:=3) (z:=.int .i64 0) (size:=1) (bytes:=8) (by kernel_rfl);obtain⟨q,cap,cur,rfl,h2,h3,h4,h5⟩:=h;have hnews:∀(j:Nat) (u:Value),[Value.int .i64 k][j]?=some u->w.cell? ((⟨bx,0,none⟩:Addr).add j)=some u:=fun j u hj=>by
  obtain rfl:j=0:=by
   have:=(List.getElem?_eq_some_iff.1 hj).1;have:j<1:=this;omega
  rw[aWU,cell_of_row w bx 0 _ _ _ hx];simpa using hj
 by_cases hr:xs.length+1<=cap
 ·have hf:=run_firstCells_some (P:=Tryz.prog) w i0.size 1 ⟨bx,0,none⟩ 1 c [.int .i64 k] (by rw[lR];rfl) hnews;have hst:=run_storeCells_at Tryz.prog b (q+xs.length) 3 [.int .i64 k] 0 cur w h2 (by simp;omega) (by simp[Value.oneCell']);simp only[Nat.add_zero] at hst;refine⟨.slice (some ⟨b,q,none⟩) (xs.length+1) cap,w.setRow b (cur.toList.take (q+xs.length)++[Value.int .i64 k]++cur.toList.drop (q+xs.length+1)).toArray,b,?_,⟨q,cap,(cur.toList.take (q+xs.length)++[Value.int .i64 k]++cur.toList.drop (q+xs.length+1)).toArray,by simp,setRow_heap w b cur _ 3 _ h2,by simp;omega,?_,fun j hj=>?_⟩,.inl rfl,fun j _ hj=>setRow_other w b j _ hj,by simp,rfl,rfl,rfl⟩
  ·rw[lR] at hf;simp[Builtin.append_,run_underlying Tryz.underlying45,sizeOf,typeInfo,hi,lR,Builtin.lenOf,hr,hf,Addr.add_lit,hst]
  ·simp only[List.size_toArray,List.length_append,List.length_take,List.length_drop,Array.length_toList,List.length_cons,List.length_nil];omega
  ·rw[List.length_append] at hj;have hj':j<xs.length+1:=hj;have hcl:cur.toList.length=cur.size:=Array.length_toList;have hl:(cur.toList.take (q+xs.length)).length=q+xs.length:=by rw[List.length_take,hcl];omega
   rw[List.getElem?_toArray,List.append_assoc]
   by_cases hjx:j<xs.length
   ·rw[List.getElem?_append_left (by omega),List.getElem?_take,if_pos (by omega),Array.getElem?_toList,h5 j hjx,List.getElem_append_left hjx]
   ·obtain rfl:j=xs.length:=by omega
    rw[List.getElem?_append_right (by omega),hl,Nat.sub_self];simp
 ·have holds:∀(j:Nat) (u:Value),(xs.map (Value.int .i64))[j]?=some u->w.cell? ((⟨b,q,none⟩:Addr).add j)=some u:=fun j u hj=>by
   have hjl:j<xs.length:=by simpa using (List.getElem?_eq_some_iff.1 hj).1
   rw[Addr.add_lit,cell_of_row w b (q+j) cur 3 (0,0) h2,h5 j hjl,<- hj];simp[hjl]
  have hg:=run_append_grow (P:=Tryz.prog) w 45 ty 3 i0 (.int .i64 0) Tryz.underlying45 hi qB ⟨b,q,none⟩ xs.length cap (xs.map (Value.int .i64)) (by rw[lR];simp) holds ⟨bx,0,none⟩ 1 c [.int .i64 k] (by rw[lR];rfl) hnews (by omega) (by omega) (by rw[tI];exact growslice_fits (by omega) (by omega));have hcap:=grownCap_ge w (xs.length+1) cap 3;refine⟨_,_,w.heap.size,hg,⟨0,_,_,by rw[List.length_append];rfl,heap_alloc_new w.drew _,by rw[List.length_append];exact hcap,?_,fun j hj=>?_⟩,.inr (Nat.le_refl _),fun j hj hne=>heap_alloc_old w.drew _ hj,by simp,rfl,rfl,rfl⟩
  ·simp[size_zeroCells,Value.cells];omega
  ·rw[List.length_append] at hj;have hj':j<xs.length+1:=hj;rw[Nat.zero_add]
   by_cases hjx:j<xs.length
   ·rw[List.getElem_append_left hjx];rw[Array.getElem?_append_left (by simp;omega),Array.getElem?_append_left (by simp;omega)];simp[hjx]
   ·obtain rfl:j=xs.length:=by omega
    simp[Array.getElem?_append]
theorem bHp {v:Value} {b:Nat} {xs:zzI} {k:Int} {bx:Nat} (ho:o.op=.call {callee:=.builtin .append,args:=#[x,y],argTypes:=#[45,45]}) (hx:a.eval x=v) (hy:a.eval y=.slice (some ⟨bx,0,none⟩) 1 1) (h:QB w v b xs) (hb:w.heap[bx]?=some (.cells #[.int .i64 k] 3 (0,0))) (hlen:xs.length<=1000):
  ∃v' w' b',(execOp a.eval o).run Tryz.prog w=.ok (.value v') w'/\QB w' v' b' (xs++[k])/\(b'=b\/w.heap.size<=b')/\(∀j,j<w.heap.size->j≠b'->w'.heap[j]?=w.heap[j]?)/\w.heap.size<=w'.heap.size/\w'.os=w.os/\w'.tape=w.tape/\w'.output=w.output:=by
 obtain⟨v',w',b',hr,rest⟩:=h.append (c:=1) hb hlen o.type;refine⟨v',w',b',?_,rest⟩;unfold execOp;rw[ho];simp[resolve,invoke,builtin,hx,hy,hr]
end
end
end Go.Proofs.YtjjbojomlfgjlaaGreatDoor
namespace Go.Proofs.YtjjbojomlfgjlaaGreatDoor
open Go.Vm Go.RowKit
set_option linter.unusedVariables false
set_option maxRecDepth 100000
noncomputable section
def cq:Code:=bo Tryz.f174
def cq4:Code:=cS (cS (cS (cS cq)))
def qLB:Code:=cL (cB (cF cq4))
def qTL:Code:=cS cq4
def qR4:Code:=cF (cF qLB)
def qB1:Code:=cB (cS qLB)
def qR7:Code:=cF (cS (cS qB1))
def qIB:Code:=cL (cB (cS (cS (cS qB1))))
def qR8:Code:=cF qIB
def qB3:Code:=cB (cF (cS (cS qIB)))
def qR9:Code:=cF qB3
def aIm:Code:=cF (cS qB3)
def aIl:Code:=cF (cT (cS (cS qB3)))
def mL:Code:=cS (cT (cS (cS qB3)))
def s5:Code:=cS (cS (cS qIB))
theorem bIy:cq=.seq (cF cq) (.seq (cF (cS cq)) (.seq (cF (cS (cS cq))) (.seq (cF (cS (cS (cS cq)))) (.seq (.block 0 (.loop qLB)) qTL)))):=by kernel_rfl
theorem bBP:qLB=.seq (.seq qR4 (.cond (.tmp 17) .skip (.exit 0))) (.block 1 (.seq (cF qB1) (.seq (cF (cS qB1)) (.seq qR7 (.block 2 (.loop qIB)))))):=by kernel_rfl
theorem bBQ:qIB=.seq qR8 (.seq (.cond (.tmp 26) .skip (.exit 2)) (.seq (.block 3 (.seq qR9 (.seq aIm (.cond (.tmp 43) (.seq aIl mL) .skip)))) s5)):=by kernel_rfl
theorem bB2:cF (cS (cS (cS cq)))=.region 3 (cR (cF (cS (cS (cS cq))))) false:=by kernel_rfl
theorem bBZ:qR4=.region 4 (cR qR4) false:=by kernel_rfl
theorem bBW:cF qB1=.region 5 (cR (cF qB1)) false:=by kernel_rfl
theorem bBT:cF (cS qB1)=.region 6 (cR (cF (cS qB1))) false:=by kernel_rfl
theorem bB5:mL=.region 12 (cR mL) false:=by kernel_rfl
theorem bB1:(cR (cF (cS (cS (cS cq))))).toList=[opn (cF (cS (cS (cS cq)))) 0,opn (cF (cS (cS (cS cq)))) 1]:=by kernel_rfl
theorem bBY:(cR qR4).toList=[opn qR4 0,opn qR4 1,opn qR4 2]:=by kernel_rfl
theorem bBV:(cR (cF qB1)).toList=[opn (cF qB1) 0,opn (cF qB1) 1,opn (cF qB1) 2,opn (cF qB1) 3]:=by kernel_rfl
theorem bBS:(cR (cF (cS qB1))).toList=[opn (cF (cS qB1)) 0,opn (cF (cS qB1)) 1,opn (cF (cS qB1)) 2]:=by kernel_rfl
theorem bB4:(cR mL).toList=[opn mL 0,opn mL 1,opn mL 2,opn mL 3,opn mL 4]:=by kernel_rfl
def stQ (l:List aA) (m:List Bool) (ex:Nat->aB UU):ASt UU:=⟨fun u=>cond (Nat.beq u 0) (.sl .rect l) (cond (Nat.beq u 3) (.osl 61 0) (ex u)),fun u=>cond (Nat.beq u 61) (some (.row .bool 0 m)) none⟩
def xQ (v:Value):Nat->aB UU:=fun u=>cond (Nat.beq u 4) (.raw v) .any
def xA (v:Value) (a:Int):Nat->aB UU:=fun u=>cond (Nat.beq u 4) (.raw v) (cond (Nat.beq u 5) (.int .i64 a) .any)
def xI (v:Value) (a n k:Int):Nat->aB UU:=fun u=>cond (Nat.beq u 4) (.raw v) (cond (Nat.beq u 5) (.int .i64 a) (cond (Nat.beq u 24) (.int .i64 n) (cond (Nat.beq u 25) (.int .i64 k) .any)))
def xC (v:Value) (a n k:Int) (c:Bool):Nat->aB UU:=fun u=>cond (Nat.beq u 4) (.raw v) (cond (Nat.beq u 5) (.int .i64 a) (cond (Nat.beq u 24) (.int .i64 n) (cond (Nat.beq u 25) (.int .i64 k) (cond (Nat.beq u 26) (.bool c) .any))))
def xK (v:Value) (a n k:Int):Nat->aB UU:=fun u=>cond (Nat.beq u 4) (.raw v) (cond (Nat.beq u 5) (.int .i64 a) (cond (Nat.beq u 6) (.int .i64 k) (cond (Nat.beq u 24) (.int .i64 n) (cond (Nat.beq u 25) (.int .i64 k) .any))))
def xT (v:Value) (a n k:Int) (c:Bool):Nat->aB UU:=fun u=>cond (Nat.beq u 4) (.raw v) (cond (Nat.beq u 5) (.int .i64 a) (cond (Nat.beq u 6) (.int .i64 k) (cond (Nat.beq u 24) (.int .i64 n) (cond (Nat.beq u 25) (.int .i64 k) (cond (Nat.beq u 43) (.bool c) .any)))))
def mNo:Nat->Nat->Nat->Canon UU:=fun _ _ _=>⟨[],[],[],[],[]⟩
def mQ (l:List Nat):Canon UU:=⟨0::3::l,[],[(.tmp 3,61,.bool)],[],[]⟩
def lP (m:Canon UU) (Kc:ASt UU->Prop) (K:AEx->ASt UU->Prop):AEx->ASt UU->Prop:=fun e s=>match e with
 | .normal=>match canon m s with
  |some s'=>Kc s'
  |none=>False
 |e=>K e s
def KF:AEx->ASt UU->Prop:=fun _ _=>False
abbrev exq (cur:Nat) (c:Code) (s:ASt UU) (K:AEx->ASt UU->Prop):Prop:=exec fJ Tryz.f174.ntmps mNo 0 cur c s K
abbrev ksq (cur:Nat) (c:Code) (K:AEx->ASt UU->Prop):AEx->ASt UU->Prop:=cO (bC mNo 0 0 fJ) fJ Tryz.f174.ntmps mNo 0 cur c K
theorem e0 (Kc:ASt UU->Prop) (l:List aA):exq 0 (cF cq) (cQ [.sl .rect l]) (ksq 0 (cF (cS cq)) (ksq 0 (cF (cS (cS cq))) (lP (mQ []) Kc KF)))=
  ((0<=(l.length:Int)/\(l.length:Int)=(l.length:Int)/\(l.length:Int)*1<=140737488355328)/\((0<=(0:Int)/\(0:Int)<(List.replicate ((l.length:Int).toNat) (false:Bool)).length)/\Kc (stQ l ((List.replicate ((l.length:Int).toNat) (false:Bool)).set 0 true) fun _=>.any))):=by kernel_rfl
theorem e7 (Kc:ASt UU->Prop) (l:List aA) (m:List Bool) (v:Value) (a:Int):exq 1 qR7 (stQ l m (xA v a)) (lP (mQ [4,5,24,25]) Kc KF)=Kc (stQ l m (xI v a l.length 0)):=by kernel_rfl
theorem e8 (Kc:ASt UU->Prop) (l:List aA) (m:List Bool) (v:Value) (a n k:Int):exq 2 qR8 (stQ l m (xI v a n k)) (lP (mQ [4,5,24,25,26]) Kc KF)=Kc (stQ l m (xC v a n k (decide (k<n)))):=by kernel_rfl
theorem e9 (Kc:ASt UU->Prop) (l:List aA) (m:List Bool) (v:Value) (a n k:Int):exq 3 qR9 (stQ l m (xC v a n k true)) (ksq 3 aIm (lP (mQ [4,5,6,24,25,43]) Kc KF))=
  ((0<=k/\k<m.length)/\cond (!(m.getD k.toNat default)) (((0<=a/\a<l.length)/\((0<=k/\k<l.length)/\Kc (stQ l m (xT v a n k (sE (l.getD a.toNat default) (l.getD k.toNat default))))))) (Kc (stQ l m (xT v a n k false)))):=by kernel_rfl
theorem e11 (Kc:ASt UU->Prop) (l:List aA) (m:List Bool) (v:Value) (a n k:Int):exq 3 aIl (stQ l m (xT v a n k true)) (lP (mQ [4,5,6,24,25]) Kc KF)=((0<=k/\k<m.length)/\Kc (stQ l (m.set k.toNat true) (xK v a n k))):=by kernel_rfl
theorem e13 (Kc:ASt UU->Prop) (l:List aA) (m:List Bool) (v:Value) (a n k:Int):exq 2 s5 (stQ l m (xK v a n k)) (lP (mQ [4,5,24,25]) Kc KF)=Kc (stQ l m (xI v a n (aC (k+1)))):=by kernel_rfl
theorem bIe (Kc:ASt UU->Prop) (l:List aA) (m:List Bool) (v:Value) (a n k:Int):exq 2 s5 (stQ l m (xT v a n k false)) (lP (mQ [4,5,24,25]) Kc KF)=Kc (stQ l m (xI v a n (aC (k+1)))):=by kernel_rfl
end
end Go.Proofs.YtjjbojomlfgjlaaGreatDoor
namespace Go.Proofs.YtjjbojomlfgjlaaGreatDoor
open Go.Vm Go.RowKit
set_option linter.unusedVariables false
set_option maxRecDepth 100000
noncomputable section
variable {N:Nat->Prop} {w0:World} {l:List aA} {m:List Bool} {ex ex':Nat->aB UU} {v:Value} {b:Nat} {xs:zzI} {ρ:Vm.Own} {a:Act} {w:World} {Q:Exit->Act->World->Prop} {cur:Nat} {c d z:Code} {mc:Canon UU}
def NQ (N:Nat->Prop) (b:Nat):Nat->Prop:=fun x=>N x\/x=b
abbrev FQ (w0 we:World) (b:Nat) (hlt:∀x,x=b->x<we.heap.size) (hle:w0.heap.size<=we.heap.size):Fr:=FrA w0 we (fun x=>x=b) hlt hle (fun _=>none) (fun _ _ h=>by cases h) []
structure QS (N:Nat->Prop) (w0:World) (l:List aA) (m:List Bool) (ex:Nat->aB UU) (v:Value) (b:Nat) (xs:zzI) (ρ:Vm.Own) (a:Act) (w:World):Prop where
 ge:w0.heap.size<=b
 q:QB w v b xs
 rr:∃we hlt hle,RR EE 61 (NQ N b) (FQ w0 we b hlt hle) ρ (stQ l m ex) a w
theorem aIa {F:Fr} {N:Nat->Prop} {s:ASt UU} {Kc:ASt UU->Prop} (hsat:fR fJ F.w0) (hp:∀id,F.pin id=none) (hR:RR EE 61 N F ρ s a w) (h:exq cur c s (lP mc Kc KF))
  (hQ:∀s' ρ' a' w',Kc s'->RR EE 61 N F ρ' s' a' w'->Q .normal a' w'):c.wp Tryz.prog Q a w:=by
 refine aGK (C:=fJ) (w0:=F) hsat mixed (fun _ _ _ id u h=>by rw[hp] at h;cases h) c cur s _ ρ a w Q h hR (fun e s' ρ' a' w' hK hR'=>?_);cases e with
 |normal=>
  simp only[lP] at hK;split at hK
  ·rename_i s'' hcan;obtain⟨ρ'',hR''⟩:=aC7 hR' hcan (fun id u h=>by rw[hp] at h;cases h);exact hQ s'' ρ'' a' w' hK hR''
  ·exact hK.elim
 |exit id=>exact(show False from hK).elim
 |ret=>exact(show False from hK).elim
theorem aI9 {F:Fr} {N:Nat->Prop} {s:ASt UU} {K:AEx->ASt UU->Prop} (hsat:fR fJ F.w0) (hp:∀id,F.pin id=none) (hR:RR EE 61 N F ρ s a w) (h:exq cur c s (ksq cur d K)) (hK:∀e s',e≠ .normal->K e s'->False)
  (hz:∀s' ρ' a' w',exq cur d s' K->RR EE 61 N F ρ' s' a' w'->z.wp Tryz.prog Q a' w'):(Code.seq c z).wp Tryz.prog Q a w:=by
 refine wp_seq (aGK (C:=fJ) (w0:=F) hsat mixed (fun _ _ _ id u h=>by rw[hp] at h;cases h) c cur s _ ρ a w _ h hR (fun e s' ρ' a' w' hK' hR'=>?_));cases e with
 |normal=>exact hz s' ρ' a' w' hK' hR'
 |exit id=>exact(hK (.exit id) s' (by simp) hK').elim
 |ret=>exact(hK .ret s' (by simp) hK').elim
theorem aVm {Kc:ASt UU->Prop}:∀e s',e≠ .normal->lP mc Kc KF e s'->False:=fun e s' he h=>by
 cases e with
 |normal=>exact he rfl
 |exit id=>exact h
 |ret=>exact h
theorem QS.kept {m':List Bool} {we:World} {hlt:∀x,x=b->x<we.heap.size} {hle:w0.heap.size<=we.heap.size} {ρ':Vm.Own} {a':Act} {w':World} (hS:QS N w0 l m ex v b xs ρ a w) (hR:RR EE 61 (NQ N b) (FQ w0 we b hlt hle) ρ (stQ l m ex) a w)
  (hR':RR EE 61 (NQ N b) (FQ w0 we b hlt hle) ρ' (stQ l m' ex') a' w'):QS N w0 l m' ex' v b xs ρ' a' w':=
 ⟨hS.ge,hS.q.same ((hR'.kept.2 b rfl).trans (hR.kept.2 b rfl).symm),we,hlt,hle,hR'⟩
theorem QS.vm {Pq:List Bool->(Nat->aB UU)->Prop} (hS:QS N w0 l m ex v b xs ρ a w) (hsat:fR fJ w0) (h:exq cur c (stQ l m ex) (lP mc (fun s'=>∃m' ex',s'=stQ l m' ex'/\Pq m' ex') KF))
  (hQ:∀m' ex' ρ' a' w',Pq m' ex'->QS N w0 l m' ex' v b xs ρ' a' w'->Q .normal a' w'):c.wp Tryz.prog Q a w:=by
 obtain⟨we,hlt,hle,hR⟩:=hS.rr;refine aIa (F:=FQ w0 we b hlt hle) hsat (fun _=>rfl) hR h fun s' ρ' a' w' hK hR'=>?_
 obtain⟨m',ex',rfl,hp⟩:=hK;exact hQ m' ex' ρ' a' w' hp (hS.kept hR hR')
theorem QS.vm2 {Pq:List Bool->(Nat->aB UU)->Prop} (hS:QS N w0 l m ex v b xs ρ a w) (hsat:fR fJ w0) (h:exq cur c (stQ l m ex) (ksq cur d (lP mc (fun s'=>∃m' ex',s'=stQ l m' ex'/\Pq m' ex') KF)))
  (hQ:∀m' ex' ρ' a' w',Pq m' ex'->QS N w0 l m' ex' v b xs ρ' a' w'->z.wp Tryz.prog Q a' w'):(Code.seq c (Code.seq d z)).wp Tryz.prog Q a w:=by
 obtain⟨we,hlt,hle,hR⟩:=hS.rr;refine aI9 (F:=FQ w0 we b hlt hle) hsat (fun _=>rfl) hR h aVm fun s1 ρ1 a1 w1 h1 hR1=>?_
 refine wp_seq (aIa (F:=FQ w0 we b hlt hle) hsat (fun _=>rfl) hR1 h1 fun s' ρ' a' w' hK hR'=>?_);obtain⟨m',ex',rfl,hp⟩:=hK;exact hQ m' ex' ρ' a' w' hp (hS.kept hR hR')
theorem QS.size (hS:QS N w0 l m ex v b xs ρ a w):a.tmps.size=61:=by
 obtain⟨we,hlt,hle,hR⟩:=hS.rr;exact hR.size
theorem QS.rel (hS:QS N w0 l m ex v b xs ρ a w) (t:Nat) (ht:t<61):Rel EE w ρ (aM (NQ N b) ρ w) ((stQ l m ex).tmps t) (a.eval (.tmp t)):=by
 obtain⟨we,hlt,hle,hR⟩:=hS.rr;have:=hR.eval (.tmp t);have e:(stQ l m ex).eval (.tmp t)=(stQ l m ex).tmps t:=by
  exact aKL (Nat.lt_of_lt_of_le ht (by decide))
 rw[e] at this;exact this
theorem QS.raw {u:Value} (hS:QS N w0 l m ex v b xs ρ a w) (t:Nat) (ht:t<61) (he:(stQ l m ex).tmps t=.raw u):a.eval (.tmp t)=u:=by
 have:=hS.rel t ht;rw[he] at this;generalize a.eval (.tmp t)=x at this;cases this;rfl
theorem QS.int {k:Int} (hS:QS N w0 l m ex v b xs ρ a w) (t:Nat) (ht:t<61) (he:(stQ l m ex).tmps t=.int .i64 k):a.eval (.tmp t)=.int .i64 k:=by
 have:=hS.rel t ht;rw[he] at this;generalize a.eval (.tmp t)=x at this;cases this;rfl
theorem QS.bool {k:Bool} (hS:QS N w0 l m ex v b xs ρ a w) (t:Nat) (ht:t<61) (he:(stQ l m ex).tmps t=.bool k):a.eval (.tmp t)=.bool k:=by
 have:=hS.rel t ht;rw[he] at this;generalize a.eval (.tmp t)=x at this;cases this;rfl
theorem QS.free (hS:QS N w0 l m ex v b xs ρ a w) {d:Nat} (hd:d<61) (ht:(stQ l m ex).tmps d=.any) (u:Value):QS N w0 l m ex v b xs ρ (a.put (some d) u) w:=by
 obtain⟨we,hlt,hle,hR⟩:=hS.rr;exact⟨hS.ge,hS.q,we,hlt,hle,hR.bBa hd ht u⟩
theorem QS.put (hS:QS N w0 l m ex v b xs ρ a w) {d:Nat} (hd:d<61) {u:Value} {x:aB UU} (hx:∀st,Rel EE w ρ st x u) (hed:(stQ l m ex').tmps d=x) (he:∀t,t≠d->(stQ l m ex').tmps t=(stQ l m ex).tmps t):QS N w0 l m ex' v b xs ρ (a.put (some d) u) w:=by
 obtain⟨we,hlt,hle,hR⟩:=hS.rr;exact⟨hS.ge,hS.q,we,hlt,hle,hR.bB7 hd (hx _) rfl hed he⟩
theorem QS.less (hS:QS N w0 l m ex v b xs ρ a w) (ht:∀t,ex' t=.any\/ex' t=ex t):QS N w0 l m ex' v b xs ρ a w:=by
 obtain⟨we,hlt,hle,hR⟩:=hS.rr;refine⟨hS.ge,hS.q,we,hlt,hle,hR.less rfl fun t=>?_⟩;show cond (Nat.beq t 0) (aB.sl .rect l:aB UU) _=(aB.any:aB UU)\/cond (Nat.beq t 0) (aB.sl .rect l:aB UU) _=cond (Nat.beq t 0) _ _;cases Nat.beq t 0
 ·cases Nat.beq t 3
  ·exact ht t
  ·exact .inr rfl
 ·exact .inr rfl
theorem QS.got (hS:QS N w0 l m ex v b xs ρ a w) {d:Nat} (hd:d<61) (u:Value):(a.put (some d) u).eval (.tmp d)=u:=(aN3 (by rw[hS.size];exact hd)).trans (if_pos rfl)
theorem QS.oth (hS:QS N w0 l m ex v b xs ρ a w) {d t:Nat} (hd:d<61) (hne:t≠d) (u:Value):(a.put (some d) u).eval (.tmp t)=a.eval (.tmp t):=(aN3 (by rw[hS.size];exact hd)).trans (if_neg hne)
theorem QS.world (hS:QS N w0 l m ex v b xs ρ a w) (hN:∀x,N x->x<w0.heap.size) {w1:World} {v1:Value} {b1:Nat} {xs1:zzI} (hq:QB w1 v1 b1 xs1) (hb:b1=b\/w.heap.size<=b1) (hs:∀j,j<w.heap.size->j≠b1->w1.heap[j]?=w.heap[j]?)
  (hz:w.heap.size<=w1.heap.size) (ho:w1.os=w.os) (ht:w1.tape=w.tape) (hout:w1.output=w.output):QS N w0 l m ex v1 b1 xs1 ρ a w1:=by
 obtain⟨we,hlt,hle,hR⟩:=hS.rr;have jB:Below w0.heap.size w0 w:=hR.below;have hsz:=jB.size;have hge:w0.heap.size<=b1:=by
  rcases hb with rfl|hb
  ·exact hS.ge
  ·omega
 have bV:Below w0.heap.size w0 w1:=⟨ho.trans jB.os,ht.trans jB.tape,hout.trans jB.output,by omega,fun k hk=>(hs k (by omega) (by omega)).trans (jB.block k hk)⟩;refine⟨hge,hq,w1,fun x hx=>by rw[hx];exact hq.lt,by omega,hR.anchor rfl (fun _ _ h=>by cases h) rfl hR.defers rfl rfl (fun x hx=>hx.elim (fun h=>.inl (hN x h)) fun h=>.inr h) (fun x hst hn=>?_) (fun nm g u x hr hbl hn=>?_) (fun nm g u x hr hbl hn=>?_) (fun x hx hn=>hs x hx fun e=>hn (.inr e)) bV hz⟩
 ·rcases hn with hn|rfl
  ·exact hst.2.1 (.inl hn)
  ·rcases hb with rfl|hb
   ·exact hst.2.1 (.inr rfl)
   ·exact absurd hst.1 (by omega)
 ·have hn':x=b1:=hn;subst hn';rcases hb with rfl|hb
  ·exact hR.free nm g u _ hr hbl rfl
  ·exact absurd ((hR.own hr).2 _ hbl).2 (by omega)
 ·rcases hn with hn|rfl
  ·exact hR.aB1 hr hbl (.inl hn)
  ·rcases hb with rfl|hb
   ·exact hR.free nm g u _ hr hbl rfl
   ·exact absurd ((hR.own hr).2 _ hbl).2 (by omega)
theorem QS.start {N:Nat->Prop} (hN:∀x,N x->x<w0.heap.size) (hR:RR EE 61 N (Fr.pure w0) ρ (stQ l m ex) a w) (k:Int):QS N w0 l m ex (.slice (some ⟨w.heap.size,0,none⟩) 1 1) w.heap.size [k] ρ a (w.alloc (.cells #[.int .i64 k] 3)):=by
 have jB:Below w0.heap.size w0 w:=hR.below;have hsz:=jB.size;have hsame:∀j:Nat,j<w.heap.size->(w.alloc (.cells #[.int .i64 k] 3)).heap[j]?=w.heap[j]?:=fun j hj=>heap_alloc_old w _ hj
 have hz:(w.alloc (.cells #[.int .i64 k] 3)).heap.size=w.heap.size+1:=by simp
 have bV:Below w0.heap.size w0 (w.alloc (.cells #[.int .i64 k] 3)):=⟨jB.os,jB.tape,jB.output,by omega,fun k hk=>(hsame k (by omega)).trans (jB.block k hk)⟩;have hq:=QB.one k w;generalize w.alloc (.cells #[.int .i64 k] 3)=W1 at hsame hz bV hq ⊢;refine⟨hsz,hq,W1,fun x hx=>by omega,by omega,hR.anchor rfl (fun _ _ h=>by cases h) rfl hR.defers rfl rfl (fun x hx=>hx.elim (fun h=>.inl (hN x h)) fun h=>.inr h) (fun x hst hn=>?_) (fun nm g u x hr hbl hn=>?_) (fun nm g u x hr hbl hn=>?_) (fun x hx _=>hsame x hx) bV (by omega)⟩
 ·rcases hn with hn|rfl
  ·exact hst.2.1 hn
  ·exact absurd hst.1 (Nat.lt_irrefl _)
 ·have hn':x=w.heap.size:=hn;subst hn';exact absurd ((hR.own hr).2 _ hbl).2 (Nat.lt_irrefl _)
 ·rcases hn with hn|rfl
  ·exact hR.aB1 hr hbl hn
  ·exact absurd ((hR.own hr).2 _ hbl).2 (Nat.lt_irrefl _)
end
end Go.Proofs.YtjjbojomlfgjlaaGreatDoor
namespace Go.Proofs.YtjjbojomlfgjlaaGreatDoor
open Go.Vm Go.RowKit
set_option linter.unusedVariables false
set_option maxRecDepth 100000
noncomputable section
variable {N:Nat->Prop} {w0:World} {l:List aA} {m:List Bool} {ex ex':Nat->aB UU} {v:Value} {b:Nat} {xs:zzI} {ρ:Vm.Own} {a:Act} {w:World} {Q:Exit->Act->World->Prop} {cur:Nat} {c d z:Code} {mc:Canon UU} {x k n:Int}
theorem bBX (hS:QS N w0 l m (xQ v) v b xs ρ a w) (hQ:∀a',a'.eval (.tmp 17)=.bool (decide (0<(xs.length:Int)))->QS N w0 l m (xQ v) v b xs ρ a' w->Q .normal a' w):qR4.wp Tryz.prog Q a w:=by
 rw[bBZ];refine wp_region (uL ?_);rw[bBY];obtain⟨q,cap,cu,hv,_⟩:=hS.q;have h4:=hS.raw 4 (by decide) rfl;refine jH (d:=15) (by kernel_rfl) (by kernel_rfl) (aC2 (x:=.tmp 4) (by kernel_rfl)) ?_;rw[h4];have g15:=hS.got (d:=15) (by decide) v;have hS1:=hS.free (d:=15) (by decide) rfl v;generalize a.put (some 15) v=a1 at g15 hS1;refine jH (d:=16) (by kernel_rfl) (by kernel_rfl) (bHm (x:=.tmp 15) (t:=45) (by kernel_rfl) (g15.trans hv) Tryz.underlying45) ?_;have g16:=hS1.got (d:=16) (by decide) (.int .i64 xs.length);have hS2:=hS1.free (d:=16) (by decide) rfl (.int .i64 xs.length);generalize a1.put (some 16) (.int .i64 xs.length)=a2 at g16 hS2;refine jH (d:=17) (by kernel_rfl) (by kernel_rfl) (bHo (x:=.tmp 16) (y:=.const (.int .i64 0)) (t:=3) (t':=3) (by kernel_rfl) g16 rfl) ?_;exact hQ _ (hS2.got (d:=17) (by decide) _) (hS2.free (d:=17) (by decide) rfl _)
theorem bBU (hS:QS N w0 l m (xQ v) v b (x::xs) ρ a w) (hQ:∀a',QS N w0 l m (xA v x) v b (x::xs) ρ a' w->Q .normal a' w):(cF qB1).wp Tryz.prog Q a w:=by
 rw[bBW];refine wp_region (uL ?_);rw[bBV];obtain⟨q,cap,cu,hv,hb,_,_,hc⟩:=hS.q;have h4:=hS.raw 4 (by decide) rfl;obtain⟨i0,hi,_⟩:=info_parts (P:=Tryz.prog) (e:=3) (z:=.int .i64 0) (size:=1) (bytes:=8) (by kernel_rfl);refine jH (d:=18) (by kernel_rfl) (by kernel_rfl) (aC2 (x:=.tmp 4) (by kernel_rfl)) ?_;rw[h4];have g18:=hS.got (d:=18) (by decide) v;have hS1:=hS.free (d:=18) (by decide) rfl v;generalize a.put (some 18) v=a1 at g18 hS1;refine jH (d:=19) (by kernel_rfl) (by kernel_rfl) (bHn (x:=.tmp 18) (y:=.const (.int .i64 0)) (t:=45) (by kernel_rfl) (g18.trans hv) rfl (by simp) Tryz.underlying45 hi) ?_;have g19:=hS1.got (d:=19) (by decide) (.pointer (some ⟨b,q,none⟩));have hS2:=hS1.free (d:=19) (by decide) rfl (.pointer (some ⟨b,q,none⟩));generalize a1.put (some 19) (.pointer (some ⟨b,q,none⟩))=a2 at g19 hS2;refine jH (d:=20) (by kernel_rfl) (by kernel_rfl) (bHl (x:=.tmp 19) (t:=3) (k:=x) (by kernel_rfl) g19 Tryz.underlying3 (by rw[cell_of_row w b q cu 3 (0,0) hb];exact hc 0 (by simp))) ?_;have g20:=hS2.got (d:=20) (by decide) (.int .i64 x);have hS3:=hS2.free (d:=20) (by decide) rfl (.int .i64 x);generalize a2.put (some 20) (.int .i64 x)=a3 at g20 hS3;refine jH (d:=5) (by kernel_rfl) (by kernel_rfl) (aGL (x:=.tmp 20) (by kernel_rfl)) ?_;rw[g20];exact hQ _ (hS3.put (d:=5) (by decide) (fun st=>.int .i64 x) rfl fun t ht=>by simp only[stQ,xA,xQ,fG ht,cond_false])
theorem bBR (hS:QS N w0 l m (xA v x) v b (x::xs) ρ a w) (hQ:∀v' a',QS N w0 l m (xA v' x) v' b xs ρ a' w->Q .normal a' w):(cF (cS qB1)).wp Tryz.prog Q a w:=by
 rw[bBT];refine wp_region (uL ?_);rw[bBS];have hq:=hS.q;obtain⟨q,cap,cu,hv,_⟩:=hS.q;subst hv;have h4:=hS.raw 4 (by decide) rfl;obtain⟨i0,hi,_,hi1,_⟩:=info_parts (P:=Tryz.prog) (e:=3) (z:=.int .i64 0) (size:=1) (bytes:=8) (by kernel_rfl);refine jH (d:=21) (by kernel_rfl) (by kernel_rfl) (aC2 (x:=.tmp 4) (by kernel_rfl)) ?_;rw[h4];have g21:=hS.got (d:=21) (by decide) (.slice (some ⟨b,q,none⟩) (x::xs).length cap);have hS1:=hS.free (d:=21) (by decide) rfl (.slice (some ⟨b,q,none⟩) (x::xs).length cap);generalize a.put (some 21) (.slice (some ⟨b,q,none⟩) (x::xs).length cap)=a1 at g21 hS1;refine jH (d:=22) (by kernel_rfl) (by kernel_rfl) (bHk (x:=.tmp 21) (y:=.const (.int .i64 1)) (t:=45) (by kernel_rfl) g21 rfl (by simp) Tryz.underlying45 hi hi1) ?_;have ht:=hq.tail;rw[show (x::xs).length-1=xs.length from rfl];generalize (Value.slice (some ⟨b,if cap=1 then q else q+1,none⟩) xs.length (cap-1))=v' at ht ⊢;have g22:=hS1.got (d:=22) (by decide) v';have hS2:=hS1.free (d:=22) (by decide) rfl v';generalize a1.put (some 22) v'=a2 at g22 hS2;refine jH (d:=4) (by kernel_rfl) (by kernel_rfl) (aGL (x:=.tmp 22) (by kernel_rfl)) ?_;rw[g22];have hS3:=hS2.put (d:=4) (ex':=xA v' x) (by decide) (fun st=>.raw v') rfl fun t ht=>by simp only[stQ,xA,fG ht,cond_false]
 obtain⟨r1,r2,r3⟩:=hS3;exact hQ v' _ ⟨r1,ht,r3⟩
theorem bB3 (hN:∀x,N x->x<w0.heap.size) (hlen:xs.length<=1000) (hS:QS N w0 l m (xK v x n k) v b xs ρ a w) (hQ:∀v' b' a' w',QS N w0 l m (xK v' x n k) v' b' (xs++[k]) ρ a' w'->Q .normal a' w'):mL.wp Tryz.prog Q a w:=by
 rw[bB5];refine wp_region (uL ?_);rw[bB4];have h4:=hS.raw 4 (by decide) rfl;refine jH (d:=47) (by kernel_rfl) (by kernel_rfl) (aC2 (x:=.tmp 4) (by kernel_rfl)) ?_;rw[h4];have g47:=hS.got (d:=47) (by decide) v;have hS1:=hS.free (d:=47) (by decide) rfl v;generalize a.put (some 47) v=a1 at g47 hS1;have h6:=hS1.int 6 (by decide) rfl;refine jH (d:=48) (by kernel_rfl) (by kernel_rfl) (aC2 (x:=.tmp 6) (by kernel_rfl)) ?_;rw[h6];have g48:=hS1.got (d:=48) (by decide) (.int .i64 k);have g47':=(hS1.oth (d:=48) (t:=47) (by decide) (by decide) (.int .i64 k)).trans g47;have hS2:=hS1.free (d:=48) (by decide) rfl (.int .i64 k);generalize a1.put (some 48) (.int .i64 k)=a2 at g48 g47' hS2;refine jH (d:=49) (by kernel_rfl) (by kernel_rfl) (aV8 (x:=.tmp 48) (by kernel_rfl) g48) ?_;have hnew:(w.alloc (.cells #[.int .i64 k] 3)).heap[w.heap.size]?=some (.cells #[.int .i64 k] 3 (0,0)):=heap_alloc_new w _;have hS3:=hS2.world hN (w1:=w.alloc (.cells #[.int .i64 k] 3)) (v1:=v) (xs1:=xs) (hS2.q.same (heap_alloc_old w _ hS2.q.lt)) (.inl rfl) (fun j hj _=>heap_alloc_old w _ hj) (by simp) rfl rfl rfl;generalize w.alloc (.cells #[.int .i64 k] 3)=w1 at hnew hS3;have g49:=hS3.got (d:=49) (by decide) (.slice (some ⟨w.heap.size,0,none⟩) 1 1);have g47'':=(hS3.oth (d:=49) (t:=47) (by decide) (by decide) (.slice (some ⟨w.heap.size,0,none⟩) 1 1)).trans g47';have hS4:=hS3.free (d:=49) (by decide) rfl (.slice (some ⟨w.heap.size,0,none⟩) 1 1);generalize a2.put (some 49) (.slice (some ⟨w.heap.size,0,none⟩) 1 1)=a3 at g49 g47'' hS4;obtain⟨v',w2,b',hrun,hq,hb,hs,hz,ho,ht,hout⟩:=bHp (o:=opn mL 3) (x:=.tmp 47) (y:=.tmp 49) (a:=a3) (by kernel_rfl) g47'' g49 hS4.q hnew hlen;refine jH (d:=50) (by kernel_rfl) (by kernel_rfl) hrun ?_;have hS5:=hS4.world hN hq hb hs hz ho ht hout;have g50:=hS5.got (d:=50) (by decide) v';have hS6:=hS5.free (d:=50) (by decide) rfl v';generalize a3.put (some 50) v'=a4 at g50 hS6;refine jH (d:=4) (by kernel_rfl) (by kernel_rfl) (aGL (x:=.tmp 50) (by kernel_rfl)) ?_;rw[g50];exact hQ v' b' _ w2 (hS6.put (d:=4) (ex':=xK v' x n k) (by decide) (fun st=>.raw v') rfl fun t ht=>by simp only[stQ,xK,fG ht,cond_false])
theorem aXo (v:Value) (a n k:Int) (c:Bool):∀t,xQ v t=.any\/xQ v t=xC v a n k c t:=fun t=>by
 unfold xQ xC;cases Nat.beq t 4
 ·exact .inl rfl
 ·exact .inr rfl
section
variable {Qx:Exit->Act->World->Prop}
theorem inner (hsat:fR fJ w0) (hN:∀x,N x->x<w0.heap.size) (hlen:l.length<=100) {i r:Nat}:∀(n k:Nat) (t:List Bool×zzI) (v:Value) (b:Nat) (ρ:Vm.Own) (a:Act) (w:World),l.length<n+k->k<=l.length->fZ l t->i<t.2.length->r<l.length->
  QS N w0 l t.1 (xI v r l.length k) v b (t.2.drop (i+1)) ρ a w->
  (∀(t':List Bool×zzI) v' b' ρ' a' w',fZ l t'->t'=(List.range' k (l.length-k)).foldl (iE l r) t->i<t'.2.length->QS N w0 l t'.1 (xQ v') v' b' (t'.2.drop (i+1)) ρ' a' w'->Qx (.exit 2) a' w')->Code.rounds Tryz.prog qIB Qx n a w:=by
 intro n
 induction n with
 |zero=>intro k t v b ρ a w h1 h2;omega
 |succ n ih=>
  intro k t v b ρ a w h1 h2 hc hi hr hS hQ;have hle:=hc.le;have hln:=hc.len;rw[rounds_succ]
  suffices hgoal:(Code.seq qR8 (.seq (.cond (.tmp 26) .skip (.exit 2)) (.seq (.block 3 (.seq qR9 (.seq aIm (.cond (.tmp 43) (.seq aIl mL) .skip)))) s5))).wp Tryz.prog (Exit.then (Code.rounds Tryz.prog qIB Qx n) Qx) a w by
   rw[<- bBQ] at hgoal;exact hgoal
  refine wp_seq (hS.vm (mc:=mQ [4,5,24,25,26]) (cur:=2) (Pq:=fun m' ex'=>m'=t.1/\ex'=xC v r l.length k (decide ((k:Int)<(l.length:Int)))) hsat ?_ ?_)
  ·rw[e8];exact⟨_,_,rfl,rfl,rfl⟩
  rintro _ _ ρ1 a1 w1 ⟨rfl,rfl⟩ hS1
  have h26:=hS1.bool 26 (by decide) rfl
  by_cases hk:k<l.length
  ·rw[aW (show (k:Int)<(l.length:Int) by omega)] at h26 hS1;refine wp_seq (wp_cond_true h26 (wp_skip ?_));refine wp_seq (wp_block ?_);have hsc:=hc.iE r hk;have erange:(List.range' k (l.length-k)).foldl (iE l r) t=(List.range' (k+1) (l.length-(k+1))).foldl (iE l r) (iE l r t k):=by
    rw[show l.length-k=(l.length-(k+1))+1 by omega,List.range'_succ,List.foldl_cons]
   refine hS1.vm2 (mc:=mQ [4,5,6,24,25,43]) (cur:=3) (Pq:=fun m' ex'=>m'=t.1/\ex'=xT v r l.length k (!(t.1.getD k default)&&sE (l.getD r default) (l.getD k default))) hsat ?_ ?_
   ·rw[e9];refine⟨⟨by omega,by omega⟩,?_⟩;rw[Int.toNat_natCast,Int.toNat_natCast];cases t.1.getD k default
    ·exact⟨⟨by omega,by omega⟩,⟨by omega,by omega⟩,_,_,rfl,rfl,rfl⟩
    ·exact⟨_,_,rfl,rfl,rfl⟩
   rintro _ _ ρ2 a2 w2 ⟨rfl,rfl⟩ hS2
   have h43:=hS2.bool 43 (by decide) rfl;have hsn:iE l r t k=cond (!(t.1.getD k default)&&sE (l.getD r default) (l.getD k default)) (t.1.set k true,t.2++[(k:Int)]) t:=by
    unfold iE;cases t.1.getD k default<;>rfl
   cases hb:(!(t.1.getD k default)&&sE (l.getD r default) (l.getD k default)) with
   |true=>
    rw[hb] at h43 hS2 hsn;rw[cond_true] at hsn;refine wp_cond_true h43 (wp_seq ?_);refine hS2.vm (mc:=mQ [4,5,6,24,25]) (cur:=3) (Pq:=fun m' ex'=>m'=t.1.set k true/\ex'=xK v r l.length k) hsat ?_ ?_
    ·rw[e11];exact⟨⟨by omega,by omega⟩,_,_,rfl,by rw[Int.toNat_natCast],rfl⟩
    rintro _ _ ρ3 a3 w3 ⟨rfl,rfl⟩ hS3
    refine bB3 hN (by rw[List.length_drop];omega) hS3 fun v4 b4 a4 w4 hS4=>?_
    show s5.wp Tryz.prog _ a4 w4;refine hS4.vm (mc:=mQ [4,5,24,25]) (cur:=2) (Pq:=fun m' ex'=>m'=t.1.set k true/\ex'=xI v4 r l.length ((k+1:Nat):Int)) hsat ?_ ?_
    ·rw[e13];exact⟨_,_,rfl,rfl,by rw[bX hk (by omega)]⟩
    rintro _ _ ρ5 a5 w5 ⟨rfl,rfl⟩ hS5
    show Code.rounds Tryz.prog qIB Qx n a5 w5;rw[hsn] at hsc erange;refine ih (k+1) (t.1.set k true,t.2++[(k:Int)]) v4 b4 ρ5 a5 w5 (by omega) (by omega) hsc.1 (by have:=hsc.2.1;omega) hr ?_ ?_
    ·show QS N w0 l (t.1.set k true) _ v4 b4 ((t.2++[(k:Int)]).drop (i+1)) ρ5 a5 w5;rw[List.drop_append_of_le_length (by omega)];exact hS5
    ·intro t' v' b' ρ' a' w' q1 q2 q3 q4;exact hQ t' v' b' ρ' a' w' q1 (q2.trans erange.symm) q3 q4
   |false=>
    rw[hb] at h43 hS2 hsn;rw[cond_false] at hsn;refine wp_cond_false h43 (wp_skip ?_);show s5.wp Tryz.prog _ a2 w2;refine hS2.vm (mc:=mQ [4,5,24,25]) (cur:=2) (Pq:=fun m' ex'=>m'=t.1/\ex'=xI v r l.length ((k+1:Nat):Int)) hsat ?_ ?_
    ·rw[bIe];exact⟨_,_,rfl,rfl,by rw[bX hk (by omega)]⟩
    rintro _ _ ρ5 a5 w5 ⟨rfl,rfl⟩ hS5
    show Code.rounds Tryz.prog qIB Qx n a5 w5;rw[hsn] at erange;exact ih (k+1) t v b ρ5 a5 w5 (by omega) (by omega) hc hi hr hS5 fun t' v' b' ρ' a' w' q1 q2 q3 q4=>hQ t' v' b' ρ' a' w' q1 (q2.trans erange.symm) q3 q4
  ·rw[bD (show ¬(k:Int)<(l.length:Int) by omega)] at h26 hS1;refine wp_seq (wp_cond_false h26 (wp_exit ?_));refine hQ t v b ρ1 a1 w1 hc ?_ hi (hS1.less (aXo _ _ _ _ _));rw[show l.length-k=0 by omega];rfl
theorem outer (hsat:fR fJ w0) (hN:∀x,N x->x<w0.heap.size) (hlen:l.length<=100):∀(n i:Nat) (t:List Bool×zzI) (v:Value) (b:Nat) (ρ:Vm.Own) (a:Act) (w:World),l.length<n+i->i<=t.2.length->fZ l t->
  QS N w0 l t.1 (xQ v) v b (t.2.drop i) ρ a w->(∀v' b' xs' ρ' a' w',fZ l (xH l n i t)->QS N w0 l (xH l n i t).1 (xQ v') v' b' xs' ρ' a' w'->Qx (.exit 0) a' w')->Code.rounds Tryz.prog qLB Qx n a w:=by
 intro n
 induction n with
 |zero=>
  intro i t v b ρ a w h1 h2 hc;have:=hc.le;omega
 |succ n ih=>
  intro i t v b ρ a w h1 h2 hc hS hQ;rw[rounds_succ]
  suffices hgoal:(Code.seq (.seq qR4 (.cond (.tmp 17) .skip (.exit 0))) (.block 1 (.seq (cF qB1) (.seq (cF (cS qB1)) (.seq qR7 (.block 2 (.loop qIB))))))).wp Tryz.prog (Exit.then (Code.rounds Tryz.prog qLB Qx n) Qx) a w by
   rw[<- bBP] at hgoal;exact hgoal
  refine wp_seq (wp_seq (bBX hS fun a1 h17 hS1=>?_));unfold xH at hQ
  by_cases hi:i<t.2.length
  ·rw[aW hi,cond_true] at hQ;rw[aW (by rw[List.length_drop];omega)] at h17;refine wp_cond_true h17 (wp_skip ?_);obtain⟨g1,g2⟩:=hc.get hi;obtain⟨r,hr⟩:∃r:Nat,t.2.getD i default=r:=⟨(t.2.getD i default).toNat,by omega⟩;rw[iJ t.2 i hi,hr] at hS1;rw[hr] at hQ g2;refine wp_block (wp_seq (bBU hS1 fun a2 hS2=>wp_seq (bBR hS2 fun v3 a3 hS3=>wp_seq ?_)));refine hS3.vm (mc:=mQ [4,5,24,25]) (cur:=1) (Pq:=fun m' ex'=>m'=t.1/\ex'=xI v3 r l.length ((0:Nat):Int)) hsat ?_ ?_
   ·rw[e7];exact⟨_,_,rfl,rfl,rfl⟩
   rintro _ _ ρ4 a4 w4 ⟨rfl,rfl⟩ hS4
   refine wp_block (wp_loop_rounds (l.length+1) ?_);refine inner hsat hN hlen (i:=i) (r:=r) (l.length+1) 0 t v3 b ρ4 a4 w4 (by omega) (by omega) hc hi (by omega) hS4 fun t' v' b' ρ' a' w' q1 q2 q3 q4=>?_
   show Code.rounds Tryz.prog qLB Qx n a' w';have e:t'=q7 l r t:=by
    rw[q2];unfold q7;rw[List.range_eq_range',Nat.sub_zero]
   subst e;rw[Int.toNat_natCast] at hQ;exact ih (i+1) _ v' b' ρ' a' w' (by omega) q3 q1 q4 hQ
  ·rw[bD hi,cond_false] at hQ;rw[bD (by rw[List.length_drop];omega)] at h17;refine wp_cond_false h17 (wp_exit ?_);exact hQ v b _ ρ a1 w hc hS1
end
end
end Go.Proofs.YtjjbojomlfgjlaaGreatDoor
namespace Go.Proofs.YtjjbojomlfgjlaaGreatDoor
open Go.Vm Go.RowKit
set_option linter.unusedVariables false
set_option maxRecDepth 100000
noncomputable section
def mT:Nat->Nat->Nat->Canon UU:=fun o b r=>cond (Nat.beq b 4) ⟨[2,52,53,54],[],[(.tmp 52,61,.bool)],[],[]⟩ ⟨[],[],[],[],[]⟩
def stT (m:List Bool) (i:Int):ASt UU:=⟨fun u=>cond (Nat.beq u 2) .any (cond (Nat.beq u 52) (.osl 61 0) (cond (Nat.beq u 53) (.int .i64 m.length) (cond (Nat.beq u 54) (.int .i64 i) .any))),fun u=>cond (Nat.beq u 61) (some (.row .bool 0 m)) none⟩
def bT (F n r:Nat) (m:List Bool) (i:Int) (Post:aB UU->Prop):Prop:=iter (bW (bC mT F 0 fJ) fJ Tryz.f174.ntmps mT F 4 (cL (cB (cS (cF qTL))))) (mT 0 4) n r (stT m i) (bJ 4 (cO (bC mT F 0 fJ) fJ Tryz.f174.ntmps mT F 0 (cS qTL) (bH fJ false Tryz.f174 Post)))
theorem stepT (F n r:Nat) (m:List Bool) (i:Int) (Post:aB UU->Prop):bT F (n+1) r m i Post=cond (decide (i<(m.length:Int))) ((0<=i/\i<(m.length:Int))/\cond (!(m.getD i.toNat default)) (Post (.bool false)) (bT F n (r+1) m (aC (i+1)) Post)) (Post (.bool true)):=by kernel_rfl
theorem bHu (F:Nat) (l:List aA) (m:List Bool) (v:Value) (Post:aB UU->Prop):exec fJ Tryz.f174.ntmps mT F 0 qTL (stQ l m (xQ v)) (bH fJ false Tryz.f174 Post)=bT F F 0 m 0 Post:=by kernel_rfl
theorem bLR (l:List aA) (m:List Bool) (v:Value) (hm:m.length<=1000) (Post:aB UU->Prop) (h:Post (.bool (!(m.any fun x=>!x)))):exec fJ Tryz.f174.ntmps mT (m.length+1) 0 qTL (stQ l m (xQ v)) (bH fJ false Tryz.f174 Post):=by
 rw[bHu];refine jX m (fun x=>!x) (Post (.bool false)) (Post (.bool true)) (fun n i=>∀r,bT (m.length+1) n r m i Post) (fun n i hi hx hw r=>?_) (fun n hy r=>?_) (m.length+1) (by omega) (fun q=>?_) (fun q=>?_) 0
 ·rw[stepT,aW (show (i:Int)<(m.length:Int) by omega),cond_true,Int.toNat_natCast,bX hi (by omega)];refine⟨⟨by omega,by omega⟩,?_⟩;cases hb:!(m.getD i default) with
  |true=>exact hx hb
  |false=>exact hw hb (r+1)
 ·rw[stepT,bD (by omega),cond_false];exact hy
 ·rw[q] at h;exact h
 ·rw[q] at h;exact h
def aWz (N:Nat->Prop) (w0:World) (Post:aB UU->Prop) (a':Act) (w':World):Prop:=
 a'.defers=[]/\∃v,(results Tryz.f174 a'.tmps).run Tryz.prog w'=.ok v w'/\∃r,Post r/\jQ EE w0.heap.size N w' r v/\Below w0.heap.size w0 w'
theorem bGx {N N':Nat->Prop} {w0:World} {Post:aB UU->Prop} {F:Fr} {e:AEx} {s':ASt UU} {ρ':Vm.Own} {a':Act} {w':World} (h:bH fJ false Tryz.f174 Post e s') (hR:RR EE 61 N' F ρ' s' a' w') (h0:F.w0=w0) (hds:F.ds=[]) (hN:∀b,N b->N' b) (hNlt:∀b,N b->b<w0.heap.size):
  (e=.normal\/e=.ret)/\aWz N w0 Post a' w':=by
 have hR2:RR EE 61 N F ρ' s' a' w':=hR.bHA hN;have hr:∃r,result fJ false Tryz.f174 s'=some r/\Post r:=by
  cases hr:result fJ false Tryz.f174 s' with
  |none=>exfalso;cases e<;>simp[bH,hr] at h
  |some r=>cases e<;>simp only[bH,hr] at h<;>exact⟨r,rfl,h⟩
 have he:e=.normal\/e=.ret:=by
  cases e with
  |normal=>exact .inl rfl
  |exit id=>exact h.elim
  |ret=>exact .inr rfl
 obtain⟨r,hr,hK⟩:=hr;obtain⟨v,h1,h2⟩:=aNT (C:=fJ) (w0:=F) (N:=N) hR2 (fun b hb=>by
  unfold Fr.heap;rw[h0];exact hNlt b hb) hr
 have hd:=hR.defers;rw[hds] at hd;have hb:=hR.below;unfold Fr.heap at h2 hb;rw[h0] at h2 hb;exact⟨he,hd,v,h1,r,hK,h2,hb⟩
theorem bJG {l:List aA} {t:List Bool×zzI} (h:fZ l t):(!(t.1.any fun x=>!x))=((t.2.length:Int)==(l.length:Int)):=by
 rw[Bool.eq_iff_iff,h.cnt,<- h.len];simp only[Bool.not_eq_true',List.any_eq_false,beq_iff_eq,Int.natCast_inj];rw[List.count_eq_length];constructor
 ·intro q x hx;have:=q x hx;cases x with
  |true=>rfl
  |false=>simp at this
 ·intro q x hx;simp[<- q x hx]
theorem bB0 {N:Nat->Prop} {w0:World} {l:List aA} {m:List Bool} {ρ:Vm.Own} {a:Act} {w:World} {Q:Exit->Act->World->Prop} (hN:∀x,N x->x<w0.heap.size) (hR:RR EE 61 N (Fr.pure w0) ρ (stQ l m fun _=>.any) a w)
  (hQ:∀v b a' w',QS N w0 l m (xQ v) v b [0] ρ a' w'->Q .normal a' w'):(cF (cS (cS (cS cq)))).wp Tryz.prog Q a w:=by
 rw[bB2];refine wp_region (uL ?_);rw[bB1];refine jH (d:=14) (by kernel_rfl) (by kernel_rfl) (aV8 (x:=.const (.int .i64 0)) (by kernel_rfl) rfl) ?_;have hS:=QS.start hN hR 0;have g14:=hS.got (d:=14) (by decide) (.slice (some ⟨w.heap.size,0,none⟩) 1 1);have hS1:=hS.free (d:=14) (by decide) rfl (.slice (some ⟨w.heap.size,0,none⟩) 1 1);generalize a.put (some 14) (.slice (some ⟨w.heap.size,0,none⟩) 1 1)=a1 at g14 hS1;refine jH (d:=4) (by kernel_rfl) (by kernel_rfl) (aGL (x:=.tmp 14) (by kernel_rfl)) ?_;rw[g14];exact hQ _ _ _ _ (hS1.put (d:=4) (ex':=xQ (.slice (some ⟨w.heap.size,0,none⟩) 1 1)) (by decide) (fun st=>.raw _) rfl fun t ht=>by simp only[stQ,xQ,fG ht,cond_false])
theorem bJF {l:List aA} (h1:1<=l.length) (h2:l.length<=100) {N:Nat->Prop} {w:World} {args:Array Value} (hi:fJ.inv w) (hN:∀b,N b->b<w.heap.size) (hargs:yS EE w N [.sl .rect l] args):
  Calls Tryz.prog 174 args w fun e w'=>∃v,e=.returned v/\jQ EE w.heap.size N w' (.bool (kR l)) v/\Below w.heap.size w w':=by
 have hsat:fR fJ w:=aNR.at hi;refine calls_of_wp (c:=cq) Tryz.func174 (by kernel_rfl) ?_;have hsz:args.size=1:=hargs.1;have hR:RR EE Tryz.f174.ntmps N (Fr.pure w) bU (cQ [.sl .rect l]) {tmps:=args++Array.replicate (Tryz.f174.ntmps-args.size) undef,defers:=[]} w:=by
  refine⟨rfl,by rw[Array.size_append,Array.size_replicate,hsz];rfl,fun t=>?_,(fun id ob ho=>by cases ho),(fun id g u hr=>by cases hr),(fun _ _ _ _ _ _ _ hr=>by cases hr),Below.refl _ _,fun b hb=>.inl (hN b hb),⟨Nat.le_refl _,fun b hb=>hb.elim⟩,(fun _ _ _ _ hr=>by cases hr),(fun _ _ h=>by cases h),by decide⟩;exact aTS (fun _=>rfl) (by show 1<=61;decide) (by decide) hsz (fun k hk=>(hargs.2 k hk).mono (fun b hb=>⟨⟨hb.1,hb.2,fun _ _ _ hr=>by cases hr⟩,rfl⟩) (fun _ _ _ hr=>by cases hr)) t
 refine(show ∀{Q:Exit->Act->World->Prop},(∀e,(e=.normal\/e=.ret)->∀a' w',aWz N w (fun r=>r=.bool (kR l)) a' w'->Q e a' w')->cq.wp Tryz.prog Q {tmps:=args++Array.replicate (Tryz.f174.ntmps-args.size) undef,defers:=[]} w from fun {Q} hQ=>?_) ?_
 ·rw[bIy];have h0:exq 0 (cF cq) (cQ [.sl .rect l]) (ksq 0 (cF (cS cq)) (ksq 0 (cF (cS (cS cq))) (lP (mQ []) (fun s'=>s'=stQ l ((List.replicate l.length false).set 0 true) fun _=>.any) KF))):=by
   rw[e0];exact⟨⟨by omega,rfl,by omega⟩,⟨by omega,by simp;omega⟩,by rw[Int.toNat_natCast]⟩
  refine aI9 (F:=Fr.pure w) hsat (fun _=>rfl) hR h0 (fun e s' he h=>by cases e<;>first|exact he rfl|exact h) fun s1 ρ1 a1 w1 h1' hR1=>?_
  refine aI9 (F:=Fr.pure w) hsat (fun _=>rfl) hR1 h1' aVm fun s2 ρ2 a2 w2 h2' hR2=>?_
  refine wp_seq (aIa (F:=Fr.pure w) hsat (fun _=>rfl) hR2 h2' fun s3 ρ3 a3 w3 hK hR3=>?_);subst hK;refine wp_seq (bB0 hN hR3 fun v b a4 w4 hS4=>wp_seq (wp_block (wp_loop_rounds (l.length+1) ?_)));refine outer hsat hN h2 (l.length+1) 0 ((List.replicate l.length false).set 0 true,[0]) v b ρ3 a4 w4 (by omega) (by omega) (fZ.start h1) hS4 fun v' b' xs' ρ' a' w' hc hS=>?_
  show qTL.wp Tryz.prog Q a' w';obtain⟨we,hlt,hle,hR'⟩:=hS.rr;have hall:=bJG hc;refine aGK (C:=fJ) (w0:=FQ w we b' hlt hle) hsat mixed (fun _ _ _ _ _ h=>by cases h) qTL 0 _ _ ρ' a' w' Q (bLR l _ v' (by rw[hc.len];omega) (fun r=>r=.bool (kR l)) (by rw[hall];rfl)) hR' (fun e s' ρ'' a'' w'' hK hR''=>?_);obtain⟨q1,q2⟩:=bGx hK hR'' rfl rfl (fun _ h=>.inl h) hN;rcases q1 with rfl|rfl
  ·exact hQ .normal (.inl rfl) a'' w'' q2
  ·exact hQ .ret (.inr rfl) a'' w'' q2
 ·rintro e (rfl|rfl) a' w' ⟨hd,v,h1,r,rfl,h2,h3⟩
  ·exact⟨hd,v,h1,v,rfl,h2,h3⟩
  ·exact⟨hd,v,h1,v,rfl,h2,h3⟩
def aPx:Model UU
 |[.sl .rect l]=>some ([1<=l.length/\l.length<=100],.bool (kR l))
 |_=>none
def pA:Cfg UU:=fJ.add 174 aPx
theorem bAJ:aX pA:=by
 refine aNR.put ⟨fun args w=>hG (fn:=Tryz.f174) Tryz.func174 (by kernel_rfl) rfl args w,?_⟩;intro N w args xs cs r hinv hN hargs hm hc;unfold aPx at hm;split at hm
 ·rename_i l;cases hm;exact bJF hc.1 hc.2 hinv hN hargs
 ·cases hm
set_option maxRecDepth 100000
def aGN (F:Nat):=bW (bC oT F 0 pA) pA Tryz.f122.ntmps oT F
def aIh (F:Nat):=cO (bC oT F 0 pA) pA Tryz.f122.ntmps oT F
def aK9 (k:ASt UU->Prop):yB:=(fun t3 t4 t80 t81 t82 aQ aP aO aN aH aK aL=>k ⟨tmL [(1,.ptr 1 0),(3,.int .i64 t3),(4,.int .i64 t4),(80,.sl .rect t80),(81,.int .i64 t81),(82,.int .i64 t82)],obL [(1,.cells [.str aQ,.str aP,.int .i64 aO,.int .i64 aN,.sl .rect aH,.sl .rect aK,.sl .rect aL])]⟩)
def aFR (k:ASt UU->Prop):uD:=(fun t102 t103 t104 aQ aP aO aN aH aK aL=>k ⟨tmL [(1,.ptr 1 0),(2,.any),(102,.sl .rect t102),(103,.int .i64 t103),(104,.int .i64 t104)],obL [(1,.cells [.str aQ,.str aP,.int .i64 aO,.int .i64 aN,.sl .rect aH,.sl .rect aK,.sl .rect aL])]⟩)
def aK8 (k:ASt UU->Prop):aHs:=(fun t2 t102 t103 t104 aQ aP aO aN aH aK aL=>k ⟨tmL [(1,.ptr 1 0),(2,.int .i64 t2),(102,.sl .rect t102),(103,.int .i64 t103),(104,.int .i64 t104)],obL [(1,.cells [.str aQ,.str aP,.int .i64 aO,.int .i64 aN,.sl .rect aH,.sl .rect aK,.sl .rect aL])]⟩)
def aK7 (k:ASt UU->Prop):uC:=(fun t102 t103 t104 t112 t113 t114 aQ aP aO aN aH aK aL tU tT tS tR=>k ⟨tmL [(1,.ptr 1 0),(2,.any),(8,.ptr 8 0),(102,.sl .rect t102),(103,.int .i64 t103),(104,.int .i64 t104),(112,.sl .rect t112),(113,.int .i64 t113),(114,.int .i64 t114)],obL [(1,.cells [.str aQ,.str aP,.int .i64 aO,.int .i64 aN,.sl .rect aH,.sl .rect aK,.sl .rect aL]),(8,.cells [.int .i64 tU,.int .i64 tT,.int .i64 tS,.int .i64 tR])]⟩)
def aRe (k:ASt UU->Prop):aMP:=(fun t2 t102 t103 t104 t112 t113 t114 aQ aP aO aN aH aK aL tU tT tS tR=>k ⟨tmL [(1,.ptr 1 0),(2,.int .i64 t2),(8,.ptr 8 0),(102,.sl .rect t102),(103,.int .i64 t103),(104,.int .i64 t104),(112,.sl .rect t112),(113,.int .i64 t113),(114,.int .i64 t114)],obL [(1,.cells [.str aQ,.str aP,.int .i64 aO,.int .i64 aN,.sl .rect aH,.sl .rect aK,.sl .rect aL]),(8,.cells [.int .i64 tU,.int .i64 tT,.int .i64 tS,.int .i64 tR])]⟩)
def bKA:=(cL (cB (cS (cF (cS (cS (cS (bo Tryz.f122))))))))
def aG3:=(cL (cB (cS (cF (cS4 (cS (bo Tryz.f122)))))))
def bJz:=(cL (cB (cS (cS (cB (cF (cS (cS aG3))))))))
def aHP (F:Nat) (K:zK) (n r:Nat):yB:=aK9 fun s=>iter (aGN F 1 bKA) (oT 0 1) n r s K
def aCv (F:Nat) (K:zK) (n r:Nat):uD:=aFR fun s=>iter (aGN F 3 aG3) (oT 0 3) n r s K
def aHO (F:Nat) (K:zK) (n r:Nat):uC:=aK7 fun s=>iter (aGN F 5 bJz) (oT 0 5) n r s K
def aS9 (F:Nat) (Post:aB UU->Prop):zK:=bJ 1 (aIh F 0 (cS4 (bo Tryz.f122)) (bH pA false Tryz.f122 Post))
def aS8 (F:Nat) (Post:aB UU->Prop):zK:=bJ 3 (aIh F 0 (cS4 (cS (cS (bo Tryz.f122)))) (bH pA false Tryz.f122 Post))
def aS7 (F n r:Nat) (K:zK):zK:=bJ 5 (bJ 4 (aIh F 3 (cS (cS (cS aG3))) (fW (aGN F 3 aG3) (oT 0 3) n r K)))
theorem aQo (F:Nat) (K:zK):∀n r,aHO F K n r=aD2 F (aRe (K .ret)) (aK7 (K (.exit 5))) n
 |0,_=>by kernel_rfl
 |n+1,r=>Eq.trans (b:=aUZ (aHO F K n (r+1)) (aRe (K .ret)) (aK7 (K (.exit 5)))) (by kernel_rfl) (by rewrite[aQo F K n (r+1)];kernel_rfl)
theorem bEB (F n r:Nat) (K:zK):aHO F (aS7 F n r K) F 0=aJl F (aCv F K n (r+1)) (aFR (K (.exit 3))) (aK8 (K .ret)):=
 (aQo F _ F 0).trans (by kernel_rfl)
theorem aQp (F:Nat) (K:zK):∀n r,aCv F K n r=j0 F (aFR (K (.exit 3))) (aK8 (K .ret)) n
 |0,_=>by kernel_rfl
 |n+1,r=>Eq.trans (b:=aU0 (aCv F K n (r+1)) (aFR (K (.exit 3))) (aK8 (K .ret)) (aHO F (aS7 F n r K) F 0)) (by kernel_rfl) (by rewrite[bEB F n r K,aQp F K n (r+1)];kernel_rfl)
theorem bEC (F:Nat) (Post:aB UU->Prop):aCv F (aS8 F Post) F 0=aEo F (fun r0=>Post (.int .i64 r0)):=
 (aQp F _ F 0).trans (by kernel_rfl)
theorem aQq (F:Nat) (K:zK):∀n r,aHP F K n r=aAn F (aK9 (K (.exit 1))) n
 |0,_=>by kernel_rfl
 |n+1,r=>Eq.trans (b:=aU1 (aHP F K n (r+1)) (aK9 (K (.exit 1)))) (by kernel_rfl) (by rewrite[aQq F K n (r+1)];kernel_rfl)
theorem bED (F:Nat) (Post:aB UU->Prop):aHP F (aS9 F Post) F 0=aJm F (fun r0=>Post (.int .i64 r0)):=
 (aQq F _ F 0).trans (Eq.trans (b:=aAn F (aLN (fun r0=>Post (.int .i64 r0)) (aCv F (aS8 F Post) F 0)) F) (by kernel_rfl) (by rewrite[bEC F Post];kernel_rfl))
theorem bHV (F:Nat) (Post:aB UU->Prop) (qa qb:ByteArray) (qc qd:Int) (qe qj qk:List aA):exec pA Tryz.f122.ntmps oT F 0 (bo Tryz.f122) (cQ [.agg [.str qa,.str qb,.int .i64 qc,.int .i64 qd,.sl .rect qe,.sl .rect qj,.sl .rect qk]]) (bH pA false Tryz.f122 Post)=aIJ F qa qb qc qd qe qj qk (fun r0=>Post (.int .i64 r0)):=
 Eq.trans (b:=aLM qa qb qc qd qe qj qk (fun r0=>Post (.int .i64 r0)) (aHP F (aS9 F Post) F 0)) (by kernel_rfl) (by rewrite[bED F Post];kernel_rfl)
def aOq:Model UU
 |[.agg [.str qa,.str qb,.int .i64 qc,.int .i64 qd,.sl .rect qe,.sl .rect qj,.sl .rect qk]]=>some ([aEZ qa qb qc qd qe qj qk],.int .i64 (aBB qa qb qc qd qe qj qk))
 |_=>none
def oY:Cfg UU:=pA.add 122 aOq
theorem aZE:aX oY:=cM bAJ mixed Tryz.func122 (by kernel_rfl) (by kernel_rfl) fun xs cs r h hc=>by
 unfold aOq at h;split at h
 ·rename_i qa qb qc qd qe qj qk;cases h;obtain⟨F,hF⟩:=bCk qa qb qc qd qe qj qk hc;exact⟨by kernel_rfl,oT,F,false,⟨by rw[bHV];exact hF _ rfl⟩⟩
 ·cases h
set_option maxRecDepth 100000
def aVf (F:Nat):=bW (bC uI F 0 oY) oY Tryz.f56.ntmps uI F
def aNZ (F:Nat):=cO (bC uI F 0 oY) oY Tryz.f56.ntmps uI F
def aBh (k:ASt UU->Prop):xW:=(fun t2 t10 t11 t12 aQ aP aO aN aH aK aL=>k ⟨tmL [(1,.ptr 1 0),(2,.int .i64 t2),(10,.sl .rect t10),(11,.int .i64 t11),(12,.int .i64 t12)],obL [(1,.cells [.str aQ,.str aP,.int .i64 aO,.int .i64 aN,.sl .rect aH,.sl .rect aK,.sl .rect aL])]⟩)
def aKR (k:ASt UU->Prop):xV:=(fun t5 t6 t37 t38 t39 aQ aP aO aN aH aK aL=>k ⟨tmL [(1,.ptr 1 0),(5,.int .i64 t5),(6,.int .i64 t6),(37,.sl .rect t37),(38,.int .i64 t38),(39,.int .i64 t39)],obL [(1,.cells [.str aQ,.str aP,.int .i64 aO,.int .i64 aN,.sl .rect aH,.sl .rect aK,.sl .rect aL])]⟩)
def bJa:=(cL (cB (cS (cF (cS (bo Tryz.f56))))))
def bJ9:=(cL (cB (cS (cF (cS4 (bo Tryz.f56))))))
def aGp (F:Nat) (K:zK) (n r:Nat):xW:=aBh fun s=>iter (aVf F 0 bJa) (uI 0 0) n r s K
def aGo (F:Nat) (K:zK) (n r:Nat):xV:=aKR fun s=>iter (aVf F 2 bJ9) (uI 0 2) n r s K
def aRv (F:Nat) (Post:aB UU->Prop):zK:=bJ 0 (aNZ F 0 (cS (cS (bo Tryz.f56))) (bH oY false Tryz.f56 Post))
def aRu (F:Nat) (Post:aB UU->Prop):zK:=bJ 2 (aNZ F 0 (cS4 (cS (bo Tryz.f56))) (bH oY false Tryz.f56 Post))
theorem aQL (F:Nat) (K:zK):∀n r,aGo F K n r=aDV F (aKR (K (.exit 2))) n
 |0,_=>by kernel_rfl
 |n+1,r=>Eq.trans (b:=aTj (aGo F K n (r+1)) (aKR (K (.exit 2)))) (by kernel_rfl) (by rewrite[aQL F K n (r+1)];kernel_rfl)
theorem bDY (F:Nat) (Post:aB UU->Prop):aGo F (aRu F Post) F 0=aJ6 F (fun r0=>Post (.int .i64 r0)):=
 (aQL F _ F 0).trans (by kernel_rfl)
theorem aQM (F:Nat) (K:zK):∀n r,aGp F K n r=aAc F (aBh (K .ret)) (aBh (K (.exit 0))) n
 |0,_=>by kernel_rfl
 |n+1,r=>Eq.trans (b:=aTk (aGp F K n (r+1)) (aBh (K .ret)) (aBh (K (.exit 0)))) (by kernel_rfl) (by rewrite[aQM F K n (r+1)];kernel_rfl)
theorem bDZ (F:Nat) (Post:aB UU->Prop):aGp F (aRv F Post) F 0=aEk F (fun r0=>Post (.int .i64 r0)):=
 (aQM F _ F 0).trans (Eq.trans (b:=aAc F (aTn (fun r0=>Post (.int .i64 r0))) (aTm (fun r0=>Post (.int .i64 r0)) (aGo F (aRu F Post) F 0)) F) (by kernel_rfl) (by rewrite[bDY F Post];kernel_rfl))
theorem bHK (F:Nat) (Post:aB UU->Prop) (qa qb:ByteArray) (qc qd:Int) (qe qj qk:List aA):exec oY Tryz.f56.ntmps uI F 0 (bo Tryz.f56) (cQ [.agg [.str qa,.str qb,.int .i64 qc,.int .i64 qd,.sl .rect qe,.sl .rect qj,.sl .rect qk]]) (bH oY false Tryz.f56 Post)=aM5 F qa qb qc qd qe qj qk (fun r0=>Post (.int .i64 r0)):=
 Eq.trans (b:=aTl qa qb qc qd qe qj qk (fun r0=>Post (.int .i64 r0)) (aGp F (aRv F Post) F 0)) (by kernel_rfl) (by rewrite[bDZ F Post];kernel_rfl)
def aOf:Model UU
 |[.agg [.str qa,.str qb,.int .i64 qc,.int .i64 qd,.sl .rect qe,.sl .rect qj,.sl .rect qk]]=>some ([aIu qa qb qc qd qe qj qk],.int .i64 (vC qa qb qc qd qe qj qk))
 |_=>none
def nV:Cfg UU:=oY.add 56 aOf
theorem aYt:aX nV:=cM aZE mixed Tryz.func56 (by kernel_rfl) (by kernel_rfl) fun xs cs r h hc=>by
 unfold aOf at h;split at h
 ·rename_i qa qb qc qd qe qj qk;cases h;obtain⟨F,hF⟩:=bC9 qa qb qc qd qe qj qk hc;exact⟨by kernel_rfl,uI,F,false,⟨by rw[bHK];exact hF _ rfl⟩⟩
 ·cases h
set_option maxRecDepth 100000
def qG (F:Nat):=bW (bC kY F 0 nV) nV Tryz.f26.ntmps kY F
def q9 (F:Nat):=cO (bC kY F 0 nV) nV Tryz.f26.ntmps kY F
def aCF (k:ASt UU->Prop):kW:=(fun t2 t29 t30 t31 aQ aP aO aN aH aK aL bN bG=>k ⟨tmL [(1,.ptr 1 0),(2,.int .i64 t2),(29,.sl .pc t29),(30,.int .i64 t30),(31,.int .i64 t31)],obL [(1,.cells [.str aQ,.str aP,.int .i64 aO,.int .i64 aN,.int .i64 aH,.int .i64 aK,.sl .rect aL,.sl .rect bN,.sl .pc bG])]⟩)
def wM (k:ASt UU->Prop):uG:=(fun t2 t49 t50 t51 aQ aP aO aN aH aK aL bN bG cN cI dO dN=>k ⟨tmL [(1,.ptr 1 0),(2,.int .i64 t2),(7,.ptr 7 0),(49,.sl .pc t49),(50,.int .i64 t50),(51,.int .i64 t51)],obL [(1,.cells [.str aQ,.str aP,.int .i64 aO,.int .i64 aN,.int .i64 aH,.int .i64 aK,.sl .rect aL,.sl .rect bN,.sl .pc bG]),(7,.cells [.int .i64 cN,.int .i64 cI,.int .i64 dO,.int .i64 dN])]⟩)
def aCE (k:ASt UU->Prop):yO:=(fun t2 t49 t50 t51 t56 t57 t58 aQ aP aO aN aH aK aL bN bG cN cI dO dN=>k ⟨tmL [(1,.ptr 1 0),(2,.int .i64 t2),(7,.ptr 7 0),(49,.sl .pc t49),(50,.int .i64 t50),(51,.int .i64 t51),(56,.sl .rect t56),(57,.int .i64 t57),(58,.int .i64 t58)],obL [(1,.cells [.str aQ,.str aP,.int .i64 aO,.int .i64 aN,.int .i64 aH,.int .i64 aK,.sl .rect aL,.sl .rect bN,.sl .pc bG]),(7,.cells [.int .i64 cN,.int .i64 cI,.int .i64 dO,.int .i64 dN])]⟩)
def wL (k:ASt UU->Prop):kW:=(fun t2 t83 t84 t85 aQ aP aO aN aH aK aL bN bG=>k ⟨tmL [(1,.ptr 1 0),(2,.int .i64 t2),(83,.sl .pc t83),(84,.int .i64 t84),(85,.int .i64 t85)],obL [(1,.cells [.str aQ,.str aP,.int .i64 aO,.int .i64 aN,.int .i64 aH,.int .i64 aK,.sl .rect aL,.sl .rect bN,.sl .pc bG])]⟩)
def wK (k:ASt UU->Prop):uF:=(fun t2 t83 t84 t85 t93 t94 t95 aQ aP aO aN aH aK aL bN bG cY cX cV cU gW gO iK=>k ⟨tmL [(1,.ptr 1 0),(2,.int .i64 t2),(13,.ptr 13 0),(83,.sl .pc t83),(84,.int .i64 t84),(85,.int .i64 t85),(93,.sl .pc t93),(94,.int .i64 t94),(95,.int .i64 t95)],obL [(1,.cells [.str aQ,.str aP,.int .i64 aO,.int .i64 aN,.int .i64 aH,.int .i64 aK,.sl .rect aL,.sl .rect bN,.sl .pc bG]),(13,.cells [.str cY,.str cX,.int .i64 cV,.int .i64 cU,.sl .rect gW,.sl .rect gO,.sl .rect iK])]⟩)
def aCD (k:ASt UU->Prop):yN:=(fun t2 t83 t84 t85 t93 t94 t95 t100 t101 t102 aQ aP aO aN aH aK aL bN bG cY cX cV cU gW gO iK aCf aCe aCd aCc xG aCb aCa=>k ⟨tmL [(1,.ptr 1 0),(2,.int .i64 t2),(13,.ptr 13 0),(15,.ptr 15 0),(83,.sl .pc t83),(84,.int .i64 t84),(85,.int .i64 t85),(93,.sl .pc t93),(94,.int .i64 t94),(95,.int .i64 t95),(100,.sl .rect t100),(101,.int .i64 t101),(102,.int .i64 t102)],obL [(1,.cells [.str aQ,.str aP,.int .i64 aO,.int .i64 aN,.int .i64 aH,.int .i64 aK,.sl .rect aL,.sl .rect bN,.sl .pc bG]),(13,.cells [.str cY,.str cX,.int .i64 cV,.int .i64 cU,.sl .rect gW,.sl .rect gO,.sl .rect iK]),(15,.cells [.str aCf,.str aCe,.int .i64 aCd,.int .i64 aCc,.sl .rect xG,.sl .rect aCb,.sl .rect aCa])]⟩)
def bKX:=(cL (cB (cS (cF (cS (cS (cS (bo Tryz.f26))))))))
def aGa:=(cL (cB (cS (cF (cS4 (cS (bo Tryz.f26)))))))
def bKW:=(cL (cB (cS (cS (cB (cF (cS (cS aGa))))))))
def aG9:=(cL (cB (cS (cF (cS4 (cS (cS (bo Tryz.f26))))))))
def aG8:=(cL (cB (cS (cS (cB (cF (cS (cS aG9))))))))
def bKV:=(cL (cB (cS (cS (cB (cF (cS (cS aG8))))))))
def aHc (F:Nat) (K:zK) (n r:Nat):kW:=aCF fun s=>iter (qG F 0 bKX) (kY 0 0) n r s K
def aDC (F:Nat) (K:zK) (n r:Nat):uG:=wM fun s=>iter (qG F 2 aGa) (kY 0 2) n r s K
def aHb (F:Nat) (K:zK) (n r:Nat):yO:=aCE fun s=>iter (qG F 4 bKW) (kY 0 4) n r s K
def aDB (F:Nat) (K:zK) (n r:Nat):kW:=wL fun s=>iter (qG F 6 aG9) (kY 0 6) n r s K
def aDA (F:Nat) (K:zK) (n r:Nat):uF:=wK fun s=>iter (qG F 8 aG8) (kY 0 8) n r s K
def aHa (F:Nat) (K:zK) (n r:Nat):yN:=aCD fun s=>iter (qG F 10 bKV) (kY 0 10) n r s K
def aTD (F:Nat) (Post:aB UU->Prop):zK:=bJ 0 (q9 F 0 (cS4 (bo Tryz.f26)) (bH nV false Tryz.f26 Post))
def aTC (F:Nat) (Post:aB UU->Prop):zK:=bJ 2 (q9 F 0 (cS4 (cS (cS (bo Tryz.f26)))) (bH nV false Tryz.f26 Post))
def aTB (F n r:Nat) (K:zK):zK:=bJ 4 (bJ 3 (q9 F 2 (cS (cS (cS aGa))) (fW (qG F 2 aGa) (kY 0 2) n r K)))
def aTA (F:Nat) (Post:aB UU->Prop):zK:=bJ 6 (q9 F 0 (cS4 (cS (cS (cS (bo Tryz.f26))))) (bH nV false Tryz.f26 Post))
def aSz (F n r:Nat) (K:zK):zK:=bJ 8 (bJ 7 (q9 F 6 (cS (cS (cS aG9))) (fW (qG F 6 aG9) (kY 0 6) n r K)))
def aSy (F n r:Nat) (K:zK):zK:=bJ 10 (bJ 9 (q9 F 8 (cS (cS (cS aG8))) (fW (qG F 8 aG8) (kY 0 8) n r K)))
theorem aRS (F:Nat) (K:zK):∀n r,aHb F K n r=aDg F (aCE (K .ret)) (aCE (K (.exit 4))) n
 |0,_=>by kernel_rfl
 |n+1,r=>Eq.trans (b:=aVH (aHb F K n (r+1)) (aCE (K .ret)) (aCE (K (.exit 4)))) (by kernel_rfl) (by rewrite[aRS F K n (r+1)];kernel_rfl)
theorem bE5 (F n r:Nat) (K:zK):aHb F (aTB F n r K) F 0=aJu F (aDC F K n (r+1)) (wM (K (.exit 2))) (wM (K .ret)):=
 (aRS F _ F 0).trans (by kernel_rfl)
theorem aRP (F:Nat) (K:zK):∀n r,aHa F K n r=aDf F (aCD (K .ret)) (aCD (K (.exit 10))) n
 |0,_=>by kernel_rfl
 |n+1,r=>Eq.trans (b:=aVE (aHa F K n (r+1)) (aCD (K .ret)) (aCD (K (.exit 10)))) (by kernel_rfl) (by rewrite[aRP F K n (r+1)];kernel_rfl)
theorem bE2 (F n r:Nat) (K:zK):aHa F (aSy F n r K) F 0=aJs F (aDA F K n (r+1)) (wK (K (.exit 8))) (wK (K .ret)):=
 (aRP F _ F 0).trans (by kernel_rfl)
theorem aRQ (F:Nat) (K:zK):∀n r,aDA F K n r=uX F (wK (K (.exit 8))) (wK (K .ret)) n
 |0,_=>by kernel_rfl
 |n+1,r=>Eq.trans (b:=aVF (aDA F K n (r+1)) (wK (K (.exit 8))) (wK (K .ret)) (aHa F (aSy F n r K) F 0)) (by kernel_rfl) (by rewrite[bE2 F n r K,aRQ F K n (r+1)];kernel_rfl)
theorem bE3 (F n r:Nat) (K:zK):aDA F (aSz F n r K) F 0=aJt F (aDB F K n (r+1)) (wL (K (.exit 6))) (wL (K .ret)):=
 (aRQ F _ F 0).trans (by kernel_rfl)
theorem aRR (F:Nat) (K:zK):∀n r,aDB F K n r=uY F (wL (K (.exit 6))) (wL (K .ret)) n
 |0,_=>by kernel_rfl
 |n+1,r=>Eq.trans (b:=aVG (aDB F K n (r+1)) (wL (K (.exit 6))) (wL (K .ret)) (aDA F (aSz F n r K) F 0)) (by kernel_rfl) (by rewrite[bE3 F n r K,aRR F K n (r+1)];kernel_rfl)
theorem bE4 (F:Nat) (Post:aB UU->Prop):aDB F (aTA F Post) F 0=tG F (fun r0=>Post (.int .i64 r0)):=
 (aRR F _ F 0).trans (by kernel_rfl)
theorem aRT (F:Nat) (K:zK):∀n r,aDC F K n r=sC F (wM (K (.exit 2))) (wM (K .ret)) n
 |0,_=>by kernel_rfl
 |n+1,r=>Eq.trans (b:=aVI (aDC F K n (r+1)) (wM (K (.exit 2))) (wM (K .ret)) (aHb F (aTB F n r K) F 0)) (by kernel_rfl) (by rewrite[bE5 F n r K,aRT F K n (r+1)];kernel_rfl)
theorem bE6 (F:Nat) (Post:aB UU->Prop):aDC F (aTC F Post) F 0=w9 F (fun r0=>Post (.int .i64 r0)):=
 (aRT F _ F 0).trans (Eq.trans (b:=sC F (aGB (fun r0=>Post (.int .i64 r0)) (aDB F (aTA F Post) F 0)) (aGA (fun r0=>Post (.int .i64 r0))) F) (by kernel_rfl) (by rewrite[bE4 F Post];kernel_rfl))
theorem aRU (F:Nat) (K:zK):∀n r,aHc F K n r=aAw F (aCF (K .ret)) (aCF (K (.exit 0))) n
 |0,_=>by kernel_rfl
 |n+1,r=>Eq.trans (b:=aVJ (aHc F K n (r+1)) (aCF (K .ret)) (aCF (K (.exit 0)))) (by kernel_rfl) (by rewrite[aRU F K n (r+1)];kernel_rfl)
theorem bE7 (F:Nat) (Post:aB UU->Prop):aHc F (aTD F Post) F 0=aJv F (fun r0=>Post (.int .i64 r0)):=
 (aRU F _ F 0).trans (Eq.trans (b:=aAw F (aLW (fun r0=>Post (.int .i64 r0))) (aLV (fun r0=>Post (.int .i64 r0)) (aDC F (aTC F Post) F 0)) F) (by kernel_rfl) (by rewrite[bE6 F Post];kernel_rfl))
theorem bHd (F:Nat) (Post:aB UU->Prop) (y0 y1:ByteArray) (y2 y3 y4 y5:Int) (y6 y7:List aA) (y8:List Pce):exec nV Tryz.f26.ntmps kY F 0 (bo Tryz.f26) (cQ [.agg [.str y0,.str y1,.int .i64 y2,.int .i64 y3,.int .i64 y4,.int .i64 y5,.sl .rect y6,.sl .rect y7,.sl .pc y8]]) (bH nV false Tryz.f26 Post)=aIN F y0 y1 y2 y3 y4 y5 y6 y7 y8 (fun r0=>Post (.int .i64 r0)):=
 Eq.trans (b:=aLU y0 y1 y2 y3 y4 y5 y6 y7 y8 (fun r0=>Post (.int .i64 r0)) (aHc F (aTD F Post) F 0)) (by kernel_rfl) (by rewrite[bE7 F Post];kernel_rfl)
def aPI:Model UU
 |[.agg [.str y0,.str y1,.int .i64 y2,.int .i64 y3,.int .i64 y4,.int .i64 y5,.sl .rect y6,.sl .rect y7,.sl .pc y8]]=>some ([aJJ y0 y1 y2 y3 y4 y5 y6 y7 y8],.int .i64 (kI y0 y1 y2 y3 y4 y5 y6 y7 y8))
 |_=>none
def rN:Cfg UU:=nV.add 26 aPI
theorem aZV:aX rN:=cM aYt mixed Tryz.func26 (by kernel_rfl) (by kernel_rfl) fun xs cs r h hc=>by
 unfold aPI at h;split at h
 ·rename_i y0 y1 y2 y3 y4 y5 y6 y7 y8;cases h;obtain⟨F,hF⟩:=bDC y0 y1 y2 y3 y4 y5 y6 y7 y8 hc;exact⟨by kernel_rfl,kY,F,false,⟨by rw[bHd];exact hF _ rfl⟩⟩
 ·cases h
set_option maxRecDepth 100000
def bI6 (F:Nat):=bW (bC zM F 0 rN) rN Tryz.f136.ntmps zM F
def bBH (F:Nat):=cO (bC zM F 0 rN) rN Tryz.f136.ntmps zM F
def aKf (k:ASt UU->Prop):yI:=(fun t0 t4 t5 t6=>k ⟨tmL [(0,.sl .rect t0),(4,.int .i64 t4),(5,.int .i64 t5),(6,.int .i64 t6)],obL []⟩)
def bKN:=(cL (cB (cS (cF (cS (cS (bo Tryz.f136)))))))
def aH2 (F:Nat) (K:zK) (n r:Nat):yI:=aKf fun s=>iter (bI6 F 0 bKN) (zM 0 0) n r s K
def aSo (F:Nat) (Post:aB UU->Prop):zK:=bJ 0 (bBH F 0 (cS (cS (cS (bo Tryz.f136)))) (bH rN false Tryz.f136 Post))
theorem aRF (F:Nat) (K:zK):∀n r,aH2 F K n r=aD9 F (aKf (K (.exit 0))) n
 |0,_=>by kernel_rfl
 |n+1,r=>Eq.trans (b:=aUp (aH2 F K n (r+1)) (aKf (K (.exit 0)))) (by kernel_rfl) (by rewrite[aRF F K n (r+1)];kernel_rfl)
theorem bES (F:Nat) (Post:aB UU->Prop):aH2 F (aSo F Post) F 0=aJq F (fun r0 r1=>Post (.tup [.int .i64 r0,.int .i64 r1])):=
 (aRF F _ F 0).trans (by kernel_rfl)
theorem bH6 (F:Nat) (Post:aB UU->Prop) (a0:List aA):exec rN Tryz.f136.ntmps zM F 0 (bo Tryz.f136) (cQ [.sl .rect a0]) (bH rN false Tryz.f136 Post)=aMj F a0 (fun r0 r1=>Post (.tup [.int .i64 r0,.int .i64 r1])):=
 Eq.trans (b:=aUq a0 (fun r0 r1=>Post (.tup [.int .i64 r0,.int .i64 r1])) (aH2 F (aSo F Post) F 0)) (by kernel_rfl) (by rewrite[bES F Post];kernel_rfl)
def aPB:Model UU
 |[.sl .rect a0]=>some ([aJG a0],.tup [.int .i64 ((k8 a0).1),.int .i64 ((k8 a0).2)])
 |_=>none
def rJ:Cfg UU:=rN.add 136 aPB
theorem aZP:aX rJ:=cM aZV mixed Tryz.func136 (by kernel_rfl) (by kernel_rfl) fun xs cs r h hc=>by
 unfold aPB at h;split at h
 ·rename_i a0;cases h;obtain⟨F,hF⟩:=bCv a0 hc;exact⟨by kernel_rfl,zM,F,false,⟨by rw[bH6];exact hF _ rfl⟩⟩
 ·cases h
def bI5 (F:Nat):=bW (bC zL F 0 rJ) rJ Tryz.f138.ntmps zL F
def bBG (F:Nat):=cO (bC zL F 0 rJ) rJ Tryz.f138.ntmps zL F
def aBz (k:ASt UU->Prop):yH:=(fun t1 t4 t5 aS aR aU aT=>k ⟨tmL [(1,.sl .rect t1),(2,.ptr 2 0),(4,.bool t4),(5,.int .i64 t5)],obL [(2,.cells [.int .i64 aS,.int .i64 aR,.int .i64 aU,.int .i64 aT])]⟩)
def bKM:=(cL (cB (cS (cF (cS (bo Tryz.f138))))))
def aH1 (F:Nat) (K:zK) (n r:Nat):yH:=aBz fun s=>iter (bI5 F 0 bKM) (zL 0 0) n r s K
def aSn (F:Nat) (Post:aB UU->Prop):zK:=bJ 0 (bBG F 0 (cS (cS (bo Tryz.f138))) (bH rJ false Tryz.f138 Post))
theorem aRE (F:Nat) (K:zK):∀n r,aH1 F K n r=aD8 F (aBz (K .ret)) (aBz (K (.exit 0))) n
 |0,_=>by kernel_rfl
 |n+1,r=>Eq.trans (b:=aUn (aH1 F K n (r+1)) (aBz (K .ret)) (aBz (K (.exit 0)))) (by kernel_rfl) (by rewrite[aRE F K n (r+1)];kernel_rfl)
theorem bER (F:Nat) (Post:aB UU->Prop):aH1 F (aSn F Post) F 0=aEs F (fun r0=>Post (.bool r0)):=
 (aRE F _ F 0).trans (by kernel_rfl)
theorem bH5 (F:Nat) (Post:aB UU->Prop) (aE aD aG aF:Int) (a1:List aA):exec rJ Tryz.f138.ntmps zL F 0 (bo Tryz.f138) (cQ [.agg [.int .i64 aE,.int .i64 aD,.int .i64 aG,.int .i64 aF],.sl .rect a1]) (bH rJ false Tryz.f138 Post)=aMi F aE aD aG aF a1 (fun r0=>Post (.bool r0)):=
 Eq.trans (b:=aUo aE aD aG aF a1 (fun r0=>Post (.bool r0)) (aH1 F (aSn F Post) F 0)) (by kernel_rfl) (by rewrite[bER F Post];kernel_rfl)
def aPA:Model UU
 |[.agg [.int .i64 aE,.int .i64 aD,.int .i64 aG,.int .i64 aF],.sl .rect a1]=>some ([aJF aE aD aG aF a1],.bool (aDv aE aD aG aF a1))
 |_=>none
def rI:Cfg UU:=rJ.add 138 aPA
theorem aZO:aX rI:=cM aZP mixed Tryz.func138 (by kernel_rfl) (by kernel_rfl) fun xs cs r h hc=>by
 unfold aPA at h;split at h
 ·rename_i aE aD aG aF a1;cases h;obtain⟨F,hF⟩:=bCu aE aD aG aF a1 hc;exact⟨by kernel_rfl,zL,F,false,⟨by rw[bH5];exact hF _ rfl⟩⟩
 ·cases h
def bI7 (F:Nat):=bW (bC zN F 0 rI) rI Tryz.f69.ntmps zN F
def bBI (F:Nat):=cO (bC zN F 0 rI) rI Tryz.f69.ntmps zN F
def aCA (k:ASt UU->Prop):yJ:=(fun t1 t4 t5 aS aR aU aT=>k ⟨tmL [(1,.sl .rect t1),(2,.ptr 2 0),(4,.bool t4),(5,.int .i64 t5)],obL [(2,.cells [.int .i64 aS,.int .i64 aR,.int .i64 aU,.int .i64 aT])]⟩)
def bKO:=(cL (cB (cS (cF (cS (bo Tryz.f69))))))
def aH3 (F:Nat) (K:zK) (n r:Nat):yJ:=aCA fun s=>iter (bI7 F 0 bKO) (zN 0 0) n r s K
def aSp (F:Nat) (Post:aB UU->Prop):zK:=bJ 0 (bBI F 0 (cS (cS (bo Tryz.f69))) (bH rI false Tryz.f69 Post))
theorem aRG (F:Nat) (K:zK):∀n r,aH3 F K n r=aDa F (aCA (K .ret)) (aCA (K (.exit 0))) n
 |0,_=>by kernel_rfl
 |n+1,r=>Eq.trans (b:=aUr (aH3 F K n (r+1)) (aCA (K .ret)) (aCA (K (.exit 0)))) (by kernel_rfl) (by rewrite[aRG F K n (r+1)];kernel_rfl)
theorem bET (F:Nat) (Post:aB UU->Prop):aH3 F (aSp F Post) F 0=aEt F (fun r0=>Post (.bool r0)):=
 (aRG F _ F 0).trans (by kernel_rfl)
theorem bH7 (F:Nat) (Post:aB UU->Prop) (aE aD aG aF:Int) (a1:List aA):exec rI Tryz.f69.ntmps zN F 0 (bo Tryz.f69) (cQ [.agg [.int .i64 aE,.int .i64 aD,.int .i64 aG,.int .i64 aF],.sl .rect a1]) (bH rI false Tryz.f69 Post)=aMk F aE aD aG aF a1 (fun r0=>Post (.bool r0)):=
 Eq.trans (b:=aUs aE aD aG aF a1 (fun r0=>Post (.bool r0)) (aH3 F (aSp F Post) F 0)) (by kernel_rfl) (by rewrite[bET F Post];kernel_rfl)
def aPC:Model UU
 |[.agg [.int .i64 aE,.int .i64 aD,.int .i64 aG,.int .i64 aF],.sl .rect a1]=>some ([s7 aE aD aG aF a1],.bool (sO aE aD aG aF a1))
 |_=>none
def rK:Cfg UU:=rI.add 69 aPC
theorem aZQ:aX rK:=cM aZO mixed Tryz.func69 (by kernel_rfl) (by kernel_rfl) fun xs cs r h hc=>by
 unfold aPC at h;split at h
 ·rename_i aE aD aG aF a1;cases h;obtain⟨F,hF⟩:=bCw aE aD aG aF a1 hc;exact⟨by kernel_rfl,zN,F,false,⟨by rw[bH7];exact hF _ rfl⟩⟩
 ·cases h
def aLd (F:Nat):=bW (bC qO F 0 rK) rK Tryz.f137.ntmps qO F
def aN0 (F:Nat):=cO (bC qO F 0 rK) rK Tryz.f137.ntmps qO F
def aFO (k:ASt UU->Prop):uA:=(fun t0 t5 jY gB=>k ⟨tmL [(0,.sl .rect t0),(3,.osl 56 0),(4,.osl 57 0),(5,.int .i64 t5)],obL [(56,.row .bool 0 jY),(57,.row .int 0 gB)]⟩)
def aK1 (k:ASt UU->Prop):xZ:=(fun t0 t5 t6 jY gB=>k ⟨tmL [(0,.sl .rect t0),(3,.osl 56 0),(4,.osl 57 0),(5,.int .i64 t5),(6,.int .i64 t6)],obL [(56,.row .bool 0 jY),(57,.row .int 0 gB)]⟩)
def aG0:=(cL (cB (cS (cF (cS4 (bo Tryz.f137))))))
def bJr:=(cL (cB (cS (cB (cF (cS aG0))))))
def aCr (F:Nat) (K:zK) (n r:Nat):uA:=aFO fun s=>iter (aLd F 0 aG0) (qO 0 0) n r s K
def aHG (F:Nat) (K:zK) (n r:Nat):xZ:=aK1 fun s=>iter (aLd F 2 bJr) (qO 0 2) n r s K
def aSV (F:Nat) (Post:aB UU->Prop):zK:=bJ 0 (aN0 F 0 (cS4 (cS (bo Tryz.f137))) (bH rK false Tryz.f137 Post))
def aSU (F n r:Nat) (K:zK):zK:=bJ 2 (bJ 1 (aN0 F 0 (cS (cS aG0)) (fW (aLd F 0 aG0) (qO 0 0) n r K)))
theorem aQb (F:Nat) (K:zK):∀n r,aHG F K n r=aD0 F (aK1 (K (.exit 2))) n
 |0,_=>by kernel_rfl
 |n+1,r=>Eq.trans (b:=aUN (aHG F K n (r+1)) (aK1 (K (.exit 2)))) (by kernel_rfl) (by rewrite[aQb F K n (r+1)];kernel_rfl)
theorem bDo (F n r:Nat) (K:zK):aHG F (aSU F n r K) F 0=aJf F (aCr F K n (r+1)) (aFO (K (.exit 0))):=
 (aQb F _ F 0).trans (by kernel_rfl)
theorem aQc (F:Nat) (K:zK):∀n r,aCr F K n r=b9 F (aFO (K (.exit 0))) n
 |0,_=>by kernel_rfl
 |n+1,r=>Eq.trans (b:=aUO (aCr F K n (r+1)) (aFO (K (.exit 0))) (aHG F (aSU F n r K) F 0)) (by kernel_rfl) (by rewrite[bDo F n r K,aQc F K n (r+1)];kernel_rfl)
theorem bDp (F:Nat) (Post:aB UU->Prop):aCr F (aSV F Post) F 0=aOF F (fun r0=>Post (.bool r0)):=
 (aQc F _ F 0).trans (by kernel_rfl)
theorem bHS (F:Nat) (Post:aB UU->Prop) (a0:List aA):exec rK Tryz.f137.ntmps qO F 0 (bo Tryz.f137) (cQ [.sl .rect a0]) (bH rK false Tryz.f137 Post)=aM9 F a0 (fun r0=>Post (.bool r0)):=
 Eq.trans (b:=aUP a0 (fun r0=>Post (.bool r0)) (aCr F (aSV F Post) F 0)) (by kernel_rfl) (by rewrite[bDp F Post];kernel_rfl)
def aOn:Model UU
 |[.sl .rect a0]=>some ([aIz a0],.bool (aDt a0))
 |_=>none
def qZ:Cfg UU:=rK.add 137 aOn
theorem aZB:aX qZ:=cM aZQ mixed Tryz.func137 (by kernel_rfl) (by kernel_rfl) fun xs cs r h hc=>by
 unfold aOn at h;split at h
 ·rename_i a0;cases h;obtain⟨F,hF⟩:=bCh a0 hc;exact⟨by kernel_rfl,qO,F,false,⟨by rw[bHS];exact hF _ rfl⟩⟩
 ·cases h
def bI9 (F:Nat):=bW (bC zP F 0 qZ) qZ Tryz.f182.ntmps zP F
def bBK (F:Nat):=cO (bC zP F 0 qZ) qZ Tryz.f182.ntmps zP F
def aKh (k:ASt UU->Prop):yK:=(fun t0 t1 t2 t8 t9 pY=>k ⟨tmL [(0,.sl .rect t0),(1,.int .i64 t1),(2,.int .i64 t2),(7,.osl 60 0),(8,.int .i64 t8),(9,.int .i64 t9)],obL [(60,.row .rect 0 pY)]⟩)
def bKQ:=(cL (cB (cS (cF (cS (cS (cS (bo Tryz.f182))))))))
def aH5 (F:Nat) (K:zK) (n r:Nat):yK:=aKh fun s=>iter (bI9 F 0 bKQ) (zP 0 0) n r s K
def aSr (F:Nat) (Post:aB UU->Prop):zK:=bJ 0 (bBK F 0 (cS4 (bo Tryz.f182)) (bH qZ true Tryz.f182 Post))
theorem aRI (F:Nat) (K:zK):∀n r,aH5 F K n r=aDc F (aKh (K (.exit 0))) n
 |0,_=>by kernel_rfl
 |n+1,r=>Eq.trans (b:=aUu (aH5 F K n (r+1)) (aKh (K (.exit 0)))) (by kernel_rfl) (by rewrite[aRI F K n (r+1)];kernel_rfl)
theorem bEV (F:Nat) (Post:aB UU->Prop):aH5 F (aSr F Post) F 0=aEu F (fun r0=>Post (.new .rect r0)):=
 (aRI F _ F 0).trans (by kernel_rfl)
theorem bH9 (F:Nat) (Post:aB UU->Prop) (a0:List aA) (a1 a2:Int):exec qZ Tryz.f182.ntmps zP F 0 (bo Tryz.f182) (cQ [.sl .rect a0,.int .i64 a1,.int .i64 a2]) (bH qZ true Tryz.f182 Post)=aMm F a0 a1 a2 (fun r0=>Post (.new .rect r0)):=
 Eq.trans (b:=aUv a0 a1 a2 (fun r0=>Post (.new .rect r0)) (aH5 F (aSr F Post) F 0)) (by kernel_rfl) (by rewrite[bEV F Post];kernel_rfl)
def aPE:Model UU
 |[.sl .rect a0,.int .i64 a1,.int .i64 a2]=>some ([sX a0 a1 a2],.new .rect (sP a0 a1 a2))
 |_=>none
def aXG:Cfg UU:=qZ.add 182 aPE
theorem aZS:aX aXG:=cM aZB mixed Tryz.func182 (by kernel_rfl) (by kernel_rfl) fun xs cs r h hc=>by
 unfold aPE at h;split at h
 ·rename_i a0 a1 a2;cases h;obtain⟨F,hF⟩:=bCy a0 a1 a2 hc;exact⟨by kernel_rfl,zP,F,true,⟨by rw[bH9];exact hF _ rfl⟩⟩
 ·cases h
set_option maxRecDepth 100000
def aPY:Model UU
 |[.agg [.str qa,.str qb,.int .i64 qc,.int .i64 qd,.sl .rect qe,.sl .rect qj,.sl .rect qk],.int .i64 a1,.int .i64 a2]=>some ([aE2 qa qb qc qd qe qj qk a1 a2],.agg [.str ((gL qa qb qc qd qe qj qk a1 a2).1),.str ((gL qa qb qc qd qe qj qk a1 a2).2.1),.int .i64 ((gL qa qb qc qd qe qj qk a1 a2).2.2.1),.int .i64 ((gL qa qb qc qd qe qj qk a1 a2).2.2.2.1),.sl .rect ((gL qa qb qc qd qe qj qk a1 a2).2.2.2.2.1),.sl .rect ((gL qa qb qc qd qe qj qk a1 a2).2.2.2.2.2.1),.sl .rect ((gL qa qb qc qd qe qj qk a1 a2).2.2.2.2.2.2)])
 |_=>none
def nY:Cfg UU:=aXG.add 135 aPY
theorem aZb:aX nY:=cM aZS mixed Tryz.func135 (by kernel_rfl) (by kernel_rfl) fun xs cs r h hc=>by
 unfold aPY at h;split at h
 ·rename_i qa qb qc qd qe qj qk a1 a2;cases h;refine⟨by kernel_rfl,M0,0,false,⟨nH (fun Q:ByteArray->ByteArray->Int->Int->(List aA)->(List aA)->(List aA)->Prop=>((sX qe a1 a2)/\((sX qj a1 a2)/\((sX qk a1 a2)/\Q qa qb qc qd (sP qe a1 a2) (sP qj a1 a2) (sP qk a1 a2))))) (fun Q=>Q ((gL qa qb qc qd qe qj qk a1 a2).1) ((gL qa qb qc qd qe qj qk a1 a2).2.1) ((gL qa qb qc qd qe qj qk a1 a2).2.2.1) ((gL qa qb qc qd qe qj qk a1 a2).2.2.2.1) ((gL qa qb qc qd qe qj qk a1 a2).2.2.2.2.1) ((gL qa qb qc qd qe qj qk a1 a2).2.2.2.2.2.1) ((gL qa qb qc qd qe qj qk a1 a2).2.2.2.2.2.2)) (fun vN vO vQ vP vM vS vR=>(.agg [.str vN,.str vO,.int .i64 vQ,.int .i64 vP,.sl .rect vM,.sl .rect vS,.sl .rect vR]:aB UU)=.agg [.str ((gL qa qb qc qd qe qj qk a1 a2).1),.str ((gL qa qb qc qd qe qj qk a1 a2).2.1),.int .i64 ((gL qa qb qc qd qe qj qk a1 a2).2.2.1),.int .i64 ((gL qa qb qc qd qe qj qk a1 a2).2.2.2.1),.sl .rect ((gL qa qb qc qd qe qj qk a1 a2).2.2.2.2.1),.sl .rect ((gL qa qb qc qd qe qj qk a1 a2).2.2.2.2.2.1),.sl .rect ((gL qa qb qc qd qe qj qk a1 a2).2.2.2.2.2.2)]) (by kernel_rfl) (fun Q h=>?_) rfl⟩⟩
  try dsimp only at h ⊢
  unfold gL at h;have hp:aE2 qa qb qc qd qe qj qk a1 a2:=hc;unfold aE2 at hp;obtain⟨jO,hp⟩:=hp;refine⟨jO,?_⟩;obtain⟨aCO,hp⟩:=hp;refine⟨aCO,?_⟩;have aKt:=hp;refine⟨aKt,?_⟩;exact h
 ·cases h
set_option maxRecDepth 100000
def aC3 (F:Nat):=bW (bC nU F 0 nY) nY Tryz.f67.ntmps nU F
def aET (F:Nat):=cO (bC nU F 0 nY) nY Tryz.f67.ntmps nU F
def aBw (k:ASt UU->Prop):yE:=(fun t2 t6 aQ aP aO aN aH aK aL=>k ⟨tmL [(1,.ptr 1 0),(2,.int .i64 t2),(6,.int .i64 t6)],obL [(1,.cells [.str aQ,.str aP,.int .i64 aO,.int .i64 aN,.sl .rect aH,.sl .rect aK,.sl .rect aL])]⟩)
def aBv (k:ASt UU->Prop):yD:=(fun t2 t8 aQ aP aO aN aH aK aL dD=>k ⟨tmL [(1,.ptr 1 0),(2,.int .i64 t2),(7,.osl 159 0),(8,.int .i64 t8)],obL [(159,.row .rect 0 dD),(1,.cells [.str aQ,.str aP,.int .i64 aO,.int .i64 aN,.sl .rect aH,.sl .rect aK,.sl .rect aL])]⟩)
def wI (k:ASt UU->Prop):Int->Int->List aA->Prop:=(fun t2 t9 dD=>k ⟨tmL [(2,.int .i64 t2),(7,.osl 159 0),(9,.int .i64 t9)],obL [(159,.row .rect 0 dD)]⟩)
def aBu (k:ASt UU->Prop):yC:=(fun t2 t9 t10 dD=>k ⟨tmL [(2,.int .i64 t2),(7,.osl 159 0),(9,.int .i64 t9),(10,.int .i64 t10)],obL [(159,.row .rect 0 dD)]⟩)
def bKE:=(cL (cB (cS (cF (cS4 (cS (cS (cS (bo Tryz.f67)))))))))
def bKD:=(cL (cB (cS (cF (cS4 (cS4 (cS (cS (bo Tryz.f67)))))))))
def aG5:=(cL (cB (cS (cF (cS4 (cS4 (cS (cS (cS (bo Tryz.f67))))))))))
def bKC:=(cL (cB (cS (cB (cF (cS aG5))))))
def aHT (F:Nat) (K:zK) (n r:Nat):yE:=aBw fun s=>iter (aC3 F 0 bKE) (nU 0 0) n r s K
def aHS (F:Nat) (K:zK) (n r:Nat):yD:=aBv fun s=>iter (aC3 F 2 bKD) (nU 0 2) n r s K
def aCx (F:Nat) (K:zK) (n r:Nat):Int->Int->List aA->Prop:=wI fun s=>iter (aC3 F 4 aG5) (nU 0 4) n r s K
def aHR (F:Nat) (K:zK) (n r:Nat):yC:=aBu fun s=>iter (aC3 F 6 bKC) (nU 0 6) n r s K
def aSf (F:Nat) (Post:aB UU->Prop):zK:=bJ 0 (aET F 0 (cS4 (cS4 (bo Tryz.f67))) (bH nY false Tryz.f67 Post))
def aSe (F:Nat) (Post:aB UU->Prop):zK:=bJ 2 (aET F 0 (cS4 (cS4 (cS (cS (cS (bo Tryz.f67)))))) (bH nY false Tryz.f67 Post))
def aSd (F:Nat) (Post:aB UU->Prop):zK:=bJ 4 (aET F 0 (cS4 (cS4 (cS4 (bo Tryz.f67)))) (bH nY false Tryz.f67 Post))
def aSc (F n r:Nat) (K:zK):zK:=bJ 6 (bJ 5 (aET F 4 (cS (cS aG5)) (fW (aC3 F 4 aG5) (nU 0 4) n r K)))
theorem aQt (F:Nat) (K:zK):∀n r,aHR F K n r=aD3 F (aBu (K .ret)) (aBu (K (.exit 6))) n
 |0,_=>by kernel_rfl
 |n+1,r=>Eq.trans (b:=aU4 (aHR F K n (r+1)) (aBu (K .ret)) (aBu (K (.exit 6)))) (by kernel_rfl) (by rewrite[aQt F K n (r+1)];kernel_rfl)
theorem bEG (F n r:Nat) (K:zK):aHR F (aSc F n r K) F 0=aJn F (aCx F K n (r+1)) (wI (K (.exit 4))) (wI (K .ret)):=
 (aQt F _ F 0).trans (by kernel_rfl)
theorem aQu (F:Nat) (K:zK):∀n r,aCx F K n r=uV F (wI (K (.exit 4))) (wI (K .ret)) n
 |0,_=>by kernel_rfl
 |n+1,r=>Eq.trans (b:=aU5 (aCx F K n (r+1)) (wI (K (.exit 4))) (wI (K .ret)) (aHR F (aSc F n r K) F 0)) (by kernel_rfl) (by rewrite[bEG F n r K,aQu F K n (r+1)];kernel_rfl)
theorem bEH (F:Nat) (Post:aB UU->Prop):aCx F (aSd F Post) F 0=aB5 F (fun r0=>Post (.int .i64 r0)):=
 (aQu F _ F 0).trans (by kernel_rfl)
theorem aQv (F:Nat) (K:zK):∀n r,aHS F K n r=aAp F (aBv (K .ret)) (aBv (K (.exit 2))) n
 |0,_=>by kernel_rfl
 |n+1,r=>Eq.trans (b:=aU6 (aHS F K n (r+1)) (aBv (K .ret)) (aBv (K (.exit 2)))) (by kernel_rfl) (by rewrite[aQv F K n (r+1)];kernel_rfl)
theorem bEI (F:Nat) (Post:aB UU->Prop):aHS F (aSe F Post) F 0=aEp F (fun r0=>Post (.int .i64 r0)):=
 (aQv F _ F 0).trans (Eq.trans (b:=aAp F (aLR (fun r0=>Post (.int .i64 r0))) (aLQ (fun r0=>Post (.int .i64 r0)) (aCx F (aSd F Post) F 0)) F) (by kernel_rfl) (by rewrite[bEH F Post];kernel_rfl))
theorem aQw (F:Nat) (K:zK):∀n r,aHT F K n r=aAq F (aBw (K .ret)) (aBw (K (.exit 0))) n
 |0,_=>by kernel_rfl
 |n+1,r=>Eq.trans (b:=aU7 (aHT F K n (r+1)) (aBw (K .ret)) (aBw (K (.exit 0)))) (by kernel_rfl) (by rewrite[aQw F K n (r+1)];kernel_rfl)
theorem bEJ (F:Nat) (Post:aB UU->Prop):aHT F (aSf F Post) F 0=aJo F (fun r0=>Post (.int .i64 r0)):=
 (aQw F _ F 0).trans (Eq.trans (b:=aAq F (aU9 (fun r0=>Post (.int .i64 r0))) (aU8 (fun r0=>Post (.int .i64 r0)) (aHS F (aSe F Post) F 0)) F) (by kernel_rfl) (by rewrite[bEI F Post];kernel_rfl))
theorem bHX (F:Nat) (Post:aB UU->Prop) (qa qb:ByteArray) (qc qd:Int) (qe qj qk:List aA):exec nY Tryz.f67.ntmps nU F 0 (bo Tryz.f67) (cQ [.agg [.str qa,.str qb,.int .i64 qc,.int .i64 qd,.sl .rect qe,.sl .rect qj,.sl .rect qk]]) (bH nY false Tryz.f67 Post)=aIL F qa qb qc qd qe qj qk (fun r0=>Post (.int .i64 r0)):=
 Eq.trans (b:=aLP qa qb qc qd qe qj qk (fun r0=>Post (.int .i64 r0)) (aHT F (aSf F Post) F 0)) (by kernel_rfl) (by rewrite[bEJ F Post];kernel_rfl)
def aOs:Model UU
 |[.agg [.str qa,.str qb,.int .i64 qc,.int .i64 qd,.sl .rect qe,.sl .rect qj,.sl .rect qk]]=>some ([aJC qa qb qc qd qe qj qk],.int .i64 (aDu qa qb qc qd qe qj qk))
 |_=>none
def rC:Cfg UU:=nY.add 67 aOs
theorem aZG:aX rC:=cM aZb mixed Tryz.func67 (by kernel_rfl) (by kernel_rfl) fun xs cs r h hc=>by
 unfold aOs at h;split at h
 ·rename_i qa qb qc qd qe qj qk;cases h;obtain⟨F,hF⟩:=bCm qa qb qc qd qe qj qk hc;exact⟨by kernel_rfl,nU,F,false,⟨by rw[bHX];exact hF _ rfl⟩⟩
 ·cases h
set_option maxRecDepth 100000
def bI3 (F:Nat):=bW (bC zI F 0 rC) rC Tryz.f66.ntmps zI F
def bBE (F:Nat):=cO (bC zI F 0 rC) rC Tryz.f66.ntmps zI F
def aKe (k:ASt UU->Prop):yG:=(fun t4 t5 t6 aQ aP aO aN aH aK aL aS aR aU aT=>k ⟨tmL [(1,.ptr 1 0),(2,.ptr 2 0),(4,.int .i64 t4),(5,.int .i64 t5),(6,.int .i64 t6)],obL [(1,.cells [.str aQ,.str aP,.int .i64 aO,.int .i64 aN,.sl .rect aH,.sl .rect aK,.sl .rect aL]),(2,.cells [.str aS,.str aR,.int .i64 aU,.int .i64 aT,.nils,.nils,.nils])]⟩)
def bKK:=(cL (cB (cS (cF (cS4 (bo Tryz.f66))))))
def aHZ (F:Nat) (K:zK) (n r:Nat):yG:=aKe fun s=>iter (bI3 F 0 bKK) (zI 0 0) n r s K
def aSl (F:Nat) (Post:aB UU->Prop):zK:=bJ 0 (bBE F 0 (cS4 (cS (bo Tryz.f66))) (bH rC false Tryz.f66 Post))
theorem aRC (F:Nat) (K:zK):∀n r,aHZ F K n r=aD7 F (aKe (K (.exit 0))) n
 |0,_=>by kernel_rfl
 |n+1,r=>Eq.trans (b:=aUj (aHZ F K n (r+1)) (aKe (K (.exit 0)))) (by kernel_rfl) (by rewrite[aRC F K n (r+1)];kernel_rfl)
theorem bEP (F:Nat) (Post:aB UU->Prop):aHZ F (aSl F Post) F 0=aJp F (fun vN vO vQ vP vM vS vR r1=>Post (.tup [.agg [.str vN,.str vO,.int .i64 vQ,.int .i64 vP,.sl .rect vM,.sl .rect vS,.sl .rect vR],.bool r1])):=
 (aRC F _ F 0).trans (by kernel_rfl)
theorem bH3 (F:Nat) (Post:aB UU->Prop) (qa qb:ByteArray) (qc qd:Int) (qe qj qk:List aA):exec rC Tryz.f66.ntmps zI F 0 (bo Tryz.f66) (cQ [.agg [.str qa,.str qb,.int .i64 qc,.int .i64 qd,.sl .rect qe,.sl .rect qj,.sl .rect qk]]) (bH rC false Tryz.f66 Post)=aMg F qa qb qc qd qe qj qk (fun vN vO vQ vP vM vS vR r1=>Post (.tup [.agg [.str vN,.str vO,.int .i64 vQ,.int .i64 vP,.sl .rect vM,.sl .rect vS,.sl .rect vR],.bool r1])):=
 Eq.trans (b:=aUk qa qb qc qd qe qj qk (fun vN vO vQ vP vM vS vR r1=>Post (.tup [.agg [.str vN,.str vO,.int .i64 vQ,.int .i64 vP,.sl .rect vM,.sl .rect vS,.sl .rect vR],.bool r1])) (aHZ F (aSl F Post) F 0)) (by kernel_rfl) (by rewrite[bEP F Post];kernel_rfl)
def aOy:Model UU
 |[.agg [.str qa,.str qb,.int .i64 qc,.int .i64 qd,.sl .rect qe,.sl .rect qj,.sl .rect qk]]=>some ([aJE qa qb qc qd qe qj qk],.tup [.agg [.str ((iM qa qb qc qd qe qj qk).1),.str ((iM qa qb qc qd qe qj qk).2.1),.int .i64 ((iM qa qb qc qd qe qj qk).2.2.1),.int .i64 ((iM qa qb qc qd qe qj qk).2.2.2.1),.sl .rect ((iM qa qb qc qd qe qj qk).2.2.2.2.1),.sl .rect ((iM qa qb qc qd qe qj qk).2.2.2.2.2.1),.sl .rect ((iM qa qb qc qd qe qj qk).2.2.2.2.2.2.1)],.bool ((iM qa qb qc qd qe qj qk).2.2.2.2.2.2.2)])
 |_=>none
def nX:Cfg UU:=rC.add 66 aOy
theorem aZM:aX nX:=cM aZG mixed Tryz.func66 (by kernel_rfl) (by kernel_rfl) fun xs cs r h hc=>by
 unfold aOy at h;split at h
 ·rename_i qa qb qc qd qe qj qk;cases h;obtain⟨F,hF⟩:=bCs qa qb qc qd qe qj qk hc;exact⟨by kernel_rfl,zI,F,false,⟨by rw[bH3];exact hF _ rfl⟩⟩
 ·cases h
set_option maxRecDepth 100000
def qF (F:Nat):=bW (bC kX F 0 nX) nX Tryz.f30.ntmps kX F
def q8 (F:Nat):=cO (bC kX F 0 nX) nX Tryz.f30.ntmps kX F
def aBm (k:ASt UU->Prop):kV:=(fun t2 t4 aQ aP aO aN aH aK aL bN bG=>k ⟨tmL [(1,.ptr 1 0),(2,.int .i64 t2),(4,.int .i64 t4)],obL [(1,.cells [.str aQ,.str aP,.int .i64 aO,.int .i64 aN,.int .i64 aH,.int .i64 aK,.sl .rect aL,.sl .rect bN,.sl .pc bG])]⟩)
def wF (k:ASt UU->Prop):tZ:=(fun t2 t8 aQ aP aO aN aH aK aL bN bG cN cI dO dN=>k ⟨tmL [(1,.ptr 1 0),(2,.int .i64 t2),(7,.ptr 7 0),(8,.int .i64 t8)],obL [(1,.cells [.str aQ,.str aP,.int .i64 aO,.int .i64 aN,.int .i64 aH,.int .i64 aK,.sl .rect aL,.sl .rect bN,.sl .pc bG]),(7,.cells [.int .i64 cN,.int .i64 cI,.int .i64 dO,.int .i64 dN])]⟩)
def aBl (k:ASt UU->Prop):xY:=(fun t2 t8 t9 t10 aQ aP aO aN aH aK aL bN bG cN cI dO dN=>k ⟨tmL [(1,.ptr 1 0),(2,.int .i64 t2),(7,.ptr 7 0),(8,.int .i64 t8),(9,.sl .rect t9),(10,.int .i64 t10)],obL [(1,.cells [.str aQ,.str aP,.int .i64 aO,.int .i64 aN,.int .i64 aH,.int .i64 aK,.sl .rect aL,.sl .rect bN,.sl .pc bG]),(7,.cells [.int .i64 cN,.int .i64 cI,.int .i64 dO,.int .i64 dN])]⟩)
def wE (k:ASt UU->Prop):kV:=(fun t2 t11 aQ aP aO aN aH aK aL bN bG=>k ⟨tmL [(1,.ptr 1 0),(2,.int .i64 t2),(11,.int .i64 t11)],obL [(1,.cells [.str aQ,.str aP,.int .i64 aO,.int .i64 aN,.int .i64 aH,.int .i64 aK,.sl .rect aL,.sl .rect bN,.sl .pc bG])]⟩)
def wD (k:ASt UU->Prop):tY:=(fun t2 t11 t12 aQ aP aO aN aH aK aL bN bG=>k ⟨tmL [(1,.ptr 1 0),(2,.int .i64 t2),(11,.int .i64 t11),(12,.int .i64 t12)],obL [(1,.cells [.str aQ,.str aP,.int .i64 aO,.int .i64 aN,.int .i64 aH,.int .i64 aK,.sl .rect aL,.sl .rect bN,.sl .pc bG])]⟩)
def aBk (k:ASt UU->Prop):xX:=(fun t2 t11 t12 t13 aQ aP aO aN aH aK aL bN bG=>k ⟨tmL [(1,.ptr 1 0),(2,.int .i64 t2),(11,.int .i64 t11),(12,.int .i64 t12),(13,.int .i64 t13)],obL [(1,.cells [.str aQ,.str aP,.int .i64 aO,.int .i64 aN,.int .i64 aH,.int .i64 aK,.sl .rect aL,.sl .rect bN,.sl .pc bG])]⟩)
def bJj:=(cL (cB (cS (cF (cS4 (bo Tryz.f30))))))
def aGZ:=(cL (cB (cS (cF (cS4 (cS (cS (bo Tryz.f30))))))))
def bJi:=(cL (cB (cS (cS (cB (cF (cS aGZ)))))))
def aGY:=(cL (cB (cS (cF (cS4 (cS (cS (cS (bo Tryz.f30)))))))))
def aGX:=(cL (cB (cS (cB (cF (cS aGY))))))
def bJh:=(cL (cB (cS (cB (cF (cS aGX))))))
def aGy (F:Nat) (K:zK) (n r:Nat):kV:=aBm fun s=>iter (qF F 0 bJj) (kX 0 0) n r s K
def aCq (F:Nat) (K:zK) (n r:Nat):tZ:=wF fun s=>iter (qF F 2 aGZ) (kX 0 2) n r s K
def aGx (F:Nat) (K:zK) (n r:Nat):xY:=aBl fun s=>iter (qF F 4 bJi) (kX 0 4) n r s K
def aCp (F:Nat) (K:zK) (n r:Nat):kV:=wE fun s=>iter (qF F 6 aGY) (kX 0 6) n r s K
def aCo (F:Nat) (K:zK) (n r:Nat):tY:=wD fun s=>iter (qF F 8 aGX) (kX 0 8) n r s K
def aGw (F:Nat) (K:zK) (n r:Nat):xX:=aBk fun s=>iter (qF F 10 bJh) (kX 0 10) n r s K
def aSL (F:Nat) (Post:aB UU->Prop):zK:=bJ 0 (q8 F 0 (cS4 (cS (bo Tryz.f30))) (bH nX false Tryz.f30 Post))
def aSK (F:Nat) (Post:aB UU->Prop):zK:=bJ 2 (q8 F 0 (cS4 (cS (cS (cS (bo Tryz.f30))))) (bH nX false Tryz.f30 Post))
def aSJ (F n r:Nat) (K:zK):zK:=bJ 4 (bJ 3 (q8 F 2 (cS (cS aGZ)) (fW (qF F 2 aGZ) (kX 0 2) n r K)))
def aSI (F:Nat) (Post:aB UU->Prop):zK:=bJ 6 (q8 F 0 (cS4 (cS4 (bo Tryz.f30))) (bH nX false Tryz.f30 Post))
def aSH (F n r:Nat) (K:zK):zK:=bJ 8 (bJ 7 (q8 F 6 (cS (cS aGY)) (fW (qF F 6 aGY) (kX 0 6) n r K)))
def aSG (F n r:Nat) (K:zK):zK:=bJ 10 (bJ 9 (q8 F 8 (cS (cS aGX)) (fW (qF F 8 aGX) (kX 0 8) n r K)))
theorem aQ0 (F:Nat) (K:zK):∀n r,aGx F K n r=aDX F (aBl (K .ret)) (aBl (K (.exit 4))) n
 |0,_=>by kernel_rfl
 |n+1,r=>Eq.trans (b:=aTx (aGx F K n (r+1)) (aBl (K .ret)) (aBl (K (.exit 4)))) (by kernel_rfl) (by rewrite[aQ0 F K n (r+1)];kernel_rfl)
theorem bDd (F n r:Nat) (K:zK):aGx F (aSJ F n r K) F 0=aJc F (aCq F K n (r+1)) (wF (K (.exit 2))) (wF (K .ret)):=
 (aQ0 F _ F 0).trans (by kernel_rfl)
theorem aQX (F:Nat) (K:zK):∀n r,aGw F K n r=aDW F (aBk (K .ret)) (aBk (K (.exit 10))) n
 |0,_=>by kernel_rfl
 |n+1,r=>Eq.trans (b:=aTu (aGw F K n (r+1)) (aBk (K .ret)) (aBk (K (.exit 10)))) (by kernel_rfl) (by rewrite[aQX F K n (r+1)];kernel_rfl)
theorem bDa (F n r:Nat) (K:zK):aGw F (aSG F n r K) F 0=aJa F (aCo F K n (r+1)) (wD (K (.exit 8))) (wD (K .ret)):=
 (aQX F _ F 0).trans (by kernel_rfl)
theorem aQY (F:Nat) (K:zK):∀n r,aCo F K n r=uR F (wD (K (.exit 8))) (wD (K .ret)) n
 |0,_=>by kernel_rfl
 |n+1,r=>Eq.trans (b:=aTv (aCo F K n (r+1)) (wD (K (.exit 8))) (wD (K .ret)) (aGw F (aSG F n r K) F 0)) (by kernel_rfl) (by rewrite[bDa F n r K,aQY F K n (r+1)];kernel_rfl)
theorem bDb (F n r:Nat) (K:zK):aCo F (aSH F n r K) F 0=aJb F (aCp F K n (r+1)) (wE (K (.exit 6))) (wE (K .ret)):=
 (aQY F _ F 0).trans (by kernel_rfl)
theorem aQZ (F:Nat) (K:zK):∀n r,aCp F K n r=uS F (wE (K (.exit 6))) (wE (K .ret)) n
 |0,_=>by kernel_rfl
 |n+1,r=>Eq.trans (b:=aTw (aCp F K n (r+1)) (wE (K (.exit 6))) (wE (K .ret)) (aCo F (aSH F n r K) F 0)) (by kernel_rfl) (by rewrite[bDb F n r K,aQZ F K n (r+1)];kernel_rfl)
theorem bDc (F:Nat) (Post:aB UU->Prop):aCp F (aSI F Post) F 0=tF F (fun r0=>Post (.int .i64 r0)):=
 (aQZ F _ F 0).trans (by kernel_rfl)
theorem aQ1 (F:Nat) (K:zK):∀n r,aCq F K n r=sA F (wF (K (.exit 2))) (wF (K .ret)) n
 |0,_=>by kernel_rfl
 |n+1,r=>Eq.trans (b:=aTy (aCq F K n (r+1)) (wF (K (.exit 2))) (wF (K .ret)) (aGx F (aSJ F n r K) F 0)) (by kernel_rfl) (by rewrite[bDd F n r K,aQ1 F K n (r+1)];kernel_rfl)
theorem bDe (F:Nat) (Post:aB UU->Prop):aCq F (aSK F Post) F 0=w8 F (fun r0=>Post (.int .i64 r0)):=
 (aQ1 F _ F 0).trans (Eq.trans (b:=sA F (aFf (fun r0=>Post (.int .i64 r0)) (aCp F (aSI F Post) F 0)) (aFe (fun r0=>Post (.int .i64 r0))) F) (by kernel_rfl) (by rewrite[bDc F Post];kernel_rfl))
theorem aQ2 (F:Nat) (K:zK):∀n r,aGy F K n r=aAg F (aBm (K .ret)) (aBm (K (.exit 0))) n
 |0,_=>by kernel_rfl
 |n+1,r=>Eq.trans (b:=aTz (aGy F K n (r+1)) (aBm (K .ret)) (aBm (K (.exit 0)))) (by kernel_rfl) (by rewrite[aQ2 F K n (r+1)];kernel_rfl)
theorem bDf (F:Nat) (Post:aB UU->Prop):aGy F (aSL F Post) F 0=aJd F (fun r0=>Post (.int .i64 r0)):=
 (aQ2 F _ F 0).trans (Eq.trans (b:=aAg F (aLD (fun r0=>Post (.int .i64 r0))) (aLC (fun r0=>Post (.int .i64 r0)) (aCq F (aSK F Post) F 0)) F) (by kernel_rfl) (by rewrite[bDe F Post];kernel_rfl))
theorem bHN (F:Nat) (Post:aB UU->Prop) (y0 y1:ByteArray) (y2 y3 y4 y5:Int) (y6 y7:List aA) (y8:List Pce):exec nX Tryz.f30.ntmps kX F 0 (bo Tryz.f30) (cQ [.agg [.str y0,.str y1,.int .i64 y2,.int .i64 y3,.int .i64 y4,.int .i64 y5,.sl .rect y6,.sl .rect y7,.sl .pc y8]]) (bH nX false Tryz.f30 Post)=aIF F y0 y1 y2 y3 y4 y5 y6 y7 y8 (fun r0=>Post (.int .i64 r0)):=
 Eq.trans (b:=aLB y0 y1 y2 y3 y4 y5 y6 y7 y8 (fun r0=>Post (.int .i64 r0)) (aGy F (aSL F Post) F 0)) (by kernel_rfl) (by rewrite[bDf F Post];kernel_rfl)
def aOi:Model UU
 |[.agg [.str y0,.str y1,.int .i64 y2,.int .i64 y3,.int .i64 y4,.int .i64 y5,.sl .rect y6,.sl .rect y7,.sl .pc y8]]=>some ([aIx y0 y1 y2 y3 y4 y5 y6 y7 y8],.int .i64 (j9 y0 y1 y2 y3 y4 y5 y6 y7 y8))
 |_=>none
def nW:Cfg UU:=nX.add 30 aOi
theorem aYw:aX nW:=cM aZM mixed Tryz.func30 (by kernel_rfl) (by kernel_rfl) fun xs cs r h hc=>by
 unfold aOi at h;split at h
 ·rename_i y0 y1 y2 y3 y4 y5 y6 y7 y8;cases h;obtain⟨F,hF⟩:=bCc y0 y1 y2 y3 y4 y5 y6 y7 y8 hc;exact⟨by kernel_rfl,kX,F,false,⟨by rw[bHN];exact hF _ rfl⟩⟩
 ·cases h
end
end Go.Proofs.YtjjbojomlfgjlaaGreatDoor
