/- Lemmas, walks and laws of this proof, part 8. Conditions: those that each names. -/
import Derived.Test.YtgcpildegdgekaaGreatDoorMM6
import Derived.Test.YtgcpildegdgekaaGreatDoorMM7
import Derived.Test.YtgcpildegdgekaaGreatDoorMM4
import Derived.Lib.AtoiTie
import Derived.Lib.SplitLaws
import Derived.Shelf.Small.Bits
import Derived.Shelf.Small.Wraps
import Derived.Shelf.Strings.Search1
import Derived.Shelf.Strings.Search2
import Derived.Shelf.Strings.Search3
import Derived.Shelf.LaysM
import Derived.Shelf.LaysC
import Derived.Shelf.Strings.Shaped
import Derived.Shelf.Strings.SplitShaped
import Derived.Shelf.Strings.Builder1
import Derived.Shelf.Strconv.Itoa3
import Derived.Shelf.Strconv.ErrVarAll
import Derived.Test.YtgcpildegdgekaaGreatDoorProg
import Derived.Test.YtgcpildegdgekaaGreatDoorMM3
import Derived.RangeFuncKeeps
import Derived.RangeFuncLeaves
import Derived.Shelf.Abstract
import Derived.WalkKit
import Derived.OwnWalkIn
import Derived.TacticsInMore
import Derived.LoopNIn
import Derived.LoopIn
import Derived.Shelf.RegionOpen
import Derived.Test.YtgcpildegdgekaaGreatDoorMM5
set_option maxRecDepth 100000
set_option linter.unusedVariables false
namespace Go.Proofs.YtgcpildegdgekaaGreatDoor
open Go.Proofs.Tryz
open Go.RowKit Go.Vm
noncomputable section
def aAa:Model UU
 |[.int .i64 a0,.sl .int u,.agg [.int .i64 f,.int .i64 j]]=>some ([yH a0 u f j],.agg [.i ((gG a0 u f j).1),.i ((gG a0 u f j).2.1),.i ((gG a0 u f j).2.2.1),.i ((gG a0 u f j).2.2.2.1),.i ((gG a0 u f j).2.2.2.2.1),.i ((gG a0 u f j).2.2.2.2.2)])
 |_=>none
def aJh:Cfg UU:=aJ8.add 68 aAa
theorem aNQ:aE aJh:=dN aMw mixed func68 KA KA fun xs cs r h V=>by
 unfold aAa at h;split at h
 ·rename_i a0 f j u;cases h;refine⟨KA,M0,0,false,⟨iY (fun Q:Int->Int->Int->Int->Int->Int->Prop=>cond (decide (2<=(f.length:Int))) (((0<=(0:Int)/\(0:Int)<f.length)/\((0<=(1:Int)/\(1:Int)<f.length)/\cond ((a0==3)&&(decide (4<=(f.length:Int)))) (((0<=(2:Int)/\(2:Int)<f.length)/\((0<=(3:Int)/\(3:Int)<f.length)/\Q a0 (aB ((f.getD 0 default)+j)) (aB ((f.getD 1 default)+u)) (f.getD 2 default) (f.getD 3 default) 0))) (Q a0 (aB ((f.getD 0 default)+j)) (aB ((f.getD 1 default)+u)) 0 0 0)))) (cond ((a0==3)&&(decide (4<=(f.length:Int)))) (((0<=(2:Int)/\(2:Int)<f.length)/\((0<=(3:Int)/\(3:Int)<f.length)/\Q a0 0 0 (f.getD 2 default) (f.getD 3 default) 0))) (Q a0 0 0 0 0 0))) (fun Q=>Q ((gG a0 f j u).1) ((gG a0 f j u).2.1) ((gG a0 f j u).2.2.1) ((gG a0 f j u).2.2.2.1) ((gG a0 f j u).2.2.2.2.1) ((gG a0 f j u).2.2.2.2.2)) (fun eJ eD eC eH eK eI=>(.agg [.i eJ,.i eD,.i eC,.i eH,.i eK,.i eI]:aC UU)=.agg [.i ((gG a0 f j u).1),.i ((gG a0 f j u).2.1),.i ((gG a0 f j u).2.2.1),.i ((gG a0 f j u).2.2.2.1),.i ((gG a0 f j u).2.2.2.2.1),.i ((gG a0 f j u).2.2.2.2.2)]) KA (fun Q h=>?_) rfl⟩⟩
  try dsimp only at h ⊢
  unfold gG at h;have hp:yH a0 f j u:=V;unfold yH at hp;cases J:(decide (2<=(f.length:Int)))
  ·try simp only[J,QK] at h hp ⊢
   cases L:(((a0==3)&&(decide (4<=(f.length:Int)))))
   ·try simp only[L,QK] at h hp ⊢
    exact h
   ·try simp only[L,QY] at h hp ⊢
    obtain⟨S,hp⟩:=hp;refine⟨S,?_⟩;have Ot:=hp;refine⟨Ot,?_⟩;exact h
  ·try simp only[J,QY] at h hp ⊢
   obtain⟨Oq,hp⟩:=hp;refine⟨Oq,?_⟩;obtain⟨Z,hp⟩:=hp;refine⟨Z,?_⟩;cases O:(((a0==3)&&(decide (4<=(f.length:Int)))))
   ·try simp only[O,QK] at h hp ⊢
    exact h
   ·try simp only[O,QY] at h hp ⊢
    obtain⟨G,hp⟩:=hp;refine⟨G,?_⟩;have I:=hp;refine⟨I,?_⟩;exact h
 ·cases h
def aAl:Model UU
 |[.int .i64 a0,.sl .int u,.agg [.int .i64 f,.int .i64 j]]=>some ([Uy a0 u f j],.agg [.i ((kY a0 u f j).1),.i ((kY a0 u f j).2.1),.i ((kY a0 u f j).2.2.1),.i ((kY a0 u f j).2.2.2.1),.i ((kY a0 u f j).2.2.2.2.1),.i ((kY a0 u f j).2.2.2.2.2)])
 |_=>none
def aJr:Cfg UU:=aJh.add 67 aAl
theorem aN1:aE aJr:=dN aNQ mixed func67 KA KA fun xs cs r h G=>by
 unfold aAl at h;split at h
 ·rename_i a0 f j u;cases h;refine⟨KA,M0,0,false,⟨iY (fun Q:Int->Int->Int->Int->Int->Int->Prop=>((yH a0 f 0 0)/\Q ((gG a0 f 0 0).1) ((gG a0 f 0 0).2.1) ((gG a0 f 0 0).2.2.1) ((gG a0 f 0 0).2.2.2.1) ((gG a0 f 0 0).2.2.2.2.1) ((gG a0 f 0 0).2.2.2.2.2))) (fun Q=>Q ((kY a0 f j u).1) ((kY a0 f j u).2.1) ((kY a0 f j u).2.2.1) ((kY a0 f j u).2.2.2.1) ((kY a0 f j u).2.2.2.2.1) ((kY a0 f j u).2.2.2.2.2)) (fun L V Z S J O=>(.agg [.i L,.i V,.i Z,.i S,.i J,.i O]:aC UU)=.agg [.i ((kY a0 f j u).1),.i ((kY a0 f j u).2.1),.i ((kY a0 f j u).2.2.1),.i ((kY a0 f j u).2.2.2.1),.i ((kY a0 f j u).2.2.2.2.1),.i ((kY a0 f j u).2.2.2.2.2)]) KA (fun Q h=>?_) rfl⟩⟩
  try dsimp only at h ⊢
  unfold kY at h;have hp:Uy a0 f j u:=G;unfold Uy at hp;have I:=hp;refine⟨I,?_⟩;exact h
 ·cases h
def aBD:Model UU
 |[.str a0,.str f]=>some ([Fx a0 f],.bool (vB a0 f))
 |_=>none
def aKH:Cfg UU:=aJr.add 119 aBD
theorem aNn:aE aKH:=dN aN1 mixed func119 KA KA fun xs I r h u=>by
 unfold aBD at h;split at h
 ·rename_i a0 f;cases h;refine⟨KA,M0,0,false,⟨iY (fun Q:Bool->Prop=>(((decide ((f.size:Int)<=(a0.size:Int)))=true->0<=(aB ((a0.size:Int)-(f.size:Int)))/\(aB ((a0.size:Int)-(f.size:Int)))<=a0.size)/\Q ((decide ((f.size:Int)<=(a0.size:Int)))&&((a0.extract ((aB ((a0.size:Int)-(f.size:Int))).toNat) a0.size)==f)))) (fun Q=>Q (vB a0 f)) (fun j=>(.bool j:aC UU)=.bool (vB a0 f)) KA (fun Q h=>?_) rfl⟩⟩
  try dsimp only at h ⊢
  unfold vB at h;have hp:Fx a0 f:=u;unfold Fx at hp;have G:=hp;refine⟨G,?_⟩;exact h
 ·cases h
def aBC:Model UU
 |[.str a0,.str f]=>some ([Fw a0 f],.str (Ac a0 f))
 |_=>none
def aKG:Cfg UU:=aKH.add 77 aBC
theorem aNm:aE aKG:=dN aNn mixed func77 KA KA fun xs L r h I=>by
 unfold aBC at h;split at h
 ·rename_i a0 f;cases h;refine⟨KA,M0,0,false,⟨iY (fun Q:ByteArray->Prop=>((Fx a0 f)/\cond (vB a0 f) (((0<=(aB ((a0.size:Int)-(f.size:Int)))/\(aB ((a0.size:Int)-(f.size:Int)))<=a0.size)/\Q (a0.extract 0 ((aB ((a0.size:Int)-(f.size:Int))).toNat)))) (Q a0))) (fun Q=>Q (Ac a0 f)) (fun G=>(.str G:aC UU)=.str (Ac a0 f)) KA (fun Q h=>?_) rfl⟩⟩
  try dsimp only at h ⊢
  unfold Ac at h;have hp:Fw a0 f:=I;unfold Fw at hp;obtain⟨J,hp⟩:=hp;refine⟨J,?_⟩;cases j:((vB a0 f))
  ·try simp only[j,QK] at h hp ⊢
   exact h
  ·try simp only[j,QY] at h hp ⊢
   have u:=hp;refine⟨u,?_⟩;exact h
 ·cases h
def aA4:Model UU
 |[.str a0,.str f]=>some ([Ar a0 f],.str (xS a0 f))
 |_=>none
def Ds:Cfg UU:=aKG.add 35 aA4
theorem aNI:aE Ds:=dN aNm mixed func35 KA KA fun xs I r h u=>by
 unfold aA4 at h;split at h
 ·rename_i a0 f;cases h;refine⟨KA,M0,0,false,⟨iY (fun Q:ByteArray->Prop=>((Fw a0 f)/\Q (Ac a0 f))) (fun Q=>Q (xS a0 f)) (fun j=>(.str j:aC UU)=.str (xS a0 f)) KA (fun Q h=>?_) rfl⟩⟩
  try dsimp only at h ⊢
  unfold xS at h;have hp:Ar a0 f:=u;unfold Ar at hp;have G:=hp;refine⟨G,?_⟩;exact h
 ·cases h
def aXw (F:Nat):=cX (aU Ik F 0 Ds) Ds f10.ntmps Ik F
def aPW (F:Nat):=cA (aU Ik F 0 Ds) Ds f10.ntmps Ik F
abbrev aIg:=List Opn->List Opn->Bool->Int->Prop
def Na (k:ASt UU->Prop):aIg:=(fun G u j f=>k ⟨tmL [(0,.sl .op G),(1,.sl .op u),(4,.bool j),(5,.i f)],obL []⟩)
def aZc:=(cL (cB (cS (cF (cS (cS (bo f10)))))))
def E0 (F:Nat) (K:zK) (n r:Nat):aIg:=Na fun s=>iter (aXw F 0 aZc) (Ik 0 0) n r s K
def aDc (F:Nat) (Post:aC UU->Prop):zK:=bW 0 (aPW F 0 (cS (cS (cS (bo f10)))) (bN Ds false f10 Post))
theorem aBq (F:Nat) (K:zK):∀n r,E0 F K n r=Ru F (Na (K .ret)) (Na (K (.exit 0))) n
 |0,_=>KA
 |n+1,r=>QG (b:=Gz (E0 F K n (r+1)) (Na (K .ret)) (Na (K (.exit 0)))) KA (by rewrite[aBq F K n (r+1)];kernel_rfl)
theorem aSH (F:Nat) (Post:aC UU->Prop):E0 F (aDc F Post) F 0=yq F (fun f=>Post (.bool f)):=
 (aBq F _ F 0).trans KA
def aAI:Model UU
 |[.sl .op a0,.sl .op f]=>some ([R1 a0 f],.bool (Ko a0 f))
 |_=>none
def oo:Cfg UU:=Ds.add 10 aAI
theorem O7:aE oo:=dN aNI mixed func10 KA KA fun xs I r h u=>by
 unfold aAI at h;split at h
 ·rename_i a0 j;cases h;obtain⟨F,hF⟩:=aRK a0 j u;exact⟨KA,Ik,F,false,fS fun Post G=>fT (QG (b:=fx a0 j (fun f=>Post (.bool f)) (E0 F (aDc F Post) F 0)) KA (by rewrite[aSH F Post];kernel_rfl)) (hF (fun f=>Post (.bool f)) G)⟩
 ·cases h
end
end Go.Proofs.YtgcpildegdgekaaGreatDoor
namespace Go.Proofs.YtgcpildegdgekaaGreatDoor
open Go.Proofs.Tryz
open Go.Vm Go.RowKit
def pcs (c:UInt8):List UInt8->List (List UInt8)
 |[]=>[[]]
 |b::l=>if b=c then []::pcs c l else match pcs c l with
  |[]=>[[b]]
  |p::ps=>(b::p)::ps
theorem Vo (c:UInt8):∀l,pcs c l≠[]
 |[]=>by simp[pcs]
 |b::l=>by
  unfold pcs;split
  ·simp
  ·split<;>simp
theorem xb (c b:UInt8) (l:List UInt8) (h:b≠c):∃p ps,pcs c l=p::ps/\pcs c (b::l)=(b::p)::ps:=by
 cases hp:pcs c l with
 |nil=>exact absurd hp (Vo c l)
 |cons p ps=>exact⟨p,ps,rfl,by rw[pcs,QF h,hp]⟩
theorem Vn {c:UInt8}:∀{l:List UInt8},c ∉ l->pcs c l=[l]
 |[],_=>rfl
 |b::l,h=>by
  rw[List.mem_cons,not_or] at h;rw[pcs,QF (fun e=>h.1 e.symm),Vn h.2]
theorem Me {c:UInt8}:∀{a l:List UInt8},c ∉ a->pcs c (a++c::l)=a::pcs c l
 |[],l,_=>by rw[List.nil_append,pcs,JQ rfl]
 |b::a,l,h=>by
  rw[List.mem_cons,not_or] at h;rw[List.cons_append,pcs,QF (fun e=>h.1 e.symm),Me h.2]
theorem Vp (c:UInt8):∀(l:List UInt8),∀p∈pcs c l,p.length<=l.length
 |[],p,hp=>by
  rw[pcs,JJ] at hp;subst hp;exact QP _
 |b::l,p,hp=>by
  by_cases h:b=c
  ·rw[pcs,JQ h] at hp;rcases List.mem_cons.1 hp with rfl|hp
   ·exact Nat.zero_le _
   ·exact Nat.le_succ_of_le (Vp c l p hp)
  ·obtain⟨q,j,e1,f⟩:=xb c b l h;rw[f] at hp;rcases List.mem_cons.1 hp with rfl|hp
   ·exact Nat.succ_le_succ (Vp c l q (by rw[e1];exact QI ..))
   ·exact Nat.le_succ_of_le (Vp c l p (by rw[e1];exact QA _ hp))
theorem S3 (c:UInt8):∀(l:List UInt8),(pcs c l).length<=l.length+1
 |[]=>QP _
 |b::l=>by
  by_cases h:b=c
  ·rw[pcs,JQ h];exact Nat.succ_le_succ (S3 c l)
  ·obtain⟨q,j,e1,f⟩:=xb c b l h;have:=S3 c l;rw[e1] at this;rw[f];exact Nat.le_succ_of_le this
theorem aEi {c:UInt8}:∀{a l:List UInt8},c ∉ a->Lib.index (a++c::l) [c]=(a.length:Int)
 |[],l,_=>by rw[List.nil_append,Lib.index_one,Lib.indexByte,JQ XQ];rfl
 |b::a,l,h=>by
  rw[List.mem_cons,not_or] at h;have f:=aEi (l:=l) h.2;rw[Lib.index_one] at f ⊢;rw[List.cons_append,Lib.indexByte,QF (by simpa using fun e=>h.1 e.symm),f,QF XQ];simp
theorem tc (c:UInt8):∀(k:Nat) (s:List UInt8),s.count c=k->Lib.splitK [c] 0 k s=pcs c s
 |0,s,h=>by
  rw[Lib.splitK,Vn (List.count_eq_zero.1 h)]
 |k+1,s,h=>by
  have hm:c∈s:=List.count_pos_iff.1 KI;obtain⟨a,l,rfl,f⟩:=List.eq_append_cons_of_mem hm;have j:l.count c=k:=by
   rw[List.count_append,List.count_eq_zero.2 f,List.count_cons_self] at h;omega
  rw[Lib.splitK,aEi f,Me f,QF XQ];have e1:((a.length:Int)).toNat=a.length:=KI;rw[e1];have u:(a++c::l).drop (a.length+[c].length)=l:=XQ;rw[u,tc c k l j];simp
theorem aHg:∀(a b:List UInt8) (f n:Nat),Lib.decFrom f a=some n->Lib.decFrom f (a++b)=Lib.decFrom n b
 |[],b,f,n,h=>by cases h;rfl
 |x::a,b,f,n,h=>by
  rw[List.cons_append,Lib.decFrom];rw[Lib.decFrom] at h;split at h
  ·rename_i d j;exact aHg a b _ n h
  ·cases h
theorem kr {d:Nat} (h:d<10):(UInt8.ofNat (48+d)).toNat=48+d:=by
 rw[UInt8.toNat_ofNat'];omega
theorem aHd {d:Nat} (h:d<10):Lib.digitVal (UInt8.ofNat (48+d))=some d:=by
 unfold Lib.digitVal;rw[kr h,JQ KI];simp
theorem aHf (u:Nat):Lib.decFrom 0 (Lib.decDigits u)=some u:=by
 induction u using Nat.strongRecOn with
 |_ u f=>
  rw[Lib.decDigits];split
  ·rename_i h;rw[Lib.decFrom,aHd h];simp[Lib.decFrom]
  ·rename_i h;rw[aHg _ _ _ _ (f (u / 10) KI),Lib.decFrom,aHd KI];simp only[Lib.decFrom,QJ];omega
theorem kq (u:Nat):∀b∈Lib.decDigits u,48<=b.toNat/\b.toNat<=57:=by
 induction u using Nat.strongRecOn with
 |_ u f=>
  rw[Lib.decDigits];split
  ·rename_i h;intro b hb;rw[JJ] at hb;subst hb;rw[kr h];omega
  ·rename_i h;intro b hb;rcases QO.1 hb with hb|hb
   ·exact f _ KI b hb
   ·rw[JJ] at hb;subst hb;rw[kr KI];omega
theorem aY8 (u:Nat):Lib.decDigits u≠[]:=by
 rw[Lib.decDigits];split<;>simp
theorem Zy:∀(k u:Nat),u<10^(k+1)->(Lib.decDigits u).length<=k+1
 |0,u,h=>by
  rw[Lib.decDigits,dif_pos (by simpa using h)];exact QP _
 |k+1,u,h=>by
  rw[Lib.decDigits];split
  ·simp
  ·rw[QM];have:=Zy k (u / 10) (by
    rw[Nat.pow_succ] at h;omega)
   simp only[JE];omega
theorem aEd {n:Int} (h: -9999999<=n/\n<=9999999):(Lib.itoa n).length<=8:=by
 unfold Lib.itoa;split
 ·rw[QN];have:=Zy 6 n.natAbs KI;omega
 ·have:=Zy 6 n.toNat KI;omega
theorem aUk {n:Int}:∀b∈Lib.itoa n,b=45\/(48<=b.toNat/\b.toNat<=57):=by
 unfold Lib.itoa;split
 ·intro b hb;rcases List.mem_cons.1 hb with rfl|hb
  ·exact .inl rfl
  ·exact .inr (kq _ b hb)
 ·exact fun b hb=>.inr (kq _ b hb)
theorem aEc {n:Int} {c:UInt8} (h:c.toNat<45):c ∉ Lib.itoa n:=fun hb=>by
 rcases aUk _ hb with rfl|q
 ·exact absurd h (by decide)
 ·omega
theorem aHc (u:Nat):∃b r,Lib.decDigits u=b::r/\¬(b==45)=true/\¬(b==43)=true:=by
 have hb:=kq u;cases j:Lib.decDigits u with
 |nil=>exact absurd j (aY8 _)
 |cons b r=>
  rw[j] at hb;have f:=hb b (QI ..);refine⟨b,r,rfl,fun e=>?_,fun e=>?_⟩
  ·have e:b=45:=by simpa using e
   rw[e] at f;exact absurd f.1 (by decide)
  ·have e:b=43:=by simpa using e
   rw[e] at f;exact absurd f.1 (by decide)
theorem bAy {n:Int} (h: -9999999<=n/\n<=9999999):Lib.atoiAll (Lib.itoa n)=.ok n:=by
 rw[Lib.atoiAll_short _ (JT (aEd h) (by decide))];unfold Lib.itoa;split
 ·obtain⟨b,r,e,_,_⟩:=aHc n.natAbs;have f:=aHf n.natAbs;rw[Lib.atoi,JQ (by decide)];rw[e] at f ⊢;unfold Lib.decNat;rw[f];have: -((n.natAbs:Nat):Int)=n:=KI;simp[Lib.NumEnd.ofOption,this]
 ·obtain⟨b,r,e,Yf,Gx⟩:=aHc n.toNat;have f:=aHf n.toNat;rw[e] at f ⊢;rw[Lib.atoi,QF Yf,QF Gx];unfold Lib.decNat;rw[f];have:((n.toNat:Nat):Int)=n:=KI;simp[Lib.NumEnd.ofOption,this]
end Go.Proofs.YtgcpildegdgekaaGreatDoor
namespace Go.Proofs
open Go.Proofs.Tryz
open Go.Shelf
def aUT:Go.Shelf.Ren:=⟨fun|172=>76|244=>117|245=>118|247=>161|279=>162|280=>163|281=>164|282=>165|287=>186|316=>187|171=>30|205=>188|321=>215|322=>216|243=>72|246=>114|283=>154|284=>155|285=>156|286=>157|129=>152|317=>179|318=>180|319=>181|320=>182|337=>212|338=>213|n=>n,fun|9=>9|3=>3|75=>87|76=>106|4=>4|5=>5|167=>254|37=>101|0=>0|85=>255|2=>2|168=>257|53=>248|175=>280|46=>196|210=>284|127=>151|145=>301|143=>299|21=>21|171=>249|173=>251|212=>275|51=>246|20=>20|213=>276|232=>307|233=>308|80=>110|n=>n,fun|15=>3|16=>4|17=>1|18=>5|19=>6|n=>n⟩
theorem av:Go.Proofs.LaysC.n172 prog aUT:=⟨⟨⟨KA,XJ func152,XJ func30,XJ func76,XJ func188,XJ func72,XJ func117,XJ func118,XJ func114,XJ func161,XJ func162,XJ func163,XJ func164,XJ func165,XJ func154,XJ func155,XJ func156,XJ func157,XJ func186,XJ func187,XJ func179,XJ func180,XJ func181,XJ func182,XJ func215,XJ func216,XJ func212,XJ func213,underlying0,isAgg0,sizeOf0,zeroValue0,underlying2,isAgg2,sizeOf2,zeroValue2,underlying3,isAgg3,sizeOf3,zeroValue3,underlying4,isAgg4,sizeOf4,zeroValue4,underlying5,isAgg5,sizeOf5,zeroValue5,underlying9,isAgg9,sizeOf9,zeroValue9,underlying20,isAgg20,sizeOf20,zeroValue20,underlying21,isAgg21,sizeOf21,zeroValue21,underlying101,isAgg101,sizeOf101,zeroValue101,underlying196,isAgg196,sizeOf196,zeroValue196,underlying246,isAgg246,sizeOf246,zeroValue246,underlying248,isAgg248,sizeOf248,zeroValue248,underlying87,isAgg87,sizeOf87,zeroValue87,underlying106,isAgg106,sizeOf106,zeroValue106,underlying255,isAgg255,sizeOf255,zeroValue255,underlying151,isAgg151,sizeOf151,zeroValue151,underlying299,isAgg299,sizeOf299,zeroValue299,underlying301,isAgg301,sizeOf301,zeroValue301,underlying254,isAgg254,sizeOf254,zeroValue254,underlying257,isAgg257,sizeOf257,zeroValue257,underlying249,isAgg249,sizeOf249,zeroValue249,underlying251,isAgg251,sizeOf251,zeroValue251,underlying280,isAgg280,sizeOf280,zeroValue280,underlying284,isAgg284,sizeOf284,zeroValue284,underlying275,isAgg275,sizeOf275,zeroValue275,underlying276,isAgg276,sizeOf276,underlying307,isAgg307,sizeOf307,zeroValue307,underlying308,isAgg308,sizeOf308,zeroValue308,KA,KA,KA,KA,KA⟩,underlying110,isAgg110,sizeOf110,zeroValue110,KA,KA,KA,KA,KA,KA,KA,KA,KA,KA,KA,KA,KA,KA,KA,KA,KA,KA,KA,KA,KA,KA,KA,KA,KA,KA,KA,KA,KA,KA,KA,KA,KA⟩,KA,KA,KA,KA,KA,KA,KA,KA,KA,KA,KA,KA,KA,KA,KA,KA,KA,KA,KA,KA,KA,KA,KA,KA,KA,KA,KA,KA,KA⟩
open Go.RowKit in
theorem strconv_Atoi_ok (s:ByteArray) (f:s.size<=9223372036854775806) (v:Int) (h:Lib.atoiAll s.data.toList=.ok v) (w:World):
  Calls prog 76 #[.string s] w fun e w'=>e=.returned (.tuple #[.int .i64 v,.nilIface])/\(w'=w\/∃t,w'=Lib.bytesWorld w 5 t):=Any.strconv_Atoi_ok av s f v h w
open Go.RowKit in
theorem strconv_Atoi_syntax (s:ByteArray) (j:s.size<=281474976710656) (h:Lib.atoiAll s.data.toList=Lib.atoiAll []) (f:Value) (w:World) (hv:w.cell? ⟨3,0,none⟩=some f) (u:f=.nilIface\/∃G I,f=.iface G I):
  Calls prog 76 #[.string s] w fun e w'=>∃N,e=.returned (.tuple #[.int .i64 (0),.iface 257 (.pointer (some ⟨N,0,none⟩))])/\w.heap.size<=N/\w'.heap[N]?=some (.cells #[.string ⟨#[65,116,111,105]⟩,.string s,f] 284 (0,0))/\Below w.heap.size w w':=Any.strconv_Atoi_syntax av s j h f w hv u
open Go.RowKit in
theorem strconv_Atoi_range (s:ByteArray) (j:s.size<=281474976710656) (h:Lib.atoiAll s.data.toList=.range) (f:Value) (w:World) (hv:w.cell? ⟨4,0,none⟩=some f) (u:f=.nilIface\/∃G I,f=.iface G I):
  Calls prog 76 #[.string s] w fun e w'=>∃N,e=.returned (.tuple #[.int .i64 (Lib.atoiSat s.data.toList),.iface 257 (.pointer (some ⟨N,0,none⟩))])/\w.heap.size<=N/\w'.heap[N]?=some (.cells #[.string ⟨#[65,116,111,105]⟩,.string s,f] 284 (0,0))/\Below w.heap.size w w':=Any.strconv_Atoi_range av s j h f w hv u
def aUY:Go.Shelf.Ren:=⟨fun|146=>75|221=>116|268=>159|138=>160|143=>139|195=>183|197=>184|218=>185|219=>173|260=>214|217=>115|225=>208|224=>209|267=>210|266=>158|314=>223|n=>n,fun|9=>9|31=>153|3=>3|4=>4|0=>0|105=>278|21=>21|5=>5|46=>196|119=>309|139=>312|138=>311|146=>261|51=>246|n=>n,fun|1=>2|3=>7|4=>8|n=>n⟩
theorem aUZ:Go.Proofs.Lays.n146 prog aUY:=⟨KA,XJ func160,XJ func139,XJ func75,XJ func183,XJ func184,XJ func115,XJ func185,XJ func173,XJ func116,XJ func209,XJ func208,XJ func214,XJ func158,XJ func210,XJ func159,XJ func223,underlying0,isAgg0,sizeOf0,zeroValue0,underlying3,isAgg3,sizeOf3,zeroValue3,underlying4,isAgg4,sizeOf4,zeroValue4,underlying5,isAgg5,sizeOf5,zeroValue5,underlying9,isAgg9,sizeOf9,zeroValue9,underlying21,isAgg21,sizeOf21,zeroValue21,underlying153,isAgg153,sizeOf153,zeroValue153,underlying196,isAgg196,sizeOf196,zeroValue196,underlying246,isAgg246,sizeOf246,zeroValue246,underlying278,isAgg278,sizeOf278,zeroValue278,underlying309,isAgg309,sizeOf309,underlying311,isAgg311,sizeOf311,zeroValue311,underlying312,isAgg312,sizeOf312,zeroValue312,underlying261,isAgg261,sizeOf261,zeroValue261,KA,KA,KA⟩
open Go.RowKit Go.Lib in
theorem strings_Split (s sep:ByteArray) (m:Int) (w:World) (f:s.size<4294967281) (hm:w.cell? ⟨2,0,none⟩=some (.int .i64 m)) (j:1<=sep.size):
  Calls prog 75 #[.string s,.string sep] w fun e w'=>
   e=.returned (.slice (some ⟨w.heap.size,0,none⟩) (Lib.countB s sep+1) (Lib.countB s sep+1))/\w'=w.alloc (.cells ((Lib.splitB sep 0 (Lib.countB s sep) s).map Value.string).toArray 9):=Any.strings_Split aUZ KA s sep m w f hm j
end Go.Proofs
namespace Go.Proofs.YtgcpildegdgekaaGreatDoor
open Go.Proofs.Tryz
open Go.RowKit Go.Vm
noncomputable section
def aXL (w:World):Prop:=(∃f j,w.cell? ⟨3,0,none⟩=some (.iface f j))/\∃f j,w.cell? ⟨4,0,none⟩=some (.iface f j)
def inv2 (w:World):Prop:=inv1 w/\aXL w
theorem aZ0 {w:World} {b:Nat} {v:Value} (h:w.cell? ⟨b,0,none⟩=some v):b<w.heap.size:=by
 unfold World.cell? at h
 by_cases hb:b<w.heap.size
 ·exact hb
 ·have e:w.heap[b]?=none:=Array.getElem?_eq_none (Nat.le_of_not_lt hb);simp only[e] at h;cases h
theorem aID {w w':World} {b:Nat} {v:Value} (hb:Below w.heap.size w w') (h:w.cell? ⟨b,0,none⟩=some v):w'.cell? ⟨b,0,none⟩=some v:=
 (World.cell?_of_block (hb.block b (aZ0 h))).trans h
theorem aUx:∀w w',inv2 w->Below w.heap.size w w'->inv2 w':=fun w w' ⟨L,⟨j,G,J⟩,f,u,I⟩ hb=>
 ⟨oo.invOK w w' L hb,⟨j,G,aID hb J⟩,f,u,aID hb I⟩
def aKF:Cfg UU:={oo with inv:=inv2,invOK:=aUx}
theorem aNl:aE aKF:=⟨fun f m hm=>⟨(O7.1 f m hm).1,fun N w j xs u r hi=>(O7.1 f m hm).2 N w j xs u r hi.1⟩,fun f m hm w0 hi=>O7.2 f m hm w0 hi.1⟩
def ai:Model UU
 |[.str s]=>some ([s.size<=200000],.tup [.int .i64 (kP s).1,.ifc (kP s).2])
 |_=>none
theorem aO8 {C:Cfg UU} (J:aE C) (I:C.P=prog) (S:∀w,C.inv w->inv2 w):aE (C.add 76 ai):=by
 refine J.put ⟨fun f w=>by rw[I];exact lE (fn:=f76) func76 KA rfl f w,?_⟩;intro N w f xs cs r G hN j hm L;unfold ai at hm;split at hm
 ·rename_i s;cases hm;have hc':s.size<=200000:=L;obtain⟨a,rfl,O⟩:=Cm j;cases O;rw[I];obtain⟨_,⟨t1,p1,Z⟩,t2,p2,V⟩:=S w G;cases u:Lib.atoiAll s.data.toList with
  |ok v=>
   have e:kP s=(v,true):=by unfold kP;rw[u]
   rw[e];refine(strconv_Atoi_ok s KI v u w).mono ?_
   rintro e w' ⟨rfl,hw⟩
   refine⟨_,rfl,jT.of rfl rfl (Tb (.int _ _) .ifc0),?_⟩;rcases hw with rfl|⟨t,rfl⟩
   ·exact Below.refl _ _
   ·exact Lib.bytesWorld_below _ _ _
  |range=>
   have e:kP s=(Lib.atoiSat s.data.toList,false):=by unfold kP;rw[u]
   rw[e];refine(strconv_Atoi_range s KI u _ w V (.inr ⟨_,_,rfl⟩)).mono ?_
   rintro e w' ⟨n,rfl,_,_,hb⟩
   exact⟨_,rfl,jT.of rfl rfl (Tb (.int _ _) (.ifc1 _ _)),hb⟩
  |_=>
   have e:kP s=(0,false):=by unfold kP;rw[u]
   rw[e];refine(strconv_Atoi_syntax s KI u _ w Z (.inr ⟨_,_,rfl⟩)).mono ?_
   rintro e w' ⟨n,rfl,_,_,hb⟩
   exact⟨_,rfl,jT.of rfl rfl (Tb (.int _ _) (.ifc1 _ _)),hb⟩
 ·cases hm
def Z6:Model UU
 |[.str s,.str p]=>some ([s.size<=200000/\1<=p.size],.sl .str (fH s p))
 |_=>none
theorem aOZ {C:Cfg UU} (hE:C.E=EE) (V:aE C) (O:C.P=prog) (hI:∀w,C.inv w->inv1 w):aE (C.add 75 Z6):=by
 refine V.put ⟨fun f w=>by rw[O];exact lE (fn:=f75) func75 KA rfl f w,?_⟩;intro N w f xs cs r I hN j hm Z;unfold Z6 at hm;split at hm
 ·rename_i s p;cases hm;obtain⟨oA,L⟩:s.size<=200000/\1<=p.size:=Z;obtain⟨a,b,rfl,ha,hb⟩:=bBF j;cases ha;cases hb;rw[O,hE];obtain⟨m,hw⟩:=(hI w I).1.1;refine(strings_Split s p m w KI hw L).mono ?_
  rintro e w' ⟨rfl,rfl⟩
  have G:(fH s p).length=Lib.countB s p+1:=Lib.splitB_all p L 0 _ s rfl;refine⟨_,rfl,jT.of rfl rfl ?_,⟨rfl,rfl,rfl,XQ,fun k u=>heap_alloc_old w _ u⟩⟩;rw[<- G];refine Rel.sl (U:=UU) (E:=EE) (.str:Knd) (fH s p) w.heap.size 0 _ (fun k=>.string ((fH s p).getD k ByteArray.empty)) ⟨XQ,fun h=>absurd (hN _ h) (KS _)⟩ KI (fun k u=>?_) (fun i hi k u=>?_)
  ·have J:k<(fH s p).length:=by simpa[UU] using u
   have hh:=heap_alloc_new w (.cells ((fH s p).map Value.string).toArray 9);have e2:((fH s p).map Value.string).toArray[0+k]?=some (.string ((fH s p).getD k ByteArray.empty)):=by simp[J]
   unfold World.cell?;show (match (w.alloc (.cells ((fH s p).map Value.string).toArray 9)).heap[w.heap.size]? with
    |some (.cells cs _ _)=>_
    |_=>_)=_
   rw[hh];exact e2
  ·have S:k=0:=by
    have:k<1:=u;omega
   subst S;show Rel EE _ _ _ (.str (fH s p)[i]) _;have e1:(fH s p).getD (i*1+0) ByteArray.empty=(fH s p)[i]:=by simp[hi]
   show Rel EE _ _ _ _ (Value.string ((fH s p).getD (i*1+0) ByteArray.empty));rw[e1];exact .str _
 ·cases hm
def cD:Cfg UU:=(aKF.add 76 ai).add 75 Z6
theorem Ug:aE cD:=aOZ rfl (aO8 aNl rfl fun _ h=>h) rfl fun _ h=>h.1
def Cj (F n r:Nat) (S:ASt UU) (K:AEx->ASt UU->Prop):Prop:=iter (cX (aU mY F 0 cD) cD f34.ntmps mY F 0 (cL (cB (cS (cF (cS (cS (cS (bo f34))))))))) (mY 0 0) n r S K
def Bm (F:Nat) (Post:aC UU->Prop) (Kc:ASt UU->Prop):AEx->ASt UU->Prop:=bW 0 (fU Xa Kc (bN cD false f34 Post))
theorem aLy (F n r:Nat) (K:AEx->ASt UU->Prop) (G u:List ByteArray) (j f I J L O S V Z aL:Int) (aK:zzI):Cj F (n+1) r (nC G u j f I J L O S V Z aL aK) K=Za (fun G u j f I J L O S V Z aL aK=>Cj F n (r+1) (nC G u j f I J L O S V Z aL aK) K) (fun G u j f I J L O S V Z aL aK=>K .ret (nC G u j f I J L O S V Z aL aK)) (fun G u j f I J L O S V Z aL aK=>K (.exit 0) (nC G u j f I J L O S V Z aL aK)) G u j f I J L O S V Z aL aK:=KA
theorem aYz (F:Nat) (Post:aC UU->Prop) (Kc:ASt UU->Prop) (G u:List ByteArray) (j f I J L O S V Z aL:Int) (aK:zzI):Bm F Post Kc .ret (nC G u j f I J L O S V Z aL aK)=iq (fun eJ eD eC eH eK eI=>Post (.agg [.i eJ,.i eD,.i eC,.i eH,.i eK,.i eI])) (fun G I J L O S V Z aL aK=>Kc (yC G I J L O S V Z aL aK)) G u j f I J L O S V Z aL aK:=KA
theorem aYy (F:Nat) (Post:aC UU->Prop) (Kc:ASt UU->Prop) (G u:List ByteArray) (j f I J L O S V Z aL:Int) (aK:zzI):Bm F Post Kc (.exit 0) (nC G u j f I J L O S V Z aL aK)=im (fun eJ eD eC eH eK eI=>Post (.agg [.i eJ,.i eD,.i eC,.i eH,.i eK,.i eI])) (fun G I J L O S V Z aL aK=>Kc (yC G I J L O S V Z aL aK)) G u j f I J L O S V Z aL aK:=KA
theorem aXS (F:Nat) (Post:aC UU->Prop) (Kc:ASt UU->Prop) (s:ByteArray) (x y:Int):exec cD f34.ntmps mY F 0 (cF (bo f34)) (gK [.agg [.frz .W1,.fn 65 [],.fn 67 []],.str s,.agg [.i x,.i y]]) (cA (aU mY F 0 cD) cD f34.ntmps mY F 0 (cF (cS (bo f34))) (cA (aU mY F 0 cD) cD f34.ntmps mY F 0 (cF (cS (cS (bo f34)))) (cA (aU mY F 0 cD) cD f34.ntmps mY F 0 (cF (cS (cS (cS (bo f34))))) (fU Xa Kc (bN cD false f34 Post)))))=il s x y (fun eJ eD eC eH eK eI=>Post (.agg [.i eJ,.i eD,.i eC,.i eH,.i eK,.i eI])) (fun f j u G I J L O S V=>Kc (yC f j u G I J L O S V)) (fun f t18 t19 Z j u G I J L O S V=>Cj F F 0 (nC f t18 t19 Z j u G I J L O S V) (Bm F Post Kc)):=KA
theorem aTk (F:Nat) (K:AEx->ASt UU->Prop):∀(n r:Nat) (G u:List ByteArray) (j f I J L O S V Z aL:Int) (aK:zzI),Cj F n r (nC G u j f I J L O S V Z aL aK) K=s6 F  (fun G u j f I J L O S V Z aL aK=>K .ret (nC G u j f I J L O S V Z aL aK)) (fun G u j f I J L O S V Z aL aK=>K (.exit 0) (nC G u j f I J L O S V Z aL aK)) n G u j f I J L O S V Z aL aK:=by
 intro n
 induction n with
 |zero=>intros;rfl
 |succ n ih=>
  intro r G u j f I J L O S V Z aL aK;have e:(fun G u j f I J L O S V Z aL aK=>Cj F n (r+1) (nC G u j f I J L O S V Z aL aK) K)=s6 F  (fun G u j f I J L O S V Z aL aK=>K .ret (nC G u j f I J L O S V Z aL aK)) (fun G u j f I J L O S V Z aL aK=>K (.exit 0) (nC G u j f I J L O S V Z aL aK)) n:=by
   funext G u j f I J L O S V Z aL aK;exact ih (r+1) G u j f I J L O S V Z aL aK
  rw[aLy,e];rfl
theorem aSx (F:Nat) (Post:aC UU->Prop) (Kc:ASt UU->Prop) (G u:List ByteArray) (j f I J L O S V Z aL:Int) (aK:zzI):Cj F F 0 (nC G u j f I J L O S V Z aL aK) (Bm F Post Kc)=Y3 F (fun eJ eD eC eH eK eI=>Post (.agg [.i eJ,.i eD,.i eC,.i eH,.i eK,.i eI])) (fun G I J L O S V Z aL aK=>Kc (yC G I J L O S V Z aL aK)) G u j f I J L O S V Z aL aK:=by
 rw[aTk];have h0:(fun G u j f I J L O S V Z aL aK=>Bm F Post Kc .ret (nC G u j f I J L O S V Z aL aK))=(fun G u j f I J L O S V Z aL aK=>iq (fun eJ eD eC eH eK eI=>Post (.agg [.i eJ,.i eD,.i eC,.i eH,.i eK,.i eI])) (fun G I J L O S V Z aL aK=>Kc (yC G I J L O S V Z aL aK)) G u j f I J L O S V Z aL aK):=by
  funext G u j f I J L O S V Z aL aK;rw[aYz]
 have h1:(fun G u j f I J L O S V Z aL aK=>Bm F Post Kc (.exit 0) (nC G u j f I J L O S V Z aL aK))=(fun G u j f I J L O S V Z aL aK=>im (fun eJ eD eC eH eK eI=>Post (.agg [.i eJ,.i eD,.i eC,.i eH,.i eK,.i eI])) (fun G I J L O S V Z aL aK=>Kc (yC G I J L O S V Z aL aK)) G u j f I J L O S V Z aL aK):=by
  funext G u j f I J L O S V Z aL aK;rw[aYy]
 rw[h0,h1];rfl
theorem aWr (F:Nat) (Post:aC UU->Prop) (Kc:ASt UU->Prop) (s:ByteArray) (x y:Int):exec cD f34.ntmps mY F 0 (cF (bo f34)) (gK [.agg [.frz .W1,.fn 65 [],.fn 67 []],.str s,.agg [.i x,.i y]]) (cA (aU mY F 0 cD) cD f34.ntmps mY F 0 (cF (cS (bo f34))) (cA (aU mY F 0 cD) cD f34.ntmps mY F 0 (cF (cS (cS (bo f34)))) (cA (aU mY F 0 cD) cD f34.ntmps mY F 0 (cF (cS (cS (cS (bo f34))))) (fU Xa Kc (bN cD false f34 Post)))))=Sr F s x y (fun eJ eD eC eH eK eI=>Post (.agg [.i eJ,.i eD,.i eC,.i eH,.i eK,.i eI])) (fun f j u G I J L O S V=>Kc (yC f j u G I J L O S V)):=by
 rw[aXS];have e0:(fun f t18 t19 Z j u G I J L O S V=>Cj F F 0 (nC f t18 t19 Z j u G I J L O S V) (Bm F Post Kc))=(Y3 F (fun eJ eD eC eH eK eI=>Post (.agg [.i eJ,.i eD,.i eC,.i eH,.i eK,.i eI])) (fun f j u G I J L O S V=>Kc (yC f j u G I J L O S V))):=by
  funext f t18 t19 Z j u G I J L O S V;exact aSx F Post Kc f t18 t19 Z j u G I J L O S V
 rw[e0];rfl
def Ci (F n r:Nat) (S:ASt UU) (K:AEx->ASt UU->Prop):Prop:=iter (cX (aU mX F 0 cD) cD f34.ntmps mX F 0 (cL (cB (cS (cF (cS (cS (cS (bo f34))))))))) (mX 0 0) n r S K
def Bl (F:Nat) (Post:aC UU->Prop) (Kc:ASt UU->Prop):AEx->ASt UU->Prop:=bW 0 (fU Wz Kc (bN cD false f34 Post))
theorem aLx (F n r:Nat) (K:AEx->ASt UU->Prop) (G u:List ByteArray) (j f I J L O S V Z aL:Int) (aK:zzI):Ci F (n+1) r (nB G u j f I J L O S V Z aL aK) K=aG0 (fun G u j f I J L O S V Z aL aK=>Ci F n (r+1) (nB G u j f I J L O S V Z aL aK) K) (fun G u j f I J L O S V Z aL aK=>K .ret (nB G u j f I J L O S V Z aL aK)) (fun G u j f I J L O S V Z aL aK=>K (.exit 0) (nB G u j f I J L O S V Z aL aK)) G u j f I J L O S V Z aL aK:=KA
theorem aYx (F:Nat) (Post:aC UU->Prop) (Kc:ASt UU->Prop) (G u:List ByteArray) (j f I J L O S V Z aL:Int) (aK:zzI):Bl F Post Kc .ret (nB G u j f I J L O S V Z aL aK)=ik (fun eJ eD eC eH eK eI=>Post (.agg [.i eJ,.i eD,.i eC,.i eH,.i eK,.i eI])) (fun G I J L O S V Z aL aK=>Kc (yB G I J L O S V Z aL aK)) G u j f I J L O S V Z aL aK:=KA
theorem aYw (F:Nat) (Post:aC UU->Prop) (Kc:ASt UU->Prop) (G u:List ByteArray) (j f I J L O S V Z aL:Int) (aK:zzI):Bl F Post Kc (.exit 0) (nB G u j f I J L O S V Z aL aK)=ij (fun eJ eD eC eH eK eI=>Post (.agg [.i eJ,.i eD,.i eC,.i eH,.i eK,.i eI])) (fun G I J L O S V Z aL aK=>Kc (yB G I J L O S V Z aL aK)) G u j f I J L O S V Z aL aK:=KA
theorem aXR (F:Nat) (Post:aC UU->Prop) (Kc:ASt UU->Prop) (s:ByteArray) (x y:Int):exec cD f34.ntmps mX F 0 (cF (bo f34)) (gK [.agg [.frz .W2,.fn 66 [],.fn 68 []],.str s,.agg [.i x,.i y]]) (cA (aU mX F 0 cD) cD f34.ntmps mX F 0 (cF (cS (bo f34))) (cA (aU mX F 0 cD) cD f34.ntmps mX F 0 (cF (cS (cS (bo f34)))) (cA (aU mX F 0 cD) cD f34.ntmps mX F 0 (cF (cS (cS (cS (bo f34))))) (fU Wz Kc (bN cD false f34 Post)))))=aG1 s x y (fun eJ eD eC eH eK eI=>Post (.agg [.i eJ,.i eD,.i eC,.i eH,.i eK,.i eI])) (fun f j u G I J L O S V=>Kc (yB f j u G I J L O S V)) (fun f t18 t19 Z j u G I J L O S V=>Ci F F 0 (nB f t18 t19 Z j u G I J L O S V) (Bl F Post Kc)):=KA
theorem aTj (F:Nat) (K:AEx->ASt UU->Prop):∀(n r:Nat) (G u:List ByteArray) (j f I J L O S V Z aL:Int) (aK:zzI),Ci F n r (nB G u j f I J L O S V Z aL aK) K=Sq F  (fun G u j f I J L O S V Z aL aK=>K .ret (nB G u j f I J L O S V Z aL aK)) (fun G u j f I J L O S V Z aL aK=>K (.exit 0) (nB G u j f I J L O S V Z aL aK)) n G u j f I J L O S V Z aL aK:=by
 intro n
 induction n with
 |zero=>intros;rfl
 |succ n ih=>
  intro r G u j f I J L O S V Z aL aK;have e:(fun G u j f I J L O S V Z aL aK=>Ci F n (r+1) (nB G u j f I J L O S V Z aL aK) K)=Sq F  (fun G u j f I J L O S V Z aL aK=>K .ret (nB G u j f I J L O S V Z aL aK)) (fun G u j f I J L O S V Z aL aK=>K (.exit 0) (nB G u j f I J L O S V Z aL aK)) n:=by
   funext G u j f I J L O S V Z aL aK;exact ih (r+1) G u j f I J L O S V Z aL aK
  rw[aLx,e];rfl
theorem aSw (F:Nat) (Post:aC UU->Prop) (Kc:ASt UU->Prop) (G u:List ByteArray) (j f I J L O S V Z aL:Int) (aK:zzI):Ci F F 0 (nB G u j f I J L O S V Z aL aK) (Bl F Post Kc)=Y0 F (fun eJ eD eC eH eK eI=>Post (.agg [.i eJ,.i eD,.i eC,.i eH,.i eK,.i eI])) (fun G I J L O S V Z aL aK=>Kc (yB G I J L O S V Z aL aK)) G u j f I J L O S V Z aL aK:=by
 rw[aTj];have h0:(fun G u j f I J L O S V Z aL aK=>Bl F Post Kc .ret (nB G u j f I J L O S V Z aL aK))=(fun G u j f I J L O S V Z aL aK=>ik (fun eJ eD eC eH eK eI=>Post (.agg [.i eJ,.i eD,.i eC,.i eH,.i eK,.i eI])) (fun G I J L O S V Z aL aK=>Kc (yB G I J L O S V Z aL aK)) G u j f I J L O S V Z aL aK):=by
  funext G u j f I J L O S V Z aL aK;rw[aYx]
 have h1:(fun G u j f I J L O S V Z aL aK=>Bl F Post Kc (.exit 0) (nB G u j f I J L O S V Z aL aK))=(fun G u j f I J L O S V Z aL aK=>ij (fun eJ eD eC eH eK eI=>Post (.agg [.i eJ,.i eD,.i eC,.i eH,.i eK,.i eI])) (fun G I J L O S V Z aL aK=>Kc (yB G I J L O S V Z aL aK)) G u j f I J L O S V Z aL aK):=by
  funext G u j f I J L O S V Z aL aK;rw[aYw]
 rw[h0,h1];rfl
theorem aWq (F:Nat) (Post:aC UU->Prop) (Kc:ASt UU->Prop) (s:ByteArray) (x y:Int):exec cD f34.ntmps mX F 0 (cF (bo f34)) (gK [.agg [.frz .W2,.fn 66 [],.fn 68 []],.str s,.agg [.i x,.i y]]) (cA (aU mX F 0 cD) cD f34.ntmps mX F 0 (cF (cS (bo f34))) (cA (aU mX F 0 cD) cD f34.ntmps mX F 0 (cF (cS (cS (bo f34)))) (cA (aU mX F 0 cD) cD f34.ntmps mX F 0 (cF (cS (cS (cS (bo f34))))) (fU Wz Kc (bN cD false f34 Post)))))=rb F s x y (fun eJ eD eC eH eK eI=>Post (.agg [.i eJ,.i eD,.i eC,.i eH,.i eK,.i eI])) (fun f j u G I J L O S V=>Kc (yB f j u G I J L O S V)):=by
 rw[aXR];have e0:(fun f t18 t19 Z j u G I J L O S V=>Ci F F 0 (nB f t18 t19 Z j u G I J L O S V) (Bl F Post Kc))=(Y0 F (fun eJ eD eC eH eK eI=>Post (.agg [.i eJ,.i eD,.i eC,.i eH,.i eK,.i eI])) (fun f j u G I J L O S V=>Kc (yB f j u G I J L O S V))):=by
  funext f t18 t19 Z j u G I J L O S V;exact aSw F Post Kc f t18 t19 Z j u G I J L O S V
 rw[e0];rfl
theorem aXW (F:Nat) (Post:aC UU->Prop) (Kc:ASt UU->Prop) (ws:List ByteArray) (x y:Int) (l:zzI) (k:Int) (v:ByteArray) (va vb:Value):exec cD f34.ntmps oa F 3 (cS (cB (cS (cS (cL (cB (cS (cF (cS (cS (cS (cS (bo f34))))))))))))) (⟨fun u=>cond (Nat.beq u 3) (.ptr 3 0) (cond (Nat.beq u 5) (.ptr 5 0) (cond (Nat.beq u 6) (.ptr 6 0) (cond (Nat.beq u 7) (.sl .str ws) (cond (Nat.beq u 8) (.osl 65 0) (cond (Nat.beq u 13) (.i k) (cond (Nat.beq u 14) (.str v) (cond (Nat.beq u 46) (.raw va) (cond (Nat.beq u 47) (.raw vb) (.any))))))))),fun u=>cond (Nat.beq u 65) (some (.row .int 0 l)) (cond (Nat.beq u 3) (some (.cells [.frz .W1,.fn 65 [],.fn 67 []])) (cond (Nat.beq u 5) (some (.cells [.i x,.i y])) (cond (Nat.beq u 6) (some (.cells [.i 0,.i 0,.i 0,.i 0,.i 0,.i 0])) (none))))⟩) (fU Z0 Kc (bN cD false f34 Post))=iu ws x y l k v va vb (fun J S V O I L=>Post (.agg [.i J,.i S,.i V,.i O,.i I,.i L])) (fun G j f Z aR aQ aP aO aN aM aL aK=>Kc (ue G j f Z aR aQ aP aO aN aM aL aK)):=KA
theorem aWv (F:Nat) (Post:aC UU->Prop) (Kc:ASt UU->Prop) (ws:List ByteArray) (x y:Int) (l:zzI) (k:Int) (v:ByteArray) (va vb:Value):exec cD f34.ntmps oa F 3 (cS (cB (cS (cS (cL (cB (cS (cF (cS (cS (cS (cS (bo f34))))))))))))) (⟨fun u=>cond (Nat.beq u 3) (.ptr 3 0) (cond (Nat.beq u 5) (.ptr 5 0) (cond (Nat.beq u 6) (.ptr 6 0) (cond (Nat.beq u 7) (.sl .str ws) (cond (Nat.beq u 8) (.osl 65 0) (cond (Nat.beq u 13) (.i k) (cond (Nat.beq u 14) (.str v) (cond (Nat.beq u 46) (.raw va) (cond (Nat.beq u 47) (.raw vb) (.any))))))))),fun u=>cond (Nat.beq u 65) (some (.row .int 0 l)) (cond (Nat.beq u 3) (some (.cells [.frz .W1,.fn 65 [],.fn 67 []])) (cond (Nat.beq u 5) (some (.cells [.i x,.i y])) (cond (Nat.beq u 6) (some (.cells [.i 0,.i 0,.i 0,.i 0,.i 0,.i 0])) (none))))⟩) (fU Z0 Kc (bN cD false f34 Post))=rf F ws x y l k v va vb (fun J S V O I L=>Post (.agg [.i J,.i S,.i V,.i O,.i I,.i L])) (fun G j f Z aR aQ aP aO aN aM aL aK=>Kc (ue G j f Z aR aQ aP aO aN aM aL aK)):=by
 rw[aXW];rfl
theorem aXV (F:Nat) (Post:aC UU->Prop) (Kc:ASt UU->Prop) (ws:List ByteArray) (x y:Int) (l:zzI) (k:Int) (v:ByteArray) (va vb:Value):exec cD f34.ntmps nz F 3 (cS (cB (cS (cS (cL (cB (cS (cF (cS (cS (cS (cS (bo f34))))))))))))) (⟨fun u=>cond (Nat.beq u 3) (.ptr 3 0) (cond (Nat.beq u 5) (.ptr 5 0) (cond (Nat.beq u 6) (.ptr 6 0) (cond (Nat.beq u 7) (.sl .str ws) (cond (Nat.beq u 8) (.osl 65 0) (cond (Nat.beq u 13) (.i k) (cond (Nat.beq u 14) (.str v) (cond (Nat.beq u 46) (.raw va) (cond (Nat.beq u 47) (.raw vb) (.any))))))))),fun u=>cond (Nat.beq u 65) (some (.row .int 0 l)) (cond (Nat.beq u 3) (some (.cells [.frz .W2,.fn 66 [],.fn 68 []])) (cond (Nat.beq u 5) (some (.cells [.i x,.i y])) (cond (Nat.beq u 6) (some (.cells [.i 0,.i 0,.i 0,.i 0,.i 0,.i 0])) (none))))⟩) (fU Y9 Kc (bN cD false f34 Post))=ir ws x y l k v va vb (fun J S V O I L=>Post (.agg [.i J,.i S,.i V,.i O,.i I,.i L])) (fun G j f Z aR aQ aP aO aN aM aL aK=>Kc (ud G j f Z aR aQ aP aO aN aM aL aK)):=KA
theorem aWu (F:Nat) (Post:aC UU->Prop) (Kc:ASt UU->Prop) (ws:List ByteArray) (x y:Int) (l:zzI) (k:Int) (v:ByteArray) (va vb:Value):exec cD f34.ntmps nz F 3 (cS (cB (cS (cS (cL (cB (cS (cF (cS (cS (cS (cS (bo f34))))))))))))) (⟨fun u=>cond (Nat.beq u 3) (.ptr 3 0) (cond (Nat.beq u 5) (.ptr 5 0) (cond (Nat.beq u 6) (.ptr 6 0) (cond (Nat.beq u 7) (.sl .str ws) (cond (Nat.beq u 8) (.osl 65 0) (cond (Nat.beq u 13) (.i k) (cond (Nat.beq u 14) (.str v) (cond (Nat.beq u 46) (.raw va) (cond (Nat.beq u 47) (.raw vb) (.any))))))))),fun u=>cond (Nat.beq u 65) (some (.row .int 0 l)) (cond (Nat.beq u 3) (some (.cells [.frz .W2,.fn 66 [],.fn 68 []])) (cond (Nat.beq u 5) (some (.cells [.i x,.i y])) (cond (Nat.beq u 6) (some (.cells [.i 0,.i 0,.i 0,.i 0,.i 0,.i 0])) (none))))⟩) (fU Y9 Kc (bN cD false f34 Post))=re F ws x y l k v va vb (fun J S V O I L=>Post (.agg [.i J,.i S,.i V,.i O,.i I,.i L])) (fun G j f Z aR aQ aP aO aN aM aL aK=>Kc (ud G j f Z aR aQ aP aO aN aM aL aK)):=by
 rw[aXV];rfl
theorem aXU (F:Nat) (Post:aC UU->Prop) (ws:List ByteArray) (x y:Int) (l:zzI) (va vb:Value):exec cD f34.ntmps nw F 0 (cS (cS (cS (cS (cS (bo f34)))))) (⟨fun u=>cond (Nat.beq u 3) (.ptr 3 0) (cond (Nat.beq u 5) (.ptr 5 0) (cond (Nat.beq u 6) (.ptr 6 0) (cond (Nat.beq u 7) (.sl .str ws) (cond (Nat.beq u 8) (.osl 65 0) (cond (Nat.beq u 46) (.raw va) (cond (Nat.beq u 47) (.raw vb) (.any))))))),fun u=>cond (Nat.beq u 65) (some (.row .int 0 l)) (cond (Nat.beq u 3) (some (.cells [.frz .W1,.fn 65 [],.fn 67 []])) (cond (Nat.beq u 5) (some (.cells [.i x,.i y])) (cond (Nat.beq u 6) (some (.cells [.i 0,.i 0,.i 0,.i 0,.i 0,.i 0])) (none))))⟩) (bN cD false f34 Post)=aG3 ws x y l va vb (fun j J L I f G=>Post (.agg [.i j,.i J,.i L,.i I,.i f,.i G])):=KA
theorem aWt (F:Nat) (Post:aC UU->Prop) (ws:List ByteArray) (x y:Int) (l:zzI) (va vb:Value):exec cD f34.ntmps nw F 0 (cS (cS (cS (cS (cS (bo f34)))))) (⟨fun u=>cond (Nat.beq u 3) (.ptr 3 0) (cond (Nat.beq u 5) (.ptr 5 0) (cond (Nat.beq u 6) (.ptr 6 0) (cond (Nat.beq u 7) (.sl .str ws) (cond (Nat.beq u 8) (.osl 65 0) (cond (Nat.beq u 46) (.raw va) (cond (Nat.beq u 47) (.raw vb) (.any))))))),fun u=>cond (Nat.beq u 65) (some (.row .int 0 l)) (cond (Nat.beq u 3) (some (.cells [.frz .W1,.fn 65 [],.fn 67 []])) (cond (Nat.beq u 5) (some (.cells [.i x,.i y])) (cond (Nat.beq u 6) (some (.cells [.i 0,.i 0,.i 0,.i 0,.i 0,.i 0])) (none))))⟩) (bN cD false f34 Post)=aLG F ws x y l va vb (fun j J L I f G=>Post (.agg [.i j,.i J,.i L,.i I,.i f,.i G])):=by
 rw[aXU];rfl
theorem aXT (F:Nat) (Post:aC UU->Prop) (ws:List ByteArray) (x y:Int) (l:zzI) (va vb:Value):exec cD f34.ntmps nv F 0 (cS (cS (cS (cS (cS (bo f34)))))) (⟨fun u=>cond (Nat.beq u 3) (.ptr 3 0) (cond (Nat.beq u 5) (.ptr 5 0) (cond (Nat.beq u 6) (.ptr 6 0) (cond (Nat.beq u 7) (.sl .str ws) (cond (Nat.beq u 8) (.osl 65 0) (cond (Nat.beq u 46) (.raw va) (cond (Nat.beq u 47) (.raw vb) (.any))))))),fun u=>cond (Nat.beq u 65) (some (.row .int 0 l)) (cond (Nat.beq u 3) (some (.cells [.frz .W2,.fn 66 [],.fn 68 []])) (cond (Nat.beq u 5) (some (.cells [.i x,.i y])) (cond (Nat.beq u 6) (some (.cells [.i 0,.i 0,.i 0,.i 0,.i 0,.i 0])) (none))))⟩) (bN cD false f34 Post)=aG2 ws x y l va vb (fun j J L I f G=>Post (.agg [.i j,.i J,.i L,.i I,.i f,.i G])):=KA
theorem aWs (F:Nat) (Post:aC UU->Prop) (ws:List ByteArray) (x y:Int) (l:zzI) (va vb:Value):exec cD f34.ntmps nv F 0 (cS (cS (cS (cS (cS (bo f34)))))) (⟨fun u=>cond (Nat.beq u 3) (.ptr 3 0) (cond (Nat.beq u 5) (.ptr 5 0) (cond (Nat.beq u 6) (.ptr 6 0) (cond (Nat.beq u 7) (.sl .str ws) (cond (Nat.beq u 8) (.osl 65 0) (cond (Nat.beq u 46) (.raw va) (cond (Nat.beq u 47) (.raw vb) (.any))))))),fun u=>cond (Nat.beq u 65) (some (.row .int 0 l)) (cond (Nat.beq u 3) (some (.cells [.frz .W2,.fn 66 [],.fn 68 []])) (cond (Nat.beq u 5) (some (.cells [.i x,.i y])) (cond (Nat.beq u 6) (some (.cells [.i 0,.i 0,.i 0,.i 0,.i 0,.i 0])) (none))))⟩) (bN cD false f34 Post)=aLF F ws x y l va vb (fun j J L I f G=>Post (.agg [.i j,.i J,.i L,.i I,.i f,.i G])):=by
 rw[aXT];rfl
structure Dlc (ks:zzI) (wd:Int->List UInt8) (wr:Opn->Int->Int->zzI) (rd:Int->zzI->Int->Int->Opn) (af:Opn->Int->Int->Int×Int) (good:Opn->Prop) (pos:Int->Prop):Prop where
 kind:∀o,good o->o.Kind∈ks
 word:∀k∈ks,(32:UInt8) ∉ wd k/\(10:UInt8) ∉ wd k
 inj:∀k∈ks,∀j∈ks,wd k=wd j->k=j
 num:∀o x y,good o->pos x->pos y->∀n∈wr o x y, -4194304<=n/\n<=4194304
 undo:∀o x y,good o->pos x->pos y->rd o.Kind (wr o x y) x y=o
 posn:∀o x y,good o->pos x->pos y->pos (af o x y).1/\pos (af o x y).2
def qD (l:zzI):List UInt8:=l.flatMap fun n=>32::Lib.itoa n
def opL (f:Int->List UInt8) (wr:Opn->Int->Int->zzI) (o:Opn) (x y:Int):List UInt8:=f o.Kind++qD (wr o x y)
def rE (j:Int->List UInt8) (wr:Opn->Int->Int->zzI) (f:Opn->Int->Int->Int×Int):List Opn->Int->Int->List (List UInt8)
 |[],_,_=>[]
 |o::l,x,y=>opL j wr o x y::rE j wr f l (f o x y).1 (f o x y).2
def sL:List (List UInt8)->List UInt8
 |[]=>[]
 |p::l=>p++10::sL l
theorem aRm (c:UInt8) (j:c.toNat<32) (l:zzI):c ∉ qD l:=fun h=>by
 obtain⟨n,_,f⟩:=List.mem_flatMap.1 h;rcases List.mem_cons.1 f with rfl|f
 ·grind
 grind [aEc]
theorem wz:∀(l:zzI) (a:List UInt8),(32:UInt8) ∉ a->pcs 32 (a++qD l)=a::l.map Lib.itoa
 |[],a,h=>by
  grind [qD,Vn]
 |n::l,a,h=>by
  have e:qD (n::l)=32::(Lib.itoa n++qD l):=rfl;rw[e,Me h,wz l (Lib.itoa n) (aEc (by decide))];rfl
theorem xa:∀l:List (List UInt8),(∀p∈l,(10:UInt8) ∉ p)->pcs 10 (sL l)=l++[[]]
 |[],_=>rfl
 |p::l,h=>by
  show pcs 10 (p++10::sL l)=_;rw[Me (h p (QI ..)),xa l fun q f=>h q (QA _ f)];rfl
theorem aCy {G:zzI} {j:Int->List UInt8} {wr:Opn->Int->Int->zzI} {rd:Int->zzI->Int->Int->Opn} {u:Opn->Int->Int->Int×Int} {f:Opn->Prop} {pos:Int->Prop} (D:Dlc G j wr rd u f pos):
  ∀(ops:List Opn) (x y:Int),(∀o∈ops,f o)->∀p∈rE j wr u ops x y,(10:UInt8) ∉ p
 |[],_,_,_,p,hp=>by cases hp
 |o::ops,x,y,h,p,hp=>by
  rcases List.mem_cons.1 hp with rfl|hp
  ·intro hm;rcases QO.1 hm with hm|hm
   ·exact(D.word _ (D.kind o (h o (QI ..)))).2 hm
   grind [aRm]
  ·exact aCy D ops _ _ (fun o ho=>h o (QA _ ho)) p hp
def rV (t:List UInt8):List (List UInt8):=if (pcs 10 t).getLast?=some [] then (pcs 10 t).dropLast else pcs 10 t
theorem aL6 (l:List (List UInt8)) (h:∀p∈l,(10:UInt8) ∉ p):rV (sL l)=l:=by
 grind [rV,xa]
def lH (s:List UInt8):Option Int:=match Lib.atoiAll s with
 | .ok v=>if -4194304<=v/\v<=4194304 then some v else none
 |_=>none
theorem aRq {n:Int} (h: -4194304<=n/\n<=4194304):lH (Lib.itoa n)=some n:=by
 grind [lH,bAy]
def rD (num:List UInt8->Option Int):List (List UInt8)->Option (zzI)
 |[]=>some []
 |s::l=>match num s,rD num l with
  |some v,some f=>some (v::f)
  |_,_=>none
theorem yi {num:List UInt8->Option Int} (f:∀n, -4194304<=n->n<=4194304->num (Lib.itoa n)=some n):∀l:zzI,(∀n∈l, -4194304<=n/\n<=4194304)->rD num (l.map Lib.itoa)=some l
 |[],_=>rfl
 |n::l,h=>by
  have j:=h n (QI ..);rw[List.map_cons,rD,f n j.1 j.2,yi f l fun m hm=>h m (QA _ hm)]
def yN:Opn:=⟨0,0,0,0,0,0⟩
def oK (num:List UInt8->Option Int) (u:zzI) (j:Int->List UInt8) (rd:Int->zzI->Int->Int->Opn) (f:List UInt8) (x y:Int):Opn:=
 match rD num ((pcs 32 f).drop 1) with
 |none=>yN
 |some l=>match u.find? (fun k=>j k==(pcs 32 f).headD []) with
  |none=>yN
  |some k=>rd k l x y
theorem aHE {u:zzI} {f:Int->List UInt8} (inj:∀k∈u,∀j∈u,f k=f j->k=j) {k:Int} (G:k∈u):u.find? (fun j=>f j==f k)=some k:=by
 cases hf:u.find? (fun j=>f j==f k) with
 |none=>
  grind
 |some j=>
  grind
theorem aPC {G:zzI} {u:Int->List UInt8} {wr:Opn->Int->Int->zzI} {rd:Int->zzI->Int->Int->Opn} {O:Opn->Int->Int->Int×Int} {f:Opn->Prop} {pos:Int->Prop} (D:Dlc G u wr rd O f pos)
  {num:List UInt8->Option Int} (j:∀n, -4194304<=n->n<=4194304->num (Lib.itoa n)=some n) {o:Opn} {x y:Int} (ho:f o) (J:pos x) (I:pos y):oK num G u rd (opL u wr o x y) x y=o:=by
 have L:=D.kind o ho;unfold oK opL;rw[wz _ _ (D.word _ L).1];simp only[List.drop_succ_cons,List.drop_zero,List.headD_cons];rw[yi j _ (D.num o x y ho J I),aHE D.inj L];exact D.undo o x y ho J I
def vN (num:List UInt8->Option Int) (j:zzI) (f:Int->List UInt8) (rd:Int->zzI->Int->Int->Opn) (u:Opn->Int->Int->Int×Int):List (List UInt8)->Int->Int->List Opn
 |[],_,_=>[]
 |p::l,x,y=>oK num j f rd p x y::vN num j f rd u l (u (oK num j f rd p x y) x y).1 (u (oK num j f rd p x y) x y).2
theorem vw {I:zzI} {f:Int->List UInt8} {wr:Opn->Int->Int->zzI} {rd:Int->zzI->Int->Int->Opn} {j:Opn->Int->Int->Int×Int} {G:Opn->Prop} {pos:Int->Prop} (D:Dlc I f wr rd j G pos)
  {num:List UInt8->Option Int} (u:∀n, -4194304<=n->n<=4194304->num (Lib.itoa n)=some n):∀(ops:List Opn) (x y:Int),(∀o∈ops,G o)->pos x->pos y->vN num I f rd j (rE f wr j ops x y) x y=ops
 |[],_,_,_,_,_=>rfl
 |o::ops,x,y,h,L,J=>by
  have ho:=h o (QI ..);have hp:=D.posn o x y ho L J;show oK num I f rd (opL f wr o x y) x y::vN num I f rd j (rE f wr j ops (j o x y).1 (j o x y).2) (j (oK num I f rd (opL f wr o x y) x y) x y).1 (j (oK num I f rd (opL f wr o x y) x y) x y).2=_;rw[aPC D u ho L J,vw D u ops _ _ (fun o ho=>h o (QA _ ho)) hp.1 hp.2]
theorem aPB {G:zzI} {j:Int->List UInt8} {wr:Opn->Int->Int->zzI} {rd:Int->zzI->Int->Int->Opn} {u:Opn->Int->Int->Int×Int} {f:Opn->Prop} {pos:Int->Prop} (D:Dlc G j wr rd u f pos)
  {num:List UInt8->Option Int} (I:∀n, -4194304<=n->n<=4194304->num (Lib.itoa n)=some n) (ops:List Opn) (h:∀o∈ops,f o) (J:pos 0):
  vN num G j rd u (rV (sL (rE j wr u ops 0 0))) 0 0=ops:=by
 grind [aL6,aCy,vw]
theorem pg:∀(l:zzI) (b:ByteArray),(l.foldl uX b).data.toList=b.data.toList++qD l
 |[],b=>by simp[qD]
 |n::l,b=>by
  rw[JY,pg l];simp_all[uX,mL,qD]
theorem aGy (f:zzI) (wl:List (Int×ByteArray)) (wr:Opn->Int->Int->zzI):∀(ops:List Opn) (b:ByteArray) (x y:Int),
  ((∀o∈ops,mP f o=false)->(pP f wl wr ops b x y).2=0/\(pP f wl wr ops b x y).1.data.toList=b.data.toList++sL (rE (fun k=>(gI wl k).data.toList) wr gJ ops x y))/\
  (¬(∀o∈ops,mP f o=false)->pP f wl wr ops b x y=(ByteArray.mk #[],16))
 |[],b,x,y=>⟨fun _=>⟨rfl,by simp[pP,rE,sL]⟩,fun h=>absurd (fun o ho=>by cases ho) h⟩
 |o::ops,b,x,y=>by
  obtain⟨j,G⟩:=aGy f wl wr ops ((wr o x y).foldl uX (b++gI wl o.Kind)++ByteArray.mk #[10]) (gJ o x y).1 (gJ o x y).2;cases hb:mP f o with
  |true=>
   grind [pP]
  |false=>
   refine⟨fun h=>?_,fun h=>?_⟩
   ·obtain⟨e1,u⟩:=j fun o ho=>h o (QA _ ho)
    rw[pP,hb];refine⟨e1,?_⟩;simp only[QK];rw[u];show _=b.data.toList++(opL _ wr o x y++10::sL _);simp_all[opL,pg]
   grind [pP]
theorem aDD (f:Int->List UInt8) (wr:Opn->Int->Int->zzI) (j:Opn->Int->Int->Int×Int):∀(ops:List Opn) (x y:Int),(rE f wr j ops x y).length=ops.length
 |[],_,_=>rfl
 |o::ops,x,y=>by
  show (rE f wr j ops _ _).length+1=_;rw[aDD f wr j ops];rfl
def jJ (wl:List (Int×ByteArray)) (k:Int):List UInt8:=(gI wl k).data.toList
def rng (n:Int):Prop:= -1048576<=n/\n<=1048576
theorem Oe {n:Int} (h:inR n=true):rng n:=by
 unfold inR at h;simp only[KH,JG,JS] at h;unfold rng;omega
theorem aPE {o:Opn} (h:tX o=true):rng o.X/\rng o.Y/\rng o.W/\rng o.H/\rng o.N:=by
 unfold tX vA at h;simp only[List.all_cons,List.all_nil,Bool.and_true,QW] at h;exact⟨Oe h.1,Oe h.2.1,Oe h.2.2.1,Oe h.2.2.2.1,Oe h.2.2.2.2⟩
theorem aV8 {f:zzI} {k:Int} (h:kC f k=true):k∈f:=by
 induction f with
 |nil=>cases h
 |cons a l j=>
  unfold kC at h;cases hb:k==a with
  |true=>exact List.mem_cons.2 (.inl (by simpa using hb))
  |false=>
   rw[hb] at h;exact List.mem_cons.2 (.inr (j h))
theorem mf {f:zzI} {o:Opn} (h:mP f o=false):o.Kind∈f/\Ps o=true/\(rng o.X/\rng o.Y/\rng o.W/\rng o.H/\rng o.N):=by
 unfold mP at h;simp only[JG,Bool.not_eq_false'] at h;exact⟨aV8 h.1.1,h.1.2,aPE h.2⟩
theorem Ho {o:Opn} (h:mP [1,2,4,3] o=false):(rng o.X/\rng o.Y/\rng o.W/\rng o.H)/\o.N=0/\(o.Kind=3\/((o.Kind=1\/o.Kind=2\/o.Kind=4)/\o.W=0/\o.H=0)):=by
 obtain⟨I,f,G,u,j,h6,h7⟩:=mf h;obtain⟨K,X,Y,W,H,N⟩:=o;unfold Ps xU at f;simp only[List.mem_cons,List.not_mem_nil,or_false] at I;simp only at G u j h6;refine⟨⟨G,u,j,h6⟩,?_⟩;rcases I with rfl|rfl|rfl|rfl
 ·simp at f;simp[f]
 ·simp at f;simp[f]
 ·simp at f;simp[f]
 ·simp at f;simp[f]
def wrA (o:Opn) (x y:Int):zzI:=if o.Kind=3 then [aB (o.X-x),aB (o.Y-y),o.W,o.H] else [aB (o.X-x),aB (o.Y-y)]
def rdU (k:Int) (l:zzI) (x y:Int):Opn:=
 ⟨k,if 2<=l.length then aB (l.getD 0 default+x) else 0,if 2<=l.length then aB (l.getD 1 default+y) else 0,if k=3/\4<=l.length then l.getD 2 default else 0,if k=3/\4<=l.length then l.getD 3 default else 0,0⟩
theorem ov {o:Opn} {x y:Int} (h:mP [1,2,4,3] o=false) (u:rng x) (j:rng y):∀n∈wrA o x y, -4194304<=n/\n<=4194304:=by
 obtain⟨⟨L,J,I,G⟩,_⟩:=Ho h;unfold rng at*;unfold wrA;rw[cN KI KI,cN KI KI];intro n f;split at f
 ·simp only[List.mem_cons,List.not_mem_nil,or_false] at f;omega
 ·simp only[List.mem_cons,List.not_mem_nil,or_false] at f;omega
theorem vv {o:Opn} {x y:Int} (h:mP [1,2,4,3] o=false) (I:rng x) (G:rng y):rdU o.Kind (wrA o x y) x y=o:=by
 obtain⟨⟨V,S,O,L⟩,j,h6⟩:=Ho h;obtain⟨K,X,Y,W,H,N⟩:=o;unfold rng at*;simp only at*;subst j;unfold wrA;simp only;rw[cN (n:=X-x) KI KI,cN (n:=Y-y) KI KI];have e1:aB X=X:=cN KI KI;have f:aB Y=Y:=cN KI KI;rcases h6 with rfl|⟨J,rfl,rfl⟩
 ·simp[rdU,e1,f]
 ·have u:K≠3:=KI;simp[rdU,e1,f,u]
theorem mr {o:Opn} {x y:Int} (h:rng o.X/\rng o.Y) (j:rng x) (f:rng y):rng (gJ o x y).1/\rng (gJ o x y).2:=by
 unfold gJ rY;cases o.Kind==3
 ·exact h
 ·exact⟨j,f⟩
theorem vJ:rng 0:=by unfold rng;omega
theorem pf {wl:List (Int×ByteArray)} {f:zzI} (h:(f.all fun k=>!((jJ wl k).contains 32)&&!((jJ wl k).contains 10))=true):∀k∈f,(32:UInt8) ∉ jJ wl k/\(10:UInt8) ∉ jJ wl k:=fun k j=>by
 have:=QT.1 h k j;simp only[QW,KH,List.contains_eq_mem,JS] at this;exact this
theorem Rl {wl:List (Int×ByteArray)} {f:zzI} (h:(f.all fun k=>f.all fun j=>!(jJ wl k==jJ wl j)||k==j)=true):∀k∈f,∀j∈f,jJ wl k=jJ wl j->k=j:=fun k u j G e=>by
 have:=QT.1 (QT.1 h k u) j G;rw[e] at this;simpa using this
theorem aY4:Dlc [1,2,4,3] (jJ kW) (fun o _ _=>wrA o 0 0) (fun k l _ _=>rdU k l 0 0) gJ (fun o=>mP [1,2,4,3] o=false) rng where
 kind o h:=(mf h).1
 word:=pf (by decide+kernel)
 inj:=Rl (by decide+kernel)
 num o x y h _ _:=ov h vJ vJ
 undo o x y h _ _:=vv h vJ vJ
 posn o x y h hx hy:=mr ⟨(Ho h).1.1,(Ho h).1.2.1⟩ hx hy
theorem aY3:Dlc [1,2,4,3] (jJ kV) wrA rdU gJ (fun o=>mP [1,2,4,3] o=false) rng where
 kind o h:=(mf h).1
 word:=pf (by decide+kernel)
 inj:=Rl (by decide+kernel)
 num o x y h hx hy:=ov h hx hy
 undo o x y h hx hy:=vv h hx hy
 posn o x y h hx hy:=mr ⟨(Ho h).1.1,(Ho h).1.2.1⟩ hx hy
theorem Kn (s:ByteArray) (c:UInt8):(fH s (ByteArray.mk #[c])).map (·.data.toList)=pcs c s.data.toList:=by
 have h:=Lib.splitB_data (ByteArray.mk #[c]) 0 (Lib.countB s (ByteArray.mk #[c])) s;have e:Lib.countB s (ByteArray.mk #[c])=s.data.toList.count c:=Lib.count_one c s.data.toList;have f:Lib.splitK [c] 0 (s.data.toList.count c) s.data.toList=pcs c s.data.toList:=tc c _ _ rfl;unfold fH;rw[<- f,<- e];exact h
theorem aMG {s x:ByteArray} {c:UInt8} (h:x∈fH s (ByteArray.mk #[c])):x.size<=s.size:=by
 have f:x.data.toList∈pcs c s.data.toList:=by
  rw[<- Kn];exact JK.2 ⟨x,h,rfl⟩
 have:=Vp c _ _ f;rw[Array.length_toList,Array.length_toList] at this;exact this
theorem aMH (s:ByteArray) (c:UInt8):(fH s (ByteArray.mk #[c])).length<=s.size+1:=by
 have h:=S3 c s.data.toList;rw[<- Kn,KJ,Array.length_toList] at h;exact h
def nG (l:List ByteArray):Option (zzI):=rD lH (l.map (·.data.toList))
theorem aRp (e:ByteArray):(((!((kP e).2))||(decide (((kP e).1)<(-4194304))))||(decide (4194304<((kP e).1))))=(match lH e.data.toList with
  |some _=>false
  |none=>true)/\∀v,lH e.data.toList=some v->(kP e).1=v:=by
 unfold lH kP;cases I:Lib.atoiAll e.data.toList with
 |ok v=>
  simp only
  by_cases h: -4194304<=v/\v<=4194304
  ·rw[JQ h];refine⟨?_,fun u f=>by cases f;rfl⟩;have j:decide (v < -4194304)=false:=JC KI;have G:decide (4194304<v)=false:=JC KI;rw[j,G];rfl
  ·rw[QF h];refine⟨?_,fun u f=>by cases f⟩
   by_cases j:v < -4194304
   ·rw[JA j];rfl
   ·rw[JA (show 4194304<v by omega)];simp
 |_=>exact⟨rfl,fun u f=>by cases f⟩
theorem aRn {e:List UInt8} {v:Int} (h:lH e=some v): -4194304<=v/\v<=4194304:=by
 unfold lH at h;split at h
 ·split at h
  ·rename_i hv;cases h;exact hv
  ·cases h
 ·cases h
theorem aCf {F:Nat} {x0 S:List ByteArray->List ByteArray->Int->Int->Int->Int->Int->Int->Int->Int->Int->Int->zzI->Prop} {ws f:List ByteArray} {x y:Int} (J:∀e∈f,e.size<=200000) (L:f.length<=200001):
  ∀(rest:List ByteArray) (i:Nat) (j:zzI) (n:Nat),f.drop i=rest->i<=f.length->rest.length<n->j.length+rest.length<=200001->
   (match nG rest with
    |none=>∀(i':Int) O,x0 ws f f.length i' x y 0 0 0 0 0 0 O
    |some l=>S ws f f.length f.length x y 0 0 0 0 0 0 (j++l))->s6 F x0 S n ws f f.length i x y 0 0 0 0 0 0 j
 |[],i,j,n,I,hi,V,Z,h=>by
  obtain⟨n,rfl⟩:∃k,n=k+1:=⟨n-1,by have:([]:List ByteArray).length=0:=rfl;omega⟩;have hi':i=f.length:=by
   have:=congrArg List.length I;rw[KX,KW] at this;omega
  subst hi';unfold s6 Za;rw[JC KI,QK];have h:S ws f f.length f.length x y 0 0 0 0 0 0 (j++[]):=h;rwa [JP] at h
 |e::rest,i,j,n,I,hi,V,Z,h=>by
  obtain⟨n,rfl⟩:∃k,n=k+1:=⟨n-1,by rw[QN] at V;omega⟩;have hl:=congrArg List.length I;rw[KX,QN] at hl;have G:f[i]?=some e:=by
   have:=congrArg List.head? I;rwa [List.head?_drop,List.head?_cons] at this
  have hg:f.getD i default=e:=by rw[List.getD_eq_getElem?_getD,G];rfl
  have hm:e∈f:=List.mem_of_getElem? G;have hd':f.drop (i+1)=rest:=by
   have:=congrArg List.tail I;rwa [List.tail_drop,List.tail_cons] at this
  unfold s6 Za;rw[JA KI,QY];simp only[QZ,hg];refine⟨⟨KI,KI⟩,J e hm,?_⟩;obtain⟨hb,hv⟩:=aRp e;rw[hb];cases u:lH e.data.toList with
  |none=>
   simp only[QY];have h1:nG (e::rest)=none:=by
    unfold nG;rw[List.map_cons,rD,u]
   rw[h1] at h;exact h _ _
  |some v=>
   simp only[QK];have hw:aB ((i:Int)+1)=((i+1:Nat):Int):=by
    rw[cN KI KI];rfl
   refine⟨?_,?_⟩
   ·rw[QN] at Z;simp only[QN,KW];omega
   rw[hw,hv v u];refine aCf J L rest (i+1) (j++[v]) n hd' KI (by rw[QN] at V;omega) (by rw[QN] at Z;simp;omega) ?_;have h1:nG (e::rest)=(nG rest).map (v::·):=by
    unfold nG;rw[List.map_cons,rD,u];cases rD lH (rest.map (·.data.toList))<;>rfl
   rw[h1] at h;cases hr:nG rest with
   |none=>rw[hr] at h;exact h
   |some l=>
    rw[hr] at h;simp only[Option.map_some] at h ⊢;rwa [KZ]
theorem yb (s:ByteArray) (x y:Int) (h:s.size<=200000):∃F,∀Q Qc,(match nG ((fH s (ByteArray.mk #[32])).drop 1) with
  |none=>Q 0 0 0 0 0 0
  |some l=>Qc (fH s (ByteArray.mk #[32])) x y 0 0 0 0 0 0 l)->Sr F s x y Q Qc:=by
 have L:=aMH s 32;have J:1<=(fH s (ByteArray.mk #[32])).length:=by
  have u:=Kn s 32;have I:=Vo 32 s.data.toList;cases G:fH s (ByteArray.mk #[32]) with
  |nil=>rw[G] at u;exact absurd u.symm I
  |cons a l=>simp
 refine⟨200003,fun Q Qc f=>?_⟩;unfold Sr il;refine⟨⟨h,by decide⟩,⟨by decide,KI⟩,?_⟩;refine aCf (fun e he=>JT (aMG (List.mem_of_mem_drop he)) h) (by rw[KX];omega) _ 0 [] 200003 rfl (Nat.zero_le _) (by rw[List.drop_zero,KX];omega) (by rw[List.drop_zero,KX];simp;omega) ?_;rw[List.drop_zero];cases j:nG ((fH s (ByteArray.mk #[32])).drop 1) with
 |none=>
  rw[j] at f;exact fun _ _=>f
 |some l=>
  rw[j] at f;exact f
def obR (fz:Frz) (f1 f2:Nat) (x y:Int) (l:zzI):Nat->Option (aT UU):=fun u=>cond (Nat.beq u 65) (some (.row .int 0 l)) (cond (Nat.beq u 3) (some (.cells [.frz fz,.fn f1 [],.fn f2 []])) (cond (Nat.beq u 5) (some (.cells [.int .i64 x,.int .i64 y])) (cond (Nat.beq u 6) (some (.cells [.int .i64 0,.int .i64 0,.int .i64 0,.int .i64 0,.int .i64 0,.int .i64 0])) (none))))
def tmR (ws:List ByteArray) (ex:Nat->aC UU):Nat->aC UU:=fun u=>cond (Nat.beq u 3) (.ptr 3 0) (cond (Nat.beq u 5) (.ptr 5 0) (cond (Nat.beq u 6) (.ptr 6 0) (cond (Nat.beq u 7) (.sl .str ws) (cond (Nat.beq u 8) (.osl 65 0) (ex u)))))
def exL (va vb:Value):Nat->aC UU:=fun u=>cond (Nat.beq u 46) (.raw va) (cond (Nat.beq u 47) (.raw vb) (.any))
def exB (k:Int) (v:ByteArray) (va vb:Value):Nat->aC UU:=fun u=>cond (Nat.beq u 13) (.int .i64 k) (cond (Nat.beq u 14) (.str v) (cond (Nat.beq u 46) (.raw va) (cond (Nat.beq u 47) (.raw vb) (.any))))
def opA (o:Opn):aC UU:=.agg [.int .i64 o.Kind,.int .i64 o.X,.int .i64 o.Y,.int .i64 o.W,.int .i64 o.H,.int .i64 o.N]
def cz:Code:=cS (cS (cS (cS (bo f34))))
def cm:Code:=cF cz
def ce:Code:=cS cz
def cb:Code:=cL (cB (cS cm))
def Qe:Code:=cS (cS cb)
def cr:Code:=cS (cB Qe)
def sA:Code:=cF cm
def Ah:Code:=cF cb
def vO:Code:=cF (cB Qe)
theorem aYj:cz=.seq cm ce:=KA
theorem aZL:cm=.seq sA (.block 2 (.loop cb)):=KA
theorem bAk:Qe=.block 3 (.seq vO cr):=KA
theorem aPL:sA=.region 11 (cR sA) false:=KA
theorem aPJ:Ah=.region 12 (cR Ah) false:=KA
theorem aPH:vO=.region 13 (cR vO) false:=KA
theorem aPK:(cR sA).toList=[opn sA 0,opn sA 1]++[opn sA 2]:=KA
theorem aPI:(cR Ah).toList=[opn Ah 0,opn Ah 1]:=KA
theorem aPG:(cR vO).toList=[opn vO 0,opn vO 1,opn vO 2,opn vO 3,opn vO 4]:=KA
variable {P:Program} {a a':Act} {w w':World} {ops:Array Oper} {Q:Exit->Act->World->Prop} {K:Act->World->Prop} {rest:List Oper} {o:Oper}
theorem aHK {it:Operand} {u:Value} (ho:o.op=.next it false) (h:(Instr.next (a.eval it) false o.type).run P w=.ok u w'):(execOp a.eval o).run P w=.ok (.value u) w':=by
 unfold execOp;rw[ho];simp only[QE,h,QL,JO]
theorem aXD {it:Operand} {t:TypeId} {u:Value} (ho:o.op=.range t it) (h:(Instr.range t (a.eval it)).run P w=.ok u w'):(execOp a.eval o).run P w=.ok (.value u) w':=by
 unfold execOp;rw[ho];simp only[QE,h,QL,JO]
theorem aXI {it:Operand} {u:Value} (ho:o.op=.entry it) (h:(Instr.entry (a.eval it)).run P w=.ok u w'):(execOp a.eval o).run P w=.ok (.value u) w':=by
 unfold execOp;rw[ho];simp only[QE,h,QL,JO]
theorem Zq {x:Operand} {i:Nat} {f:Array Value} {u:Value} (ho:o.op=.extract x i) (j:a.eval x=.tuple f) (hi:f[i]?=some u):(execOp a.eval o).run P w=.ok (.value u) w:=by
 unfold execOp;rw[ho];simp only[QE,j];unfold Instr.extract;simp[hi,Result.andThen]
end
end Go.Proofs.YtgcpildegdgekaaGreatDoor
namespace Go.Proofs.YtgcpildegdgekaaGreatDoor
open Go.Proofs.Tryz
open Go.RowKit Go.Vm
noncomputable section
def K8 (N:Nat->Prop) (w0:World) (Post:aC UU->Prop) (a':Act) (w':World):Prop:=
 a'.defers=[]/\∃v,(results f34 a'.tmps).run prog w'=.ok v w'/\∃r,Post r/\jT EE w0.heap.size N w' r v/\Below w0.heap.size w0 w'
variable {fz:Frz} {f1 f2:Nat} {wl:List (Int×ByteArray)} {rd:Int->zzI->Int->Int->Opn} {N N':Nat->Prop} {w0:World} {Post:aC UU->Prop} {Q:Exit->Act->World->Prop}
theorem jq {F:Fr} {e:AEx} {s':ASt UU} {ρ':Vm.Own} {a':Act} {w':World} (h:bN cD false f34 Post e s') (hR:RR EE 65 N' F ρ' s' a' w') (V:F.w0=w0) (u:F.ds=[]) (L:∀b,N b->N' b) (J:∀b,N b->b<w0.heap.size):
  (e=.normal\/e=.ret)/\K8 N w0 Post a' w':=by
 have G:RR EE 65 N F ρ' s' a' w':=hR.jr L;have f:∃r,result cD false f34 s'=some r/\Post r:=by
  cases f:result cD false f34 s' with
  |none=>exfalso;cases e<;>simp[bN,f] at h
  |some r=>cases e<;>simp only[bN,f] at h<;>exact⟨r,rfl,h⟩
 have he:e=.normal\/e=.ret:=by
  cases e with
  |normal=>grind
  |exit id=>exact h.elim
  |ret=>grind
 obtain⟨r,f,O⟩:=f;obtain⟨v,S,j⟩:=Uk (C:=cD) (w0:=F) (N:=N) G (fun b hb=>by
  grind [Fr.heap]) f
 have I:=hR.defers;rw[u] at I;have hb:=hR.below;unfold Fr.heap at j hb;rw[V] at j hb;exact⟨he,I,v,S,r,O,j,hb⟩
structure Dlk (fz:Frz) (f1 f2:Nat) (wl:List (Int×ByteArray)) (rd:Int->zzI->Int->Int->Opn):Prop where
 map:∀w st v,Hc fz w st v->isMap (strs wl) w st v
 body:∀(ws:List ByteArray) (x y:Int) (l:zzI) (k:Int) (v:ByteArray) (va vb:Value) (Post:aC UU->Prop) (Kc:ASt UU->Prop),1<=ws.length->(∀n∈l, -4194304<=n/\n<=4194304)->
  (v=ws.getD 0 default->Post (opA (rd k l x y)))->(v≠ws.getD 0 default->Kc ⟨tmR ws (exL va vb),obR fz f1 f2 x y l⟩)->
  ∃M F mc,exec cD 65 M F 3 cr ⟨tmR ws (exB k v va vb),obR fz f1 f2 x y l⟩ (fU mc Kc (bN cD false f34 Post))
 last:∀(ws:List ByteArray) (x y:Int) (l:zzI) (va vb:Value) (Post:aC UU->Prop),Post (opA yN)->∃M F,exec cD 65 M F 0 ce ⟨tmR ws (exL va vb),obR fz f1 f2 x y l⟩ (bN cD false f34 Post)
 sel:∀p∈wl,gI wl p.1=p.2
 inj:∀k∈wl.map (·.1),∀j∈wl.map (·.1),jJ wl k=jJ wl j->k=j
def vS (wl:List (Int×ByteArray)) (rd:Int->zzI->Int->Int->Opn) (w:ByteArray) (l:zzI) (x y:Int):Opn:=
 match (wl.map (·.1)).find? (fun k=>jJ wl k==w.data.toList) with
 |none=>yN
 |some k=>rd k l x y
theorem aQr {D:Dlk fz f1 f2 wl rd} {k:Int} {v:ByteArray} (h:(k,v)∈wl) (l:zzI) (x y:Int):vS wl rd v l x y=rd k l x y:=by
 have f:k∈wl.map (·.1):=JK.2 ⟨_,h,rfl⟩;have e:v.data.toList=jJ wl k:=by
  unfold jJ;rw[D.sel _ h]
 unfold vS;rw[e,aHE D.inj f]
theorem aQq {D:Dlk fz f1 f2 wl rd} {w:ByteArray} (h:∀p∈wl,p.2≠w) (l:zzI) (x y:Int):vS wl rd w l x y=yN:=by
 unfold vS;rw[List.find?_eq_none.2 fun k f hb=>?_];obtain⟨p,hp,rfl⟩:=JK.1 f;unfold jJ at hb;rw[D.sel _ hp] at hb;grind [ByteArray.ext,Array.toList_inj]
theorem Zr:∀(l:List (Int×Value)) (c:Nat) (e:MapEntry),e∈jN l c->(∃p∈l,e.key=.int .i64 p.1/\e.val=p.2)/\c<=e.born/\e.born<c+l.length
 |[],c,e,h=>by cases h
 | (k,v)::l,c,e,h=>by
  rcases List.mem_cons.1 h with rfl|h
  ·simp_all
  ·obtain⟨⟨p,hp,G,u⟩,j,f⟩:=Zr l (c+1) e h;grind
theorem aHQ:∀(l:List (Int×Value)) (c:Nat) (p:Int×Value),p∈l->∃e∈jN l c,e.val=p.2
 |[],c,p,h=>by cases h
 | (k,v)::l,c,p,h=>by
  rcases List.mem_cons.1 h with rfl|h
  ·exact⟨_,QI ..,rfl⟩
  ·obtain⟨e,j,f⟩:=aHQ l (c+1) p h;exact⟨e,QA _ j,f⟩
theorem aHP:∀(l:List (Int×Value)) (c:Nat),((jN l c).map (·.born)).Nodup
 |[],c=>List.nodup_nil
 | (k,v)::l,c=>by
  refine List.nodup_cons.2 ⟨fun h=>?_,aHP l (c+1)⟩;obtain⟨e,f,j⟩:=JK.1 h;have:=(Zr l (c+1) e f).2.1;grind
section
variable {ws:List ByteArray} {x y:Int} {l:zzI} {I0 bm:Nat} {va vb:Value} {es:Array MapEntry}
def Qx (Q:Exit->Act->World->Prop):Exit->Act->World->Prop:=Exit.inBlock 2 (Exit.then (ce.wp prog Q) Q)
theorem aT7 (D:Dlk fz f1 f2 wl rd) (hi:inv2 w0) (hN1:∀b,N b->N' b) (I:∀b,N b->b<w0.heap.size) (hN2:∀b,N' b->N b\/b=I0) (hNI:N' I0) (hIge:w0.heap.size<=I0) (hes:es=(jN (strs wl) 0).toArray) (hvb:vb=.pointer (some ⟨I0,0,none⟩))
  (hws:1<=ws.length) (hl:∀n∈l, -4194304<=n/\n<=4194304) (L:Post (opA (vS wl rd (ws.getD 0 default) l x y))) (hQ:∀e,(e=.normal\/e=.ret)->∀a' w',K8 N w0 Post a' w'->Q e a' w'):
  ∀(m:Nat) (f:Array Nat) (c0:Nat) (W:World) (ρ:Vm.Own) (a:Act) (hlt:∀b,(b=I0\/b=bm)->b<W.heap.size) (hle:w0.heap.size<=W.heap.size),(leftOf es f).size<m->W.heap[I0]?=some (.mapIter (some bm) wl.length f c0)->wl.length<=c0->W.heap[bm]?=some (.map es wl.length)->
   (∀e∈es.toList,f.contains e.born=true->e.val≠ .string (ws.getD 0 default))->RR EE 65 N' (FrA w0 W (fun b=>b=I0\/b=bm) hlt hle (fun _=>none) (fun _ _ h=>by cases h) []) ρ ⟨tmR ws (exL va vb),obR fz f1 f2 x y l⟩ a W->
   Code.rounds prog cb (Qx Q) m a W:=by
 intro m
 induction m with
 |zero=>omega
 |succ m ih=>
  intro f c0 W ρ a hlt hle hm hI oB hbm hno hR;have hslen:(strs wl).length=wl.length:=by grind [strs]
  have hold:∀e∈es.toList,e.born<wl.length:=fun e he=>by
   rw[hes] at he;have:=(Zr _ _ e he).2.2;omega
  have hnd:(es.toList.map (·.born)).Nodup:=by grind [aHP]
  have hsat:fY cD w0:=Ug.at (show cD.inv w0 from hi);rw[rounds_succ]
  suffices hgoal:(Code.seq Ah (.seq (.cond (.tmp 49) .skip (.exit 2)) Qe)).wp prog (Exit.then (Code.rounds prog cb (Qx Q) m) (Qx Q)) a W by
   assumption
  refine wp_seq ?_;rw[aPJ];refine wp_region (rT ?_);rw[aPI];have hsz:a.tmps.size=65:=hR.size;have h47:a.eval (.tmp 47)=.pointer (some ⟨I0,0,none⟩):=by
   have h:=hR.eval (.tmp 47);have e:(⟨tmR ws (exL va vb),obR fz f1 f2 x y l⟩:ASt UU).eval (.tmp 47)=.raw vb:=rfl;rw[e] at h;generalize a.eval (.tmp 47)=u at h;cases h;omega
  rcases aTJ (P:=prog) (opn Ah 0).type hI hbm hold oB with ⟨h0,G⟩|⟨e,he,w1,wF,G⟩
  ·-- all have been seen
   refine gY (d:=48) KA KA (aHK (it:=.tmp 47) KA (by rw[h47];exact G)) ?_;have Ye:(a.put (some 48) (.tuple #[.bool false])).eval (.tmp 48)=.tuple #[.bool false]:=(oL KI).trans (JQ rfl);refine gY (d:=49) (u:=.bool false) KA KA (Zq (x:=.tmp 48) (i:=0) KA Ye rfl) ?_;refine wp_seq (wp_cond_false ((oL (by simp[Act.put];omega)).trans (JQ rfl)) (wp_exit ?_));have hR2:=(hR.sC (d:=48) (by decide) rfl (.tuple #[.bool false])).sC (d:=49) (by decide) rfl (.bool false);have hmiss:vS wl rd (ws.getD 0 default) l x y=yN:=aQq (D:=D) (fun p hp hpe=>by
    obtain⟨e,he1,he2⟩:=aHQ (strs wl) 0 (p.1,.string p.2) (JK.2 ⟨p,hp,rfl⟩);grind [all_seen]) l x y
   rw[hmiss] at L;obtain⟨M,F,hex⟩:=D.last ws x y l va vb Post L;show ce.wp prog Q _ W;refine uG (C:=cD) ?hs mixed (fun _ _ _ _ _ h=>by cases h) ce 0 _ _ ρ _ W Q hex hR2 (fun e s' ρ' a' w' hK hR'=>?_)
   case hs=>exact hsat
   obtain⟨h1,h2⟩:=jq hK hR' rfl rfl hN1 I;rcases h1 with rfl|rfl
   ·exact hQ .normal (.inl rfl) a' w' h2
   ·exact hQ .ret (.inr rfl) a' w' h2
  ·-- one more
   have hmem:=(mem_left he).1;have hmem':e∈jN (strs wl) 0:=by grind
   obtain⟨⟨p,hp,hkey,hval⟩,_,_⟩:=Zr _ _ e hmem';obtain⟨q,hq,rfl⟩:=JK.1 hp;simp only at hkey hval;obtain⟨W2,S⟩:∃W2,W2=w1.putObj I0 (.mapIter (some bm) wl.length (f.push e.born) wl.length):=⟨_,rfl⟩;rw[<- S] at G;have hheap:∀b:Nat,w1.heap[b]?=W.heap[b]?:=fun b=>by rcases wF with rfl|rfl<;>rfl
   have hsz1:w1.heap.size=W.heap.size:=by rcases wF with rfl|rfl<;>rfl
   have hIlt:I0<W.heap.size:=hlt I0 (.inl rfl);have hI2:W2.heap[I0]?=some (.mapIter (some bm) wl.length (f.push e.born) wl.length):=by
    grind [World.putObj_heap_same]
   have J:∀b:Nat,b≠I0->W2.heap[b]?=W.heap[b]?:=fun b hb=>by
    grind [World.putObj_heap_other]
   have hne:bm≠I0:=fun e'=>by
    grind
   have hbm2:W2.heap[bm]?=some (.map es wl.length):=(J bm hne).trans hbm;have hsz2:W2.heap.size=W.heap.size:=by
    simp_all
   have iR:Below w0.heap.size w0 W:=hR.below;have cJ:Below w0.heap.size w0 w1:=by
    rcases wF with rfl|rfl
    ·omega
    ·exact⟨iR.os,iR.tape,iR.output,iR.size,iR.block⟩
   have hbelow:Below w0.heap.size w0 W2:=by
    refine⟨?_,?_,?_,KI,fun k hk=>(J k KI).trans (iR.block k hk)⟩
    ·rw[S];exact cJ.os
    ·rw[S];exact cJ.tape
    ·rw[S];exact cJ.output
   have hlt2:∀b:Nat,(b=I0\/b=bm)->b<W2.heap.size:=fun b hb=>by grind
   have hle2:w0.heap.size<=W2.heap.size:=KI;have hKfree:∀nm g u b,ρ nm=some (g,u)->blk u=some b->¬(b=I0\/b=bm):=hR.free;refine gY (d:=48) KA KA (aHK (it:=.tmp 47) KA (by rw[h47];exact G)) ?_;have z1:(a.put (some 48) (.tuple #[.bool true,e.key,e.val])).tmps.size=65:=by simp[Act.put,hsz]
   have Ye:(a.put (some 48) (.tuple #[.bool true,e.key,e.val])).eval (.tmp 48)=.tuple #[.bool true,e.key,e.val]:=(oL KI).trans (JQ rfl);refine gY (d:=49) (u:=.bool true) KA KA (Zq (x:=.tmp 48) (i:=0) KA Ye rfl) ?_;have Z:=(hR.sC (d:=48) (by decide) rfl (.tuple #[.bool true,e.key,e.val])).sC (d:=49) (by decide) rfl (.bool true);have h49:((a.put (some 48) (.tuple #[.bool true,e.key,e.val])).put (some 49) (.bool true)).eval (.tmp 49)=.bool true:=(oL KI).trans (JQ rfl);have V:RR EE 65 N' (FrA w0 W2 (fun b=>b=I0\/b=bm) hlt2 hle2 (fun _=>none) (fun _ _ h=>by cases h) []) ρ ⟨tmR ws (exL va vb),obR fz f1 f2 x y l⟩ ((a.put (some 48) (.tuple #[.bool true,e.key,e.val])).put (some 49) (.bool true)) W2:=
    Z.anchor rfl (fun _ _ h=>by cases h) rfl Z.defers rfl rfl (fun b hb=>(hN2 b hb).elim (fun h=>.inl (I b h)) fun h=>.inr (.inl h)) (fun b hs=>hs.2.1) hKfree (fun nm g u b hr hb=>Z.qE hr hb)
     (fun b hb hn=>J b (fun e'=>hn (e'▸hNI))) hbelow KI
   generalize ((a.put (some 48) (.tuple #[.bool true,e.key,e.val])).put (some 49) (.bool true))=O at h49 V;clear Z Ye z1;have hsz':O.tmps.size=65:=V.size;have h47':O.eval (.tmp 47)=.pointer (some ⟨I0,0,none⟩):=by
    have h:=V.eval (.tmp 47);have e:(⟨tmR ws (exL va vb),obR fz f1 f2 x y l⟩:ASt UU).eval (.tmp 47)=.raw vb:=rfl;rw[e] at h;generalize O.eval (.tmp 47)=u at h;cases h;omega
   refine wp_seq (wp_cond_true h49 (wp_skip ?_));show Qe.wp prog _ O W2;rw[bAk];refine wp_block (wp_seq ?_);rw[aPH];refine wp_region (rT ?_);rw[aPG];have hent:=aX3 (P:=prog) (w:=W2) hI2 hbm2 hmem hnd;refine gY (d:=50) KA KA (aXI (it:=.tmp 47) KA (by rw[h47'];exact hent)) ?_;have z2:(O.put (some 50) (.tuple #[e.key,e.val])).tmps.size=65:=by simp[Act.put,hsz']
   have fc:(O.put (some 50) (.tuple #[e.key,e.val])).eval (.tmp 50)=.tuple #[e.key,e.val]:=(oL KI).trans (JQ rfl);refine gY (d:=51) (u:=e.key) KA KA (Zq (x:=.tmp 50) (i:=0) KA fc rfl) ?_;have hR3:=(V.sC (d:=50) (by decide) rfl (.tuple #[e.key,e.val])).sC (d:=51) (by decide) rfl e.key;have h50':((O.put (some 50) (.tuple #[e.key,e.val])).put (some 51) e.key).eval (.tmp 50)=.tuple #[e.key,e.val]:=((oL KI).trans (QF (by decide))).trans fc;refine gY (d:=52) (u:=e.val) KA KA (Zq (x:=.tmp 50) (i:=1) KA h50' rfl) ?_;have h51:((O.put (some 50) (.tuple #[e.key,e.val])).put (some 51) e.key).eval (.tmp 51)=e.key:=(oL KI).trans (JQ rfl);generalize ((O.put (some 50) (.tuple #[e.key,e.val])).put (some 51) e.key)=a3 at hR3 h51;clear fc h50' z2;have hsz3:a3.tmps.size=65:=hR3.size;have hR4:=hR3.sC (d:=52) (by decide) rfl e.val;have h51':(a3.put (some 52) e.val).eval (.tmp 51)=e.key:=((oL KI).trans (QF (by decide))).trans h51;have h52:(a3.put (some 52) e.val).eval (.tmp 52)=e.val:=(oL KI).trans (JQ rfl);generalize (a3.put (some 52) e.val)=a4 at hR4 h51' h52;have hsz4:a4.tmps.size=65:=hR4.size;refine gY (d:=13) KA KA (Bu (x:=.tmp 51) KA) ?_;rw[h51',hkey];have hR5:=hR4.Ln (d:=13) (by decide) (s':=⟨tmR ws (fun u=>cond (Nat.beq u 13) (.int .i64 q.1) (exL va vb u)),obR fz f1 f2 x y l⟩) (Rel.int .i64 q.1) rfl rfl (fun t ht=>by
    grind [tmR,fX])
   have h52':(a4.put (some 13) (.int .i64 q.1)).eval (.tmp 52)=e.val:=((oL KI).trans (QF (by decide))).trans h52;generalize (a4.put (some 13) (.int .i64 q.1))=a5 at hR5 h52';refine gY (d:=14) KA KA (Bu (x:=.tmp 52) KA) ?_;rw[h52',hval];have hR6:=hR5.Ln (d:=14) (by decide) (s':=⟨tmR ws (exB q.1 q.2 va vb),obR fz f1 f2 x y l⟩) (Rel.str q.2) rfl rfl (fun t ht=>by
    grind [tmR,exB,exL,fX])
   generalize (a5.put (some 14) (.string q.2))=a6 at hR6;show cr.wp prog _ a6 W2;obtain⟨M,F,mc,hex⟩:=D.body ws x y l q.1 q.2 va vb Post (fun s''=>s''=⟨tmR ws (exL va vb),obR fz f1 f2 x y l⟩/\q.2≠ws.getD 0 default) hws hl (fun hv=>by
    grind [aQr]) (fun hv=>⟨rfl,hv⟩)
   refine uG (C:=cD) ?hs mixed (fun _ _ _ _ _ h=>by cases h) cr 3 _ _ ρ a6 W2 _ hex hR6 (fun e' s' ρ' a' w' hK hR'=>?_)
   case hs=>exact hsat
   cases e' with
   |normal=>
    simp only[fU] at hK;split at hK
    ·rename_i s'' hcan;obtain⟨rfl,hv⟩:=hK;obtain⟨ρ'',j⟩:=uI hR' hcan (fun _ _ h=>by cases h);show Code.rounds prog cb (Qx Q) m a' w';have kI:w'.heap[I0]?=W2.heap[I0]?:=j.kept.2 I0 (.inl rfl);have kb:w'.heap[bm]?=W2.heap[bm]?:=j.kept.2 bm (.inr rfl);have hsz5:W2.heap.size<=w'.heap.size:=j.kept.1;have hlt5:∀b:Nat,(b=I0\/b=bm)->b<w'.heap.size:=fun b hb=>JX (hlt2 b hb) hsz5
     have hle5:w0.heap.size<=w'.heap.size:=JT hle2 hsz5;refine ih (f.push e.born) wl.length w' ρ'' a' hlt5 hle5 (by have:=left_shrinks es f e he;omega) (kI.trans hI2) (QP _) (kb.trans hbm2) (fun e1 he1 wH=>?_) ?_
     ·grind [born_inj]
     ·exact j.anchor rfl (fun _ _ h=>by cases h) rfl j.defers rfl rfl (fun b hb=>(hN2 b hb).elim (fun h=>.inl (I b h)) fun h=>.inr (.inl h)) (fun b hs=>hs.2.1) j.free (fun nm g u b hr hb=>j.qE hr hb)
       (fun b _ _=>rfl) j.below (QP _)
    grind
   |exit id=>exact(show False from hK).elim
   |ret=>
    obtain⟨_,h2⟩:=jq (e:=.ret) hK hR' rfl rfl hN1 I;exact hQ .ret (.inr rfl) a' w' h2
end
end
end Go.Proofs.YtgcpildegdgekaaGreatDoor
namespace Go.Proofs.YtgcpildegdgekaaGreatDoor
open Go.Proofs.Tryz
open Go.RowKit Go.Vm
noncomputable section
variable {fz:Frz} {f1 f2:Nat} {wl:List (Int×ByteArray)} {rd:Int->zzI->Int->Int->Opn} {N N':Nat->Prop} {w0:World} {Post:aC UU->Prop} {Q:Exit->Act->World->Prop}
section
variable {ws:List ByteArray} {x y:Int} {l:zzI}
theorem aYq:qQ cD 65 (cR sA) 4 [] [opn sA 0,opn sA 1] ⟨tmR ws (fun _=>.any),obR fz f1 f2 x y l⟩=some ([],((⟨tmR ws (fun _=>.any),obR fz f1 f2 x y l⟩:ASt UU).set 45 (.ptr 3 0)).set 46 (.frz fz)):=KA
theorem aT8 (D:Dlk fz f1 f2 wl rd) (hi:inv2 w0) (Z:∀b,N b->b<w0.heap.size)
  (hws:1<=ws.length) (hl:∀n∈l, -4194304<=n/\n<=4194304) (hPost:Post (opA (vS wl rd (ws.getD 0 default) l x y))) (hQ:∀e,(e=.normal\/e=.ret)->∀a' w',K8 N w0 Post a' w'->Q e a' w')
  {ρ:Vm.Own} {a:Act} {w:World} (hR:RR EE 65 N (Fr.pure w0) ρ ⟨tmR ws (fun _=>.any),obR fz f1 f2 x y l⟩ a w):cz.wp prog Q a w:=by
 have hsat:fY cD w0:=Ug.at (show cD.inv w0 from hi);have hslen:(strs wl).length=wl.length:=by unfold strs;rw[KJ]
 suffices I:(Code.seq (.seq sA (.block 2 (.loop cb))) ce).wp prog Q a w by
  rw[<- aZL,<- aYj] at I;exact I
 refine wp_seq (wp_seq ?_);rw[aPL];refine wp_region (rT ?_);rw[aPK];refine Jk _ _ (Pn (w0:=Fr.pure w0) 4 cD hsat [] _ _ _ [] aYq trivial ρ a w hR _ (fun ρ1 a1 f j=>?_));have hsz1:a1.tmps.size=65:=j.size;have fe:=j.eval (.tmp 46);have e46:(((⟨tmR ws (fun _=>.any),obR fz f1 f2 x y l⟩:ASt UU).set 45 (.ptr 3 0)).set 46 (.frz fz)).eval (.tmp 46)=.frz fz:=rfl;rw[e46] at fe;obtain⟨bm,hbm,hst,V⟩:∃bm,a1.eval (.tmp 46)=.map (some bm)/\aD N ρ1 f bm/\f.heap[bm]?=some (.map (jN (strs wl) 0).toArray wl.length):=by
  generalize a1.eval (.tmp 46)=u at fe;cases fe with
  |frz _ _ h=>
   obtain⟨b,h1,h2,h3⟩:=D.map _ _ _ h;exact⟨b,h1,h2,by rw[h3,hslen]⟩
 have S:=run_range_map (P:=prog) f 92 3 9 bm _ _ underlying92 V;obtain⟨W,hW⟩:∃W,W=f.alloc (.mapIter (some bm) wl.length #[] wl.length):=⟨_,rfl⟩;rw[<- hW] at S;refine gY (d:=47) KA KA (aXD (it:=.tmp 46) (t:=92) KA (by rw[hbm];exact S)) ?_;have hold:∀b:Nat,b<f.heap.size->W.heap[b]?=f.heap[b]?:=fun b hb=>by
  rw[hW];exact heap_alloc_old f _ hb
 have hnew:W.heap[f.heap.size]?=some (.mapIter (some bm) wl.length #[] wl.length):=by
  rw[hW];exact heap_alloc_new f _
 have hszW:W.heap.size=f.heap.size+1:=by rw[hW];simp
 have cJ:Below w0.heap.size w0 f:=j.below;have hbW:Below w0.heap.size w0 W:=cJ.trans (by
  have h1:=cJ.size;refine⟨?_,?_,?_,KI,fun k hk=>hold k KI⟩<;>rw[hW]<;>rfl)
 have L:∀b:Nat,(b=f.heap.size\/b=bm)->b<W.heap.size:=fun b hb=>by
  rcases hb with rfl|rfl
  ·omega
  ·have:=hst.1;omega
 have O:w0.heap.size<=W.heap.size:=hbW.size;have hRb:RR EE 65 (fun b=>N b\/b=f.heap.size) (FrA w0 W (fun b=>b=f.heap.size\/b=bm) L O (fun _=>none) (fun _ _ h=>by cases h) []) ρ1 (((⟨tmR ws (fun _=>.any),obR fz f1 f2 x y l⟩:ASt UU).set 45 (.ptr 3 0)).set 46 (.frz fz)) a1 W:=by
  refine j.anchor rfl (fun _ _ h=>by cases h) rfl j.defers rfl rfl (fun b hb=>hb.elim (fun h=>.inl (Z b h)) fun h=>.inr (.inl h)) (fun b hs J=>?_) (fun nm g u b hr hb J=>?_) (fun nm g u b hr hb J=>?_) (fun b hb J=>hold b hb) hbW KI
  ·rcases J with J|rfl
   ·exact hs.2.1 J
   ·exact absurd hs.1 (KS _)
  ·rcases J with rfl|rfl
   ·exact absurd ((j.own hr).2 _ hb).2 (KS _)
   ·exact hst.2.2 _ _ _ hr hb
  ·rcases J with J|rfl
   ·exact j.qE hr hb J
   ·exact absurd ((j.own hr).2 _ hb).2 (KS _)
 have hR2:RR EE 65 (fun b=>N b\/b=f.heap.size) (FrA w0 W (fun b=>b=f.heap.size\/b=bm) L O (fun _=>none) (fun _ _ h=>by cases h) []) ρ1 ⟨tmR ws (fun u=>cond (Nat.beq u 46) (.raw (.map (some bm))) .any),obR fz f1 f2 x y l⟩ a1 W:=by
  refine hRb.forget rfl rfl rfl fun t=>?_
  by_cases Yf:t=45
  ·subst Yf;exact .any _
  ·by_cases G:t=46
   ·subst G;have e:a1.kE (FrA w0 W (fun b=>b=f.heap.size\/b=bm) L O (fun _=>none) (fun _ _ h=>by cases h) []) 46=.map (some bm):=(u4 (by decide)).trans hbm;rw[e];exact .raw _
   ·have h:=hRb.tmps t;have e1:(((⟨tmR ws (fun _=>.any),obR fz f1 f2 x y l⟩:ASt UU).set 45 (.ptr 3 0)).set 46 (.frz fz)).tmps t=tmR ws (fun _=>.any) t:=by
     simp only[ASt.set,fX Yf,fX G,QK]
    rw[e1] at h;have e2:tmR ws (fun u=>cond (Nat.beq u 46) (.raw (.map (some bm))) (.any:aC UU)) t=tmR ws (fun _=>.any) t:=by
     simp only[tmR,fX G,QK]
    show Rel EE W ρ1 _ (tmR ws (fun u=>cond (Nat.beq u 46) (.raw (.map (some bm))) (.any:aC UU)) t) _;rw[e2];exact h
 have hR3:=hR2.Ln (d:=47) (by decide) (s':=⟨tmR ws (exL (.map (some bm)) (.pointer (some ⟨f.heap.size,0,none⟩))),obR fz f1 f2 x y l⟩) (Rel.raw (.pointer (some ⟨f.heap.size,0,none⟩))) rfl rfl (fun t ht=>by
  simp only[tmR,exL,fX ht,QK])
 show (Code.block 2 (.loop cb)).wp prog _ _ W;refine wp_block (wp_loop_rounds ((leftOf (jN (strs wl) 0).toArray #[]).size+1) ?_);exact aT7 (N:=N) (N':=fun b=>N b\/b=f.heap.size) D hi (fun b hb=>.inl hb) Z (fun b hb=>hb) (.inr rfl) cJ.size rfl rfl hws hl hPost hQ _ #[] wl.length W ρ1 _ L O (Nat.lt_succ_self _) hnew (QP _) ((hold bm hst.1).trans V) (fun e _ h=>by simp at h) hR3
end
end
end Go.Proofs.YtgcpildegdgekaaGreatDoor
namespace Go.Proofs.YtgcpildegdgekaaGreatDoor
open Go.Proofs.Tryz
open Go.RowKit Go.Vm
noncomputable section
variable {fz:Frz} {f1 f2:Nat} {wl:List (Int×ByteArray)} {rd:Int->zzI->Int->Int->Opn}
section
variable {U:eO} {C:Cfg U} {n:Nat} {M:Nat->Nat->Nat->Canon U} {fuel cur:Nat} {N:Nat->Prop} {w0:Fr} {x y z:Code} {s:ASt U} {ρ:Vm.Own} {a:Act} {w:World} {Q:Exit->Act->World->Prop} {K:AEx->ASt U->Prop}
theorem xZ (O:fY C w0) (I:C.P.follows .mixedOrders=true) (G:∀off cur r id u,w0.pin id=some u->id∈(M off cur r).cells) (h:exec C n M fuel cur x s (cA (aU M fuel C.dep C) C n M fuel cur y K)) (hR:RR C.E n N w0 ρ s a w)
  (L:∀s' ρ' a' w',exec C n M fuel cur y s' K->RR C.E n N w0 ρ' s' a' w'->z.wp C.P Q a' w') (J:∀e s' ρ' a' w',e≠ .normal->K e s'->RR C.E n N w0 ρ' s' a' w'->Q e.to a' w'):(Code.seq x z).wp C.P Q a w:=by
 refine wp_seq (uG O I G x cur s _ ρ a w _ h hR (fun e s' ρ' a' w' j f=>?_));cases e with
 |normal=>exact L s' ρ' a' w' j f
 |exit id=>exact J (.exit id) s' ρ' a' w' XQ j f
 |ret=>exact J .ret s' ρ' a' w' XQ j f
end
def sS:Code:=bo f34
theorem aZT:sS=.seq (cF sS) (.seq (cF (cS sS)) (.seq (cF (cS (cS sS))) (.seq (cF (cS (cS (cS sS)))) cz))):=KA
def aUj (M:Nat->Nat->Nat->Canon UU) (F:Nat) (mc:Canon UU) (Kc:ASt UU->Prop) (Post:aC UU->Prop):AEx->ASt UU->Prop:=
 cA (aU M F 0 cD) cD f34.ntmps M F 0 (cF (cS sS)) (cA (aU M F 0 cD) cD f34.ntmps M F 0 (cF (cS (cS sS))) (cA (aU M F 0 cD) cD f34.ntmps M F 0 (cF (cS (cS (cS sS)))) (fU mc Kc (bN cD false f34 Post))))
def Pre (fz:Frz) (f1 f2:Nat):Prop:=∀(s:ByteArray) (x y:Int) (Post:aC UU->Prop) (Kc:ASt UU->Prop),s.size<=200000->(match nG ((fH s (ByteArray.mk #[32])).drop 1) with
  |none=>Post (opA yN)
  |some l=>Kc ⟨tmR (fH s (ByteArray.mk #[32])) (fun _=>.any),obR fz f1 f2 x y l⟩)->
 ∃M F mc,exec cD f34.ntmps M F 0 (cF sS) (gK [.agg [.frz fz,.fn f1 [],.fn f2 []],.str s,.agg [.int .i64 x,.int .i64 y]]) (aUj M F mc Kc Post)
theorem yf:∀(l:List (List UInt8)) (r:zzI),rD lH l=some r->∀n∈r, -4194304<=n/\n<=4194304
 |[],r,h,n,f=>by cases h;cases f
 |e::l,r,h,n,f=>by
  rw[rD] at h;cases u:lH e with
  |none=>grind
  |some v=>
   cases j:rD lH l with
   |none=>grind
   |some G=>
    rw[u,j] at h;cases h;rcases List.mem_cons.1 f with rfl|f
    ·exact aRn u
    ·exact yf l G j n f
def sI (wl:List (Int×ByteArray)) (rd:Int->zzI->Int->Int->Opn) (s:ByteArray) (x y:Int):Opn:=oK lH (wl.map (·.1)) (jJ wl) rd s.data.toList x y
theorem aTv (s:ByteArray) (x y:Int):sI wl rd s x y=(match nG ((fH s (ByteArray.mk #[32])).drop 1) with
  |none=>yN
  |some l=>vS wl rd ((fH s (ByteArray.mk #[32])).getD 0 default) l x y):=by
 have f:=Kn s 32;have G:nG ((fH s (ByteArray.mk #[32])).drop 1)=rD lH ((pcs 32 s.data.toList).drop 1):=by
  grind [nG,List.map_drop]
 have u:((fH s (ByteArray.mk #[32])).getD 0 default).data.toList=(pcs 32 s.data.toList).headD []:=by
  rw[<- f];cases j:fH s (ByteArray.mk #[32]) with
  |nil=>
   rfl
  |cons a l=>rfl
 grind [sI,oK,vS]
theorem vu (D:Dlk fz f1 f2 wl rd) (hp:Pre fz f1 f2) (s:ByteArray) (x y:Int) (hs:s.size<=200000) {N:Nat->Prop} {w:World} {args:Array Value}
  (hi:inv2 w) (hN:∀b,N b->b<w.heap.size) (O:tA EE w N [.agg [.frz fz,.fn f1 [],.fn f2 []],.str s,.agg [.int .i64 x,.int .i64 y]] args):
  Calls prog 34 args w fun e w'=>∃v,e=.returned v/\jT EE w.heap.size N w' (opA (sI wl rd s x y)) v/\Below w.heap.size w w':=by
 have G:fY cD w:=Ug.at (show cD.inv w from hi);refine calls_of_wp (c:=sS) func34 KA ?_;have hsz:args.size=3:=O.1;have hR:RR EE f34.ntmps N (Fr.pure w) cO (gK [.agg [.frz fz,.fn f1 [],.fn f2 []],.str s,.agg [.int .i64 x,.int .i64 y]]) {tmps:=args++Array.replicate (f34.ntmps-args.size) undef,defers:=[]} w:=by
  refine⟨rfl,by simp_all,fun t=>?_,(fun id ob ho=>by cases ho),(fun id g u S=>by cases S),(fun _ _ _ _ _ _ _ S=>by cases S),Below.refl _ _,fun b hb=>.inl (hN b hb),⟨QP _,fun b hb=>hb.elim⟩,(fun _ _ _ _ S=>by cases S),(fun _ _ h=>by cases h),by decide⟩;exact Xv (fun _=>rfl) (by simp_all) (by simp_all) hsz (fun k hk=>(O.2 k hk).mono (fun b hb=>⟨⟨hb.1,hb.2,fun _ _ _ S=>by cases S⟩,rfl⟩) (fun _ _ _ S=>by cases S)) t
 have L:=aTv (wl:=wl) (rd:=rd) s x y;obtain⟨M,F,mc,hex⟩:=hp s x y (fun r=>r=opA (sI wl rd s x y)) (fun s'=>∃l,nG ((fH s (ByteArray.mk #[32])).drop 1)=some l/\s'=⟨tmR (fH s (ByteArray.mk #[32])) (fun _=>.any),obR fz f1 f2 x y l⟩) hs (by
  grind)
 refine(show ∀{Q:Exit->Act->World->Prop},(∀e,(e=.normal\/e=.ret)->∀a' w',K8 N w (fun r=>r=opA (sI wl rd s x y)) a' w'->Q e a' w')->sS.wp prog Q {tmps:=args++Array.replicate (f34.ntmps-args.size) undef,defers:=[]} w from fun {Q} hQ=>?_) ?_
 ·have J:∀e s' ρ' a' w',e≠ .normal->bN cD false f34 (fun r=>r=opA (sI wl rd s x y)) e s'->RR EE f34.ntmps N (Fr.pure w) ρ' s' a' w'->Q e.to a' w':=fun e s' ρ' a' w' j I f=>by
   obtain⟨h1,Z⟩:=jq I f rfl rfl (fun _ h=>h) hN;rcases h1 with rfl|rfl
   ·grind
   ·exact hQ .ret (.inr rfl) a' w' Z
  have V:∀e s',e≠ .normal->fU mc (fun s'=>∃l,nG ((fH s (ByteArray.mk #[32])).drop 1)=some l/\s'=⟨tmR (fH s (ByteArray.mk #[32])) (fun _=>.any),obR fz f1 f2 x y l⟩) (bN cD false f34 (fun r=>r=opA (sI wl rd s x y))) e s'->bN cD false f34 (fun r=>r=opA (sI wl rd s x y)) e s':=fun e s' j h=>by
   cases e with
   |normal=>grind
   |exit id=>exact h
   |ret=>exact h
  rw[aZT];refine xZ (C:=cD) (w0:=Fr.pure w) G mixed (fun _ _ _ _ _ h=>by cases h) hex hR (fun s1 ρ1 a1 w1 h1 hR1=>?_) (fun e s' ρ' a' w' j I f=>J e s' ρ' a' w' j (V e s' j (by cases e<;>first|exact I|grind)) f)
  refine xZ (C:=cD) (w0:=Fr.pure w) G mixed (fun _ _ _ _ _ h=>by cases h) h1 hR1 (fun s2 ρ2 a2 w2 Z hR2=>?_) (fun e s' ρ' a' w' j I f=>J e s' ρ' a' w' j (V e s' j (by cases e<;>first|exact I|grind)) f)
  refine xZ (C:=cD) (w0:=Fr.pure w) G mixed (fun _ _ _ _ _ h=>by cases h) Z hR2 (fun s3 ρ3 a3 w3 h3 hR3=>?_) (fun e s' ρ' a' w' j I f=>J e s' ρ' a' w' j (V e s' j I) f);refine wp_seq (uG (C:=cD) (w0:=Fr.pure w) G mixed (fun _ _ _ _ _ h=>by cases h) _ 0 s3 _ ρ3 a3 w3 _ h3 hR3 (fun e s' ρ' a' w' I f=>?_));cases e with
  |exit id=>exact J (.exit id) s' ρ' a' w' XQ I f
  |ret=>exact J .ret s' ρ' a' w' XQ I f
  |normal=>
   show cz.wp prog Q a' w';simp only[fU] at I;split at I
   ·rename_i s'' hcan;obtain⟨l,hl,rfl⟩:=I;obtain⟨ρ'',hR''⟩:=uI f hcan (fun _ _ h=>by cases h);rw[hl] at L;refine aT8 (ws:=fH s (ByteArray.mk #[32])) (Post:=fun r=>r=opA (sI wl rd s x y)) D hi hN ?_ (yf _ l hl) (congrArg opA L).symm hQ hR'';grind [Kn,Vo]
   grind
 ·rintro e (rfl|rfl) a' w' ⟨hd,v,h1,r,rfl,Z,h3⟩
  ·exact⟨hd,v,h1,v,rfl,Z,h3⟩
  ·exact⟨hd,v,h1,v,rfl,Z,h3⟩
end
end Go.Proofs.YtgcpildegdgekaaGreatDoor
namespace Go.Proofs.YtgcpildegdgekaaGreatDoor
open Go.Proofs.Tryz
open Go.RowKit Go.Vm
noncomputable section
theorem mg {v w:ByteArray} (h:(v==w)=true):v=w:=by
 cases v;cases w;have f:(_==_)=true:=h;exact congrArg ByteArray.mk (eq_of_beq f)
theorem aIO {v w:ByteArray} (h:(v==w)=false):v≠w:=fun e=>by
 subst e;have f:(v.data==v.data)=false:=h;rw[beq_self_eq_true] at f;cases f
theorem rz {k:Int} {l:zzI} {x y:Int}:yH k l x y/\gG k l x y=((rdU k l x y).Kind,(rdU k l x y).X,(rdU k l x y).Y,(rdU k l x y).W,(rdU k l x y).H,(rdU k l x y).N):=by
 unfold yH gG rdU
 by_cases j:2<=l.length
 ·by_cases f:k=3/\4<=l.length
  ·have e:((k==3)&&(decide (4<=(l.length:Int))))=true:=by simp[f.1];omega
   rw[e,JA KI];refine⟨⟨⟨KI,KI⟩,⟨KI,KI⟩,⟨KI,KI⟩,⟨KI,KI⟩⟩,?_⟩;simp[j,f]
  ·have e:((k==3)&&(decide (4<=(l.length:Int))))=false:=by
    simp only[Bool.and_eq_false_iff,JL,JS]
    by_cases u:k=3
    ·right;intro h;exact f ⟨u,KI⟩
    ·exact .inl u
   rw[e,JA KI];refine⟨⟨⟨KI,KI⟩,⟨KI,KI⟩,trivial⟩,?_⟩;simp[j,f]
 ·have f:¬(k=3/\4<=l.length):=fun h=>KI
  have e:((k==3)&&(decide (4<=(l.length:Int))))=false:=by
   rw[JC KI,Bool.and_false]
  rw[e,JC KI];refine⟨trivial,?_⟩;simp[j,f]
theorem D1:Dlk .W1 65 67 kW (fun k l _ _=>rdU k l 0 0) where
 map:=fun w J v h=>h
 body:=fun ws x y l k v va vb Post Kc I L G u=>by
  refine⟨oa,0,Z0,?_⟩;refine cast (aWv 0 Post Kc ws x y l k v va vb).symm ?_;unfold rf iu;refine⟨⟨by decide,KI⟩,?_⟩;obtain⟨j,f⟩:=rz (k:=k) (l:=l) (x:=0) (y:=0);cases hb:v==ws.getD 0 default with
  |true=>
   refine⟨j,?_⟩;unfold kY;rw[f];exact G (mg hb)
  |false=>exact u (aIO hb)
 last:=fun ws x y l va vb Post h=>⟨nw,0,cast (aWt 0 Post ws x y l va vb).symm h⟩
 sel:=by decide+kernel
 inj:=Rl (by decide+kernel)
theorem D2:Dlk .W2 66 68 kV rdU where
 map:=fun w J v h=>h
 body:=fun ws x y l k v va vb Post Kc I L G u=>by
  refine⟨nz,0,Y9,?_⟩;refine cast (aWu 0 Post Kc ws x y l k v va vb).symm ?_;unfold re ir;refine⟨⟨by decide,KI⟩,?_⟩;obtain⟨j,f⟩:=rz (k:=k) (l:=l) (x:=x) (y:=y);cases hb:v==ws.getD 0 default with
  |true=>
   refine⟨j,?_⟩;rw[f];exact G (mg hb)
  |false=>exact u (aIO hb)
 last:=fun ws x y l va vb Post h=>⟨nv,0,cast (aWs 0 Post ws x y l va vb).symm h⟩
 sel:=by decide+kernel
 inj:=Rl (by decide+kernel)
theorem P1:Pre .W1 65 67:=fun s x y Post Kc j h=>by
 obtain⟨F,hF⟩:=yb s x y j;refine⟨mY,F,Xa,cast (aWr F Post Kc s x y).symm (hF _ _ ?_)⟩;cases f:nG ((fH s (ByteArray.mk #[32])).drop 1) with
 |none=>rw[f] at h;exact h
 |some l=>rw[f] at h;exact h
theorem P2:Pre .W2 66 68:=fun s x y Post Kc j h=>by
 obtain⟨F,hF⟩:=yb s x y j;refine⟨mX,F,Wz,cast (aWq F Post Kc s x y).symm ((show rb=Sr by kernel_rfl)▸hF _ _ ?_)⟩;cases f:nG ((fH s (ByteArray.mk #[32])).drop 1) with
 |none=>rw[f] at h;exact h
 |some l=>rw[f] at h;exact h
def cG:Code->Code
 | .rangeFunc _ _ _ b=>b
 |c=>c
def Ag (d:Int) (s:ByteArray) (x y:Int):Opn:=
 if d=1 then sI kW (fun k l _ _=>rdU k l 0 0) s x y else sI kV rdU s x y
def yP (s:ByteArray):Prop:=s.size<=200000
def aB8:Model UU
 |[.agg [.frz .W1,.fn 65 [],.fn 67 []],.str s,.agg [.int .i64 x,.int .i64 y]]=>some ([yP s],opA (Ag 1 s x y))
 |[.agg [.frz .W2,.fn 66 [],.fn 68 []],.str s,.agg [.int .i64 x,.int .i64 y]]=>some ([yP s],opA (Ag 2 s x y))
 |_=>none
def bS:Cfg UU:=cD.add 34 aB8
theorem Uf:aE bS:=by
 refine Ug.put ⟨fun u w=>lE (fn:=f34) func34 KA rfl u w,?_⟩;intro N w u xs L r j J f hm I;unfold aB8 at hm;split at hm
 ·cases hm;have G:=(show yP _ from I);exact vu D1 P1 _ _ _ G j J f
 ·cases hm;have G:=(show yP _ from I);exact vu D2 P2 _ _ _ G j J f
 ·cases hm
def kR:CnT:=cnL []
def Z2:Canon UU:=⟨[0,1,6,8,9],[6,8,9],[],[],[]⟩
def ug (f:Int) (t1:ByteArray) (G j:Int):ASt UU:=⟨fun u=>cond (Nat.beq u 0) (.i f) (cond (Nat.beq u 1) (.str t1) (cond (Nat.beq u 6) (.ptr 6 0) (cond (Nat.beq u 8) (.ptr 8 0) (cond (Nat.beq u 9) (.ptr 9 0) (.any))))),fun u=>cond (Nat.beq u 6) (some (.cells [.frz .W1,.fn 65 [],.fn 67 []])) (cond (Nat.beq u 8) (some (.cells [.nils])) (cond (Nat.beq u 9) (some (.cells [.i G,.i j])) (none)))⟩
def iw (t:ByteArray) (Q:List Opn->Int->Prop) (Qc:bCc):Prop:=cond (decide (160000<(t.size:Int))) (Q ([]) 4) (Qc 1 t 0 0)
def ri (F:Nat) (t:ByteArray) (Q:List Opn->Int->Prop) (Qc:bCc):Prop:=iw t Q Qc
def kQ:CnT:=cnL []
def Z1:Canon UU:=⟨[0,1,6,8,9],[6,8,9],[],[],[]⟩
def uf (f:Int) (t1:ByteArray) (G j:Int):ASt UU:=⟨fun u=>cond (Nat.beq u 0) (.i f) (cond (Nat.beq u 1) (.str t1) (cond (Nat.beq u 6) (.ptr 6 0) (cond (Nat.beq u 8) (.ptr 8 0) (cond (Nat.beq u 9) (.ptr 9 0) (.any))))),fun u=>cond (Nat.beq u 6) (some (.cells [.frz .W2,.fn 66 [],.fn 68 []])) (cond (Nat.beq u 8) (some (.cells [.nils])) (cond (Nat.beq u 9) (some (.cells [.i G,.i j])) (none)))⟩
def iv (t:ByteArray) (Q:List Opn->Int->Prop) (Qc:bCc):Prop:=cond (decide (160000<(t.size:Int))) (Q ([]) 4) (Qc 2 t 0 0)
def rh (F:Nat) (t:ByteArray) (Q:List Opn->Int->Prop) (Qc:bCc):Prop:=iv t Q Qc
def oi:CnT:=cnL []
def zw:Canon UU:=⟨[0,1,6,8,9],[6,8,9],[(.cell 8 0,55,.op)],[],[]⟩
def uk (f:Int) (t1:ByteArray) (I G:Int) (j:List Opn):ASt UU:=⟨fun u=>cond (Nat.beq u 0) (.i f) (cond (Nat.beq u 1) (.str t1) (cond (Nat.beq u 6) (.ptr 6 0) (cond (Nat.beq u 8) (.ptr 8 0) (cond (Nat.beq u 9) (.ptr 9 0) (.any))))),fun u=>cond (Nat.beq u 55) (some (.row .op 0 j)) (cond (Nat.beq u 6) (some (.cells [.frz .W1,.fn 65 [],.fn 67 []])) (cond (Nat.beq u 8) (some (.cells [.osl 55 0])) (cond (Nat.beq u 9) (some (.cells [.i I,.i G])) (none))))⟩
abbrev bCg:=Int->ByteArray->Int->Int->List Opn->Prop
def jb (t:ByteArray) (ops:List Opn) (x y:Int) (s:ByteArray) (Q:List Opn->Int->Prop) (Qc:bCg):Prop:=(let u:=(xS s (ByteArray.mk #[10]));((Ar s (ByteArray.mk #[10]))/\(let f:=(Ag 1 u x y);((yP u)/\(let j:=(rY f.Kind f.X f.Y f.W f.H f.N x y);(((ops.length+([f]).length)*48<=140737488355328)/\Qc 1 t j.1 j.2 (ops++([f]))))))))
def rm (F:Nat) (t:ByteArray) (ops:List Opn) (x y:Int) (s:ByteArray) (Q:List Opn->Int->Prop) (Qc:bCg):Prop:=jb t ops x y s Q Qc
def og:CnT:=cnL []
def zu:Canon UU:=⟨[0,1,6,8,9],[6,8,9],[(.cell 8 0,55,.op)],[],[]⟩
def uh (f:Int) (t1:ByteArray) (I G:Int) (j:List Opn):ASt UU:=⟨fun u=>cond (Nat.beq u 0) (.i f) (cond (Nat.beq u 1) (.str t1) (cond (Nat.beq u 6) (.ptr 6 0) (cond (Nat.beq u 8) (.ptr 8 0) (cond (Nat.beq u 9) (.ptr 9 0) (.any))))),fun u=>cond (Nat.beq u 55) (some (.row .op 0 j)) (cond (Nat.beq u 6) (some (.cells [.frz .W2,.fn 66 [],.fn 68 []])) (cond (Nat.beq u 8) (some (.cells [.osl 55 0])) (cond (Nat.beq u 9) (some (.cells [.i I,.i G])) (none))))⟩
def ja (t:ByteArray) (ops:List Opn) (x y:Int) (s:ByteArray) (Q:List Opn->Int->Prop) (Qc:bCg):Prop:=(let u:=(xS s (ByteArray.mk #[10]));((Ar s (ByteArray.mk #[10]))/\(let f:=(Ag 2 u x y);((yP u)/\(let j:=(rY f.Kind f.X f.Y f.W f.H f.N x y);(((ops.length+([f]).length)*48<=140737488355328)/\Qc 2 t j.1 j.2 (ops++([f]))))))))
def rl (F:Nat) (t:ByteArray) (ops:List Opn) (x y:Int) (s:ByteArray) (Q:List Opn->Int->Prop) (Qc:bCg):Prop:=ja t ops x y s Q Qc
def oe:CnT:=cnL []
def iz (t:ByteArray) (ops:List Opn) (x y:Int) (Q:List Opn->Int->Prop):Prop:=(let f:=(qW ops);((R9 ops)/\cond ((f.2 !=0)||(f.1 !=t)) (Q ([]) 3) (Q ops 0)))
def rk (F:Nat) (t:ByteArray) (ops:List Opn) (x y:Int) (Q:List Opn->Int->Prop):Prop:=iz t ops x y Q
def od:CnT:=cnL []
def iy (t:ByteArray) (ops:List Opn) (x y:Int) (Q:List Opn->Int->Prop):Prop:=(let f:=(pD ops);((Vf ops)/\cond ((f.2 !=0)||(f.1 !=t)) (Q ([]) 3) (Q ops 0)))
def rj (F:Nat) (t:ByteArray) (ops:List Opn) (x y:Int) (Q:List Opn->Int->Prop):Prop:=iy t ops x y Q
theorem aXY (F:Nat) (Post:aC UU->Prop) (Kc:ASt UU->Prop) (t:ByteArray):exec bS f9.ntmps kR F 0 (cF (bo f9)) (gK [.i 1,.str t]) (cA (aU kR F 0 bS) bS f9.ntmps kR F 0 (cF (cS (bo f9))) (cA (aU kR F 0 bS) bS f9.ntmps kR F 0 (cF (cS (cS (bo f9)))) (cA (aU kR F 0 bS) bS f9.ntmps kR F 0 (cF (cS (cS (cS (bo f9))))) (cA (aU kR F 0 bS) bS f9.ntmps kR F 0 (cF (cS (cS (cS (cS (bo f9)))))) (cA (aU kR F 0 bS) bS f9.ntmps kR F 0 (cF (cS (cS (cS (cS (cS (bo f9))))))) (fU Z2 Kc (bN bS true f9 Post)))))))=iw t (fun G u=>Post (.tup [.new .op G,.i u])) (fun j f J I=>Kc (ug j f J I)):=KA
theorem aWx (F:Nat) (Post:aC UU->Prop) (Kc:ASt UU->Prop) (t:ByteArray):exec bS f9.ntmps kR F 0 (cF (bo f9)) (gK [.i 1,.str t]) (cA (aU kR F 0 bS) bS f9.ntmps kR F 0 (cF (cS (bo f9))) (cA (aU kR F 0 bS) bS f9.ntmps kR F 0 (cF (cS (cS (bo f9)))) (cA (aU kR F 0 bS) bS f9.ntmps kR F 0 (cF (cS (cS (cS (bo f9))))) (cA (aU kR F 0 bS) bS f9.ntmps kR F 0 (cF (cS (cS (cS (cS (bo f9)))))) (cA (aU kR F 0 bS) bS f9.ntmps kR F 0 (cF (cS (cS (cS (cS (cS (bo f9))))))) (fU Z2 Kc (bN bS true f9 Post)))))))=ri F t (fun G u=>Post (.tup [.new .op G,.i u])) (fun j f J I=>Kc (ug j f J I)):=by
 rw[aXY];rfl
theorem aXX (F:Nat) (Post:aC UU->Prop) (Kc:ASt UU->Prop) (t:ByteArray):exec bS f9.ntmps kQ F 0 (cF (bo f9)) (gK [.i 2,.str t]) (cA (aU kQ F 0 bS) bS f9.ntmps kQ F 0 (cF (cS (bo f9))) (cA (aU kQ F 0 bS) bS f9.ntmps kQ F 0 (cF (cS (cS (bo f9)))) (cA (aU kQ F 0 bS) bS f9.ntmps kQ F 0 (cF (cS (cS (cS (bo f9))))) (cA (aU kQ F 0 bS) bS f9.ntmps kQ F 0 (cF (cS (cS (cS (cS (bo f9)))))) (cA (aU kQ F 0 bS) bS f9.ntmps kQ F 0 (cF (cS (cS (cS (cS (cS (bo f9))))))) (fU Z1 Kc (bN bS true f9 Post)))))))=iv t (fun G u=>Post (.tup [.new .op G,.i u])) (fun j f J I=>Kc (uf j f J I)):=KA
theorem aWw (F:Nat) (Post:aC UU->Prop) (Kc:ASt UU->Prop) (t:ByteArray):exec bS f9.ntmps kQ F 0 (cF (bo f9)) (gK [.i 2,.str t]) (cA (aU kQ F 0 bS) bS f9.ntmps kQ F 0 (cF (cS (bo f9))) (cA (aU kQ F 0 bS) bS f9.ntmps kQ F 0 (cF (cS (cS (bo f9)))) (cA (aU kQ F 0 bS) bS f9.ntmps kQ F 0 (cF (cS (cS (cS (bo f9))))) (cA (aU kQ F 0 bS) bS f9.ntmps kQ F 0 (cF (cS (cS (cS (cS (bo f9)))))) (cA (aU kQ F 0 bS) bS f9.ntmps kQ F 0 (cF (cS (cS (cS (cS (cS (bo f9))))))) (fU Z1 Kc (bN bS true f9 Post)))))))=rh F t (fun G u=>Post (.tup [.new .op G,.i u])) (fun j f J I=>Kc (uf j f J I)):=by
 rw[aXX];rfl
theorem aX2 (F:Nat) (Post:aC UU->Prop) (Kc:ASt UU->Prop) (t:ByteArray) (ops:List Opn) (x y:Int) (s:ByteArray):exec bS f9.ntmps oi F 1 (cB (cG (cB (cS (cF (cS (cS (cS (cS (cS (cS (bo f9)))))))))))) (⟨fun u=>cond (Nat.beq u 0) (.i 1) (cond (Nat.beq u 1) (.str t) (cond (Nat.beq u 6) (.ptr 6 0) (cond (Nat.beq u 8) (.ptr 8 0) (cond (Nat.beq u 9) (.ptr 9 0) (cond (Nat.beq u 10) (.str s) (.any)))))),fun u=>cond (Nat.beq u 55) (some (.row .op 0 ops)) (cond (Nat.beq u 6) (some (.cells [.frz .W1,.fn 65 [],.fn 67 []])) (cond (Nat.beq u 8) (some (.cells [.osl 55 0])) (cond (Nat.beq u 9) (some (.cells [.i x,.i y])) (none))))⟩) (fU zw Kc (bN bS true f9 Post))=jb t ops x y s (fun J I=>Post (.tup [.new .op J,.i I])) (fun j f O L G=>Kc (uk j f O L G)):=KA
theorem aXB (F:Nat) (Post:aC UU->Prop) (Kc:ASt UU->Prop) (t:ByteArray) (ops:List Opn) (x y:Int) (s:ByteArray):exec bS f9.ntmps oi F 1 (cB (cG (cB (cS (cF (cS (cS (cS (cS (cS (cS (bo f9)))))))))))) (⟨fun u=>cond (Nat.beq u 0) (.i 1) (cond (Nat.beq u 1) (.str t) (cond (Nat.beq u 6) (.ptr 6 0) (cond (Nat.beq u 8) (.ptr 8 0) (cond (Nat.beq u 9) (.ptr 9 0) (cond (Nat.beq u 10) (.str s) (.any)))))),fun u=>cond (Nat.beq u 55) (some (.row .op 0 ops)) (cond (Nat.beq u 6) (some (.cells [.frz .W1,.fn 65 [],.fn 67 []])) (cond (Nat.beq u 8) (some (.cells [.osl 55 0])) (cond (Nat.beq u 9) (some (.cells [.i x,.i y])) (none))))⟩) (fU zw Kc (bN bS true f9 Post))=rm F t ops x y s (fun J I=>Post (.tup [.new .op J,.i I])) (fun j f O L G=>Kc (uk j f O L G)):=by
 rw[aX2];rfl
theorem aX1 (F:Nat) (Post:aC UU->Prop) (Kc:ASt UU->Prop) (t:ByteArray) (ops:List Opn) (x y:Int) (s:ByteArray):exec bS f9.ntmps og F 1 (cB (cG (cB (cS (cF (cS (cS (cS (cS (cS (cS (bo f9)))))))))))) (⟨fun u=>cond (Nat.beq u 0) (.i 2) (cond (Nat.beq u 1) (.str t) (cond (Nat.beq u 6) (.ptr 6 0) (cond (Nat.beq u 8) (.ptr 8 0) (cond (Nat.beq u 9) (.ptr 9 0) (cond (Nat.beq u 10) (.str s) (.any)))))),fun u=>cond (Nat.beq u 55) (some (.row .op 0 ops)) (cond (Nat.beq u 6) (some (.cells [.frz .W2,.fn 66 [],.fn 68 []])) (cond (Nat.beq u 8) (some (.cells [.osl 55 0])) (cond (Nat.beq u 9) (some (.cells [.i x,.i y])) (none))))⟩) (fU zu Kc (bN bS true f9 Post))=ja t ops x y s (fun J I=>Post (.tup [.new .op J,.i I])) (fun j f O L G=>Kc (uh j f O L G)):=KA
theorem aXA (F:Nat) (Post:aC UU->Prop) (Kc:ASt UU->Prop) (t:ByteArray) (ops:List Opn) (x y:Int) (s:ByteArray):exec bS f9.ntmps og F 1 (cB (cG (cB (cS (cF (cS (cS (cS (cS (cS (cS (bo f9)))))))))))) (⟨fun u=>cond (Nat.beq u 0) (.i 2) (cond (Nat.beq u 1) (.str t) (cond (Nat.beq u 6) (.ptr 6 0) (cond (Nat.beq u 8) (.ptr 8 0) (cond (Nat.beq u 9) (.ptr 9 0) (cond (Nat.beq u 10) (.str s) (.any)))))),fun u=>cond (Nat.beq u 55) (some (.row .op 0 ops)) (cond (Nat.beq u 6) (some (.cells [.frz .W2,.fn 66 [],.fn 68 []])) (cond (Nat.beq u 8) (some (.cells [.osl 55 0])) (cond (Nat.beq u 9) (some (.cells [.i x,.i y])) (none))))⟩) (fU zu Kc (bN bS true f9 Post))=rl F t ops x y s (fun J I=>Post (.tup [.new .op J,.i I])) (fun j f O L G=>Kc (uh j f O L G)):=by
 rw[aX1];rfl
theorem aX0 (F:Nat) (Post:aC UU->Prop) (t:ByteArray) (ops:List Opn) (x y:Int):exec bS f9.ntmps oe F 0 (cS (cS (cS (cS (cS (cS (cS (bo f9)))))))) (⟨fun u=>cond (Nat.beq u 0) (.i 1) (cond (Nat.beq u 1) (.str t) (cond (Nat.beq u 6) (.ptr 6 0) (cond (Nat.beq u 8) (.ptr 8 0) (cond (Nat.beq u 9) (.ptr 9 0) (.any))))),fun u=>cond (Nat.beq u 55) (some (.row .op 0 ops)) (cond (Nat.beq u 6) (some (.cells [.frz .W1,.fn 65 [],.fn 67 []])) (cond (Nat.beq u 8) (some (.cells [.osl 55 0])) (cond (Nat.beq u 9) (some (.cells [.i x,.i y])) (none))))⟩) (bN bS true f9 Post)=iz t ops x y (fun j f=>Post (.tup [.new .op j,.i f])):=KA
theorem aWz (F:Nat) (Post:aC UU->Prop) (t:ByteArray) (ops:List Opn) (x y:Int):exec bS f9.ntmps oe F 0 (cS (cS (cS (cS (cS (cS (cS (bo f9)))))))) (⟨fun u=>cond (Nat.beq u 0) (.i 1) (cond (Nat.beq u 1) (.str t) (cond (Nat.beq u 6) (.ptr 6 0) (cond (Nat.beq u 8) (.ptr 8 0) (cond (Nat.beq u 9) (.ptr 9 0) (.any))))),fun u=>cond (Nat.beq u 55) (some (.row .op 0 ops)) (cond (Nat.beq u 6) (some (.cells [.frz .W1,.fn 65 [],.fn 67 []])) (cond (Nat.beq u 8) (some (.cells [.osl 55 0])) (cond (Nat.beq u 9) (some (.cells [.i x,.i y])) (none))))⟩) (bN bS true f9 Post)=rk F t ops x y (fun j f=>Post (.tup [.new .op j,.i f])):=by
 rw[aX0];rfl
theorem aXZ (F:Nat) (Post:aC UU->Prop) (t:ByteArray) (ops:List Opn) (x y:Int):exec bS f9.ntmps od F 0 (cS (cS (cS (cS (cS (cS (cS (bo f9)))))))) (⟨fun u=>cond (Nat.beq u 0) (.i 2) (cond (Nat.beq u 1) (.str t) (cond (Nat.beq u 6) (.ptr 6 0) (cond (Nat.beq u 8) (.ptr 8 0) (cond (Nat.beq u 9) (.ptr 9 0) (.any))))),fun u=>cond (Nat.beq u 55) (some (.row .op 0 ops)) (cond (Nat.beq u 6) (some (.cells [.frz .W2,.fn 66 [],.fn 68 []])) (cond (Nat.beq u 8) (some (.cells [.osl 55 0])) (cond (Nat.beq u 9) (some (.cells [.i x,.i y])) (none))))⟩) (bN bS true f9 Post)=iy t ops x y (fun j f=>Post (.tup [.new .op j,.i f])):=KA
theorem aWy (F:Nat) (Post:aC UU->Prop) (t:ByteArray) (ops:List Opn) (x y:Int):exec bS f9.ntmps od F 0 (cS (cS (cS (cS (cS (cS (cS (bo f9)))))))) (⟨fun u=>cond (Nat.beq u 0) (.i 2) (cond (Nat.beq u 1) (.str t) (cond (Nat.beq u 6) (.ptr 6 0) (cond (Nat.beq u 8) (.ptr 8 0) (cond (Nat.beq u 9) (.ptr 9 0) (.any))))),fun u=>cond (Nat.beq u 55) (some (.row .op 0 ops)) (cond (Nat.beq u 6) (some (.cells [.frz .W2,.fn 66 [],.fn 68 []])) (cond (Nat.beq u 8) (some (.cells [.osl 55 0])) (cond (Nat.beq u 9) (some (.cells [.i x,.i y])) (none))))⟩) (bN bS true f9 Post)=rj F t ops x y (fun j f=>Post (.tup [.new .op j,.i f])):=by
 rw[aXZ];rfl
end
end Go.Proofs.YtgcpildegdgekaaGreatDoor
namespace Go.Proofs
open Go.Proofs.Tryz
open Go.RowKit
def lZ (b:Nat) (v:Value) (W:World):Prop:=W.cell? ⟨b,0,none⟩=some v/\W.frozen? ⟨b,0,none⟩=false
theorem lZ.grown {b:Nat} {v:Value} {A B:World} {row:Option Nat} (h:lZ b v A) (j:A.grownBy B row) (f:∀r,row=some r->∃o:Obj,A.heap[r]?=some o/\o.isCells=false):lZ b v B:=
 ⟨cell_kept h.1 j f,(frozen_kept h.1 j f).trans h.2⟩
theorem lZ.same {b:Nat} {v:Value} {A B:World} (h:lZ b v A) (f:B.heap[b]?=A.heap[b]?):lZ b v B:=
 ⟨(World.cell?_of_block f).trans h.1,(show B.frozen? ⟨b,0,none⟩=A.frozen? ⟨b,0,none⟩ by unfold World.frozen?;simp only[f]).trans h.2⟩
def aJW {α:Type} (F:Fence) (n:Nat) (P:Program) (g:Nat) (lb:Array Value) (b:Nat) (encs:α->Array Value) (xs:List α) (st:List α->Value):Prop:=
 ∀(l:Nat) (J:List α->World->Prop) (W:World),(∀s A v,J s A->J s (A.setCell ⟨b,0,none⟩ v))->(∀s A,J s A->J s A.drew)->
  (∀pre x W1,pre++[x] <+:xs->J pre W1->lZ b (st (pre++[x])) W1->YieldAt F (n-1) P l (encs x) W1 fun e W'=>e=.returned (.bool true)/\J (pre++[x]) W'/\lZ b (st (pre++[x])) W')->
  J [] W->lZ b (st []) W->
  CallsIn F n P g (#[.func (.yield l) #[] #[]]++lb) W fun e W'=>(∃v,e=.returned v)/\J xs W'
variable {F:Fence} {n:Nat} {P:Program}
theorem aK9 {α:Type} {g:Operand} {ps:Array Tmp} {f body:Code} {Q:Exit->Act->World->Prop} {a:Act} {w:World} (hro:F.round=none) (h1:1<=n) {gf:Nat} {lb:Array Value}
  (hg:a.eval g=.func (.func gf) #[] lb) (hFg:F.fn gf) (eg:∀args w,(callFunc gf args).run P w=.ok (.enter gf args) w) {b:Nat} {encs:α->Array Value} {xs:List α} {st:List α->Value}
  (hseq:aJW F (n-1) P gf lb b encs xs st) (hb:b<w.heap.size) (hbox:lZ b (st []) w) (hps:∀x,(encs x).size=ps.size)
  (I:List α->World->Prop) (hIb:∀s A v,I s A->I s (A.setCell ⟨b,0,none⟩ v)) (hId:∀s A,I s A->I s A.drew) (O:∀s A r r',I s A->A.heap[w.heap.size+1]?=some (.loop r)->I s (A.putObj (w.heap.size+1) (.loop r'))) (h0:∀r,I [] ((w.alloc (.deferred (some []))).alloc (.loop r))) (a₁:α->Act)
  (u:∀(l:Nat) (x:α) (W:World) (K:Act->World->Prop),K (a₁ x) W->
   f.wpIn (F.inRound l) (n-1-1) P (Exit.then K (fun _ _ _=>False)) {tmps:=(ps.zip (encs x)).foldl (fun t (p,v)=>t.setIfInBounds p v) a.tmps,defers:=[]} W)
  (Z:∀(l:Nat) (pre:List α) (x:α) (W:World),pre++[x] <+:xs->I pre W->lZ b (st (pre++[x])) W->
   body.wpIn (F.inRound l) (n-1-1) P (fun e _ W'=>e=.normal/\(∀c,(c=b\/c=w.heap.size\/c=w.heap.size+1)->W'.heap[c]?=W.heap[c]?)/\I (pre++[x]) W') (a₁ x) W)
  (S:∀(W:World),I xs W->W.heap[w.heap.size]?=some (.deferred (some []))->Q .normal {a with defers:={target:=.collected w.heap.size,args:=#[]}::a.defers} W):
  (Code.rangeFunc g ps f body).wpIn F n P Q a w:=by
 refine wpIn_rangeFunc fun fn hfn=>?_
 rw[hro]
 -- the record of the loop, in each of its states; the row of what is put off
 let R:LoopState->Loop:=fun s=>{state:=s,pending:=none,fn,tmps:=a.tmps,params:=ps,assign:=f,body,defers:=w.heap.size}
 let V:=(w.alloc (.deferred (some []))).alloc (.loop (R .ready))
 have hV1:V.heap[w.heap.size+1]?=some (.loop (R .ready)):=by
  have:=World.alloc_heap_new (w.alloc (.deferred (some []))) (.loop (R .ready));rwa [World.size_alloc] at this
 have hV0:V.heap[w.heap.size]?=some (.deferred (some [])):=(Below.heap_alloc _ _ _ XQ).trans (World.alloc_heap_new w _);have gw1:=World.grownBy_alloc w (.deferred (some [])) none;have gw2:=World.grownBy_alloc (w.alloc (.deferred (some []))) (.loop (R .ready)) none;have hVb:lZ b (st []) V:=(hbox.grown gw1 (fun r e=>by cases e)).grown gw2 (fun r e=>by cases e);have hVI:I [] V:=h0 _;have J:∀(A:World) (v:Value) (k:Nat) (o:Obj),k≠b->A.heap[k]?=some o->(A.setCell ⟨b,0,none⟩ v).heap[k]?=some o:=fun A v k o hk ho=>(Below.heap_setCell A ⟨b,0,none⟩ v k hk).trans ho
 refine⟨w.heap.size+1,[{target:=.collected w.heap.size,args:=#[]}],V,{target:=.fn (.func gf) lb,args:=#[.func (.yield (w.heap.size+1)) #[] #[]]},V,gf,
  #[.func (.yield (w.heap.size+1)) #[] #[]]++lb,V,run_enterLoop_outer _ _ _ _ _,?_,?_,?_,fun _=>h1,?_⟩
 ·simp only[resolve,hg];simp[go_sem]
 ·intro f' hf';simp[Target.leads] at hf';subst hf';exact hFg
 ·simp[invoke,go_sem,eg]
 refine(hseq (w.heap.size+1) (fun pre W=>I pre W/\W.heap[w.heap.size+1]?=some (.loop (R .ready))/\W.heap[w.heap.size]?=some (.deferred (some []))) V
  (fun s A v L=>⟨hIb s A v L.1,J A v _ _ KI L.2.1,J A v _ _ KI L.2.2⟩) (fun s A L=>⟨hId s A L.1,L.2.1,L.2.2⟩) ?_ ⟨hVI,hV1,hV0⟩ hVb).mono ?_
 ·rintro pre x W hpre ⟨hi,G,hk⟩ hbx
  have hlt:w.heap.size+1<W.heap.size:=(QD.1 G).1;have hy:=run_yield (P:=P) (args:=encs x) G (hps x);refine⟨fn,_,f,body,hy,roundIn_of_wpIn hfn (u _ x W _ ⟨_,run_beginRound G rfl,?_⟩)⟩
  let W2:=W.putObj (w.heap.size+1) (.loop (R .busy))
  have hl2:W2.heap[w.heap.size+1]?=some (.loop (R .busy)):=World.putObj_heap_same hlt;have fJ:W2.heap[w.heap.size]?=some (.deferred (some [])):=(World.putObj_heap_other KI).trans hk;have j:∀{A:World} {o:Obj},A.heap[w.heap.size+1]?=some o->o.isCells=false->∀r,some (w.heap.size+1)=some r->∃o:Obj,A.heap[r]?=some o/\o.isCells=false:=fun ho hc r e=>by
   cases e;exact⟨_,ho,hc⟩
  refine wpIn_mono (Z _ pre x W2 hpre (O _ _ _ _ hi G) (hbx.grown (grownBy_putObj' _ _ _) (j G rfl))) ?_
  rintro e a3 W3 ⟨rfl,Gu,hi3⟩
  have Yb:=(Gu _ (.inr (.inr rfl))).trans hl2;have hd3:=(Gu _ (.inr (.inl rfl))).trans fJ;have gV:lZ b (st (pre++[x])) W3:=lZ.same (hbx.grown (grownBy_putObj' _ _ _) (j G rfl)) (Gu _ (.inl rfl));have hr:=run_endRound (P:=P) none Yb;exact⟨_,_,hr,rfl,⟨O _ _ _ _ hi3 Yb,World.putObj_heap_same (QD.1 Yb).1,(World.putObj_heap_other KI).trans hd3⟩,gV.grown (grownBy_putObj' _ _ _) (j Yb rfl)⟩
 ·rintro e W2 ⟨⟨v,rfl⟩,hi,G,hk⟩
  exact⟨none,_,run_endLoop (P:=P) G (by simp[R]),S _ (O _ _ _ _ hi G) ((World.putObj_heap_other KI).trans hk)⟩
end Go.Proofs
namespace Go.Proofs
open Go.Proofs.Tryz
open Go.RowKit Go.Shelf
attribute [local go_sem] Oper.semAt_some
set_option maxHeartbeats 1000000 in
theorem sn (s:ByteArray) (c:Int) (w:World):Calls prog 74 #[.string s,.int .u8 c] w fun e w'=>e=.returned (.int .i64 (Lib.indexByte s.data.toList c.toNat.toUInt8))/\w'=w:=by
 have f:∀s c w,Calls prog 115 #[.string s,.int .u8 c] w fun e w'=>e=.returned (.int .i64 (Lib.indexByte s.data.toList c.toNat.toUInt8))/\w'=w:=fun s c w=>Any.stringslite_IndexByte aUV s c w
 go_enter func74,ntmps74
 go_wp2_with (go_at_call 115;refine(f _ _ _).mono ?_;rintro e w' ⟨rfl,rfl⟩)
 go_ret
 exact⟨rfl,rfl⟩
def lnN:Nat->List UInt8->List (List UInt8)
 |0,_=>[]
 |_+1,[]=>[]
 |n+1,b::r=>if 0<=Lib.indexByte (b::r) 10 then (b::r).take (Lib.indexByte (b::r) 10+1).toNat::lnN n ((b::r).drop (Lib.indexByte (b::r) 10+1).toNat) else [b::r]
theorem Bo:∀(l:List UInt8) (c:UInt8), -1<=Lib.indexByte l c/\Lib.indexByte l c<l.length
 |[],c=>by simp[Lib.indexByte]
 |b::l,c=>by
  have:=Bo l c;unfold Lib.indexByte;simp only[QN];split
  ·omega
  ·split<;>omega
theorem aCt:∀(n m:Nat) (r:List UInt8),r.length<=n->r.length<=m->lnN n r=lnN m r
 |0,m,r,j,f=>by
  obtain rfl:=List.eq_nil_of_length_eq_zero (Nat.le_zero.1 j);cases m<;>rfl
 |n+1,0,r,j,f=>by
  obtain rfl:=List.eq_nil_of_length_eq_zero (Nat.le_zero.1 f);rfl
 |n+1,m+1,[],j,f=>rfl
 |n+1,m+1,b::r,j,f=>by
  unfold lnN;split
  ·rename_i hi;have u:=(Bo (b::r) 10).2;congr 1;exact aCt n m _ (by rw[KX];omega) (by rw[KX];omega)
  ·rfl
def fI (r:List UInt8):List (List UInt8):=lnN r.length r
theorem aDC:fI []=[]:=rfl
theorem aDA {r:List UInt8} (h:r≠[]) (hi:0<=Lib.indexByte r 10):fI r=r.take (Lib.indexByte r 10+1).toNat::fI (r.drop (Lib.indexByte r 10+1).toNat):=by
 cases r with
 |nil=>exact absurd rfl h
 |cons b r=>
  unfold fI;rw[QN,lnN,JQ hi];congr 1;have f:=(Bo (b::r) 10).2;exact aCt _ _ _ (by rw[KX,QN];omega) (QP _)
theorem aDB {r:List UInt8} (h:r≠[]) (hi:¬0<=Lib.indexByte r 10):fI r=[r]:=by
 cases r with
 |nil=>exact absurd rfl h
 |cons b r=>
  unfold fI;rw[QN,lnN,QF hi]
structure Rh (p:Prop):Prop where
 out:p
def lv (b:Nat) (W:World):Nat:=match W.cell? ⟨b,0,none⟩ with
 |some (.string s)=>s.size
 |_=>0
theorem lZ.size {b:Nat} {s:ByteArray} {W:World} (h:lZ b (.string s) W):lv b W=s.size:=by
 unfold lv;rw[h.1]
set_option maxHeartbeats 2000000 in
theorem aTt (n:Nat) (hn:1<=n) (b:Nat) (t:List UInt8) (ht:t.length<=1000000000):
  aJW Fence.wide n prog 73 #[.pointer (some ⟨b,0,none⟩)] b (fun s:List UInt8=>#[.string ⟨s.toArray⟩]) (fI t) (fun pre=>.string ⟨(t.drop pre.flatten.length).toArray⟩):=by
 intro l J W hJb hJd hY h0 hbox;refine callsIn_of_wp func73 rfl trivial ?_ rfl;simp only[ntmps73,List.size_toArray,QN,KW,List.append_toArray,List.cons_append,List.nil_append,Nat.reduceAdd,Nat.reduceSub,Array.replicate_succ,Array.replicate_zero,List.push_toArray]
 gi_wp2
 gi_loopw [3] (fun _ wr=>∃(pre:List (List UInt8)) (r:List UInt8),fI t=pre++fI r/\r=t.drop pre.flatten.length/\J pre wr/\lZ b (.string ⟨r.toArray⟩) wr)
  (fun _ wr=>lv b wr)
 case atStart=>
  exact⟨[],t,rfl,rfl,h0,hbox⟩
 case round=>
  obtain⟨pre,r,hx,hr,S,I⟩:=hrel;have hc:=I.1;have hz:=I.2;have hrl:r.length<=1000000000:=by
   rw[hr,KX];omega
  have Z:Rh (r=t.drop pre.flatten.length):=⟨hr⟩;clear hr;have u:Rh (fI t=pre++fI r):=⟨hx⟩;clear hx;have bBu:Fence.wide.fn 74:=trivial;have hmix:prog.follows .mixedOrders=true:=KA
  by_cases j:r=[]
  ·subst j
   gi_wp2
   go_end0
   refine⟨⟨_,rfl⟩,?_⟩;rw[u.out,aDC,JP];exact S
  ·have hpos:0<r.length:=List.length_pos_iff.2 j;have hgt:¬r.length<=0:=KI;have hl:=Bo r 10
   by_cases hi:0<=Lib.indexByte r 10
   ·obtain⟨k,hk⟩:∃k:Nat,Lib.indexByte r 10=k:=⟨(Lib.indexByte r 10).toNat,KI⟩;have hkl:k+1<=r.length:=KI;have G:Rh (fI r=r.take (k+1)::fI (r.drop (k+1))):=⟨by
     have:=aDA j hi;rw[hk] at this;exact this⟩
    have hw:IntKind.i64.wrap ((k:Int)+1)=(k:Int)+1:=Go.Proofs.YtgcpildegdgekaaGreatDoor.cN (n:=(k:Int)+1) KI KI;have hn1:0<=(k:Int)+1:=KI;have hn2:(k:Int)+1<=(r.length:Int):=KI;have hn3:((k:Int)+1).toNat=k+1:=KI;have sN:(ByteArray.mk r.toArray).extract 0 (k+1)=⟨(r.take (k+1)).toArray⟩:=by
     apply ByteArray.ext;simp[ByteArray.data_extract]
    have hx2:(ByteArray.mk r.toArray).extract (k+1) r.length=⟨(r.drop (k+1)).toArray⟩:=by
     apply ByteArray.ext;simp[ByteArray.data_extract];exact List.take_of_length_le XQ
    have f:Rh (t.drop (pre++[r.take (k+1)]).flatten.length=r.drop (k+1)):=⟨by
     have:=Z.out;rw[List.flatten_append,QM,<- List.drop_drop,<- this];simp only[List.flatten_cons,List.flatten_nil,JP,KU];rw[Nat.min_eq_left hkl]⟩
    clear hi hl
    gi_wp2_with (gi_at_call 74;refine(callsIn_wide.2 (sn _ _ _)).mono ?_;rintro e w' ⟨rfl,rfl⟩)
    gi_region_with_o (fail)
    all_goals
     have cJ:lZ b (.string ⟨(t.drop (pre++[r.take (k+1)]).flatten.length).toArray⟩) (w'.setCell ⟨b,0,none⟩ (.string ⟨(r.drop (k+1)).toArray⟩)).drew:=by
      rw[f.out];exact⟨World.cell?_setCell_same' _ _ _ (by rw[hc];rfl),(World.frozen?_setCell _ _ _ _).trans hz⟩
     obtain⟨fn,tmps,L,body,hy,hR⟩:=hY pre (r.take (k+1)) (w'.setCell ⟨b,0,none⟩ (.string ⟨(r.drop (k+1)).toArray⟩)).drew (by
      rw[u.out,G.out];exact⟨fI (r.drop (k+1)),XQ⟩) (hJd _ _ (hJb _ _ _ S)) cJ
     gi_wp2
     refine hR.mono ?_
     rintro e W3 ⟨rfl,V,O⟩
     rw[f.out] at O
     gi_wp2
     go_roundw
     case rel=>exact⟨pre++[r.take (k+1)],r.drop (k+1),by rw[u.out,G.out];simp,f.out.symm,V,O⟩
     case measure=>
      rw[O.size,I.size];simp only[ByteArray.size,List.size_toArray,KX];omega
   ·have hi':Lib.indexByte r 10<0:=KI;have G:Rh (fI r=[r]):=⟨aDB j hi⟩
    gi_wp2_with (gi_at_call 74;refine(callsIn_wide.2 (sn _ _ _)).mono ?_;rintro e w' ⟨rfl,rfl⟩)
    have f:t.drop (pre++[r]).flatten.length=[]:=by
     have:=Z.out;rw[List.flatten_append,QM,<- List.drop_drop,<- this];simp
    have cJ:lZ b (.string ⟨(t.drop (pre++[r]).flatten.length).toArray⟩) (w'.setCell ⟨b,0,none⟩ (.string ⟨#[]⟩)):=by
     rw[f];exact⟨World.cell?_setCell_same' _ _ _ (by rw[hc];rfl),(World.frozen?_setCell _ _ _ _).trans hz⟩
    obtain⟨fn,tmps,L,body,hy,hR⟩:=hY pre r (w'.setCell ⟨b,0,none⟩ (.string ⟨#[]⟩)) (by rw[u.out,G.out];exact List.prefix_refl _) (hJb _ _ _ S) cJ;rw[hy]
    gi_wp2
    refine hR.mono ?_
    rintro e W3 ⟨rfl,V,O⟩
    rw[f] at O
    gi_wp2
    go_roundw
    case rel=>exact⟨pre++[r],[],by rw[u.out,G.out,aDC,JP],f.symm,V,O⟩
    case measure=>
     rw[O.size,I.size];simpa[ByteArray.size] using hpos
end Go.Proofs
namespace Go.Proofs.YtgcpildegdgekaaGreatDoor
open Go.Proofs.Tryz
open Go.Vm Go.RowKit
theorem indexByte_none:∀{l:List UInt8} {c:UInt8},Lib.indexByte l c<0->c ∉ l
 |[],c,_=>XQ
 |b::l,c,h=>by
  have hb:=Bo l c;unfold Lib.indexByte at h
  by_cases e:(b==c)=true
  ·rw[JQ e] at h;omega
  ·rw[QF e] at h;have f:b≠c:=fun q=>e (by simp[q])
   by_cases z:(Lib.indexByte l c== -1)=true
   ·have j:Lib.indexByte l c= -1:=by simpa using z
    rw[List.mem_cons,not_or];exact⟨fun q=>f q.symm,indexByte_none KI⟩
   ·rw[QF z] at h;omega
theorem indexByte_some:∀{l:List UInt8} {c:UInt8} {k:Nat},Lib.indexByte l c=k->c ∉ l.take k/\l=l.take k++c::l.drop (k+1)/\l.take (k+1)=l.take k++[c]
 |[],c,k,h=>by
  unfold Lib.indexByte at h;omega
 |b::l,c,k,h=>by
  have hb:=Bo l c;unfold Lib.indexByte at h
  by_cases e:(b==c)=true
  ·rw[JQ e] at h;have:k=0:=KI;subst this;have:b=c:=by simpa using e
   subst this;simp
  ·rw[QF e] at h;have f:b≠c:=fun q=>e (by simp[q])
   by_cases z:(Lib.indexByte l c== -1)=true
   ·rw[JQ z] at h;omega
   ·rw[QF z] at h;have L:Lib.indexByte l c≠ -1:=fun q=>z (by simp[q])
    obtain⟨j,u⟩:∃j:Nat,Lib.indexByte l c=j:=⟨(Lib.indexByte l c).toNat,KI⟩;obtain⟨J,I,G⟩:=indexByte_some u;have:k=j+1:=KI;subst this;refine⟨?_,?_,?_⟩
    ·rw[List.take_succ_cons,List.mem_cons,not_or];exact⟨fun q=>f q.symm,J⟩
    ·rw[List.take_succ_cons,List.drop_succ_cons,List.cons_append,<- I]
    ·rw[List.take_succ_cons,List.take_succ_cons,G,List.cons_append]
def qT (l:List UInt8):List UInt8:=if l.getLast?=some 10 then l.dropLast else l
theorem aL7 {p:List UInt8} {l:List (List UInt8)} (t r:List UInt8) (j:pcs 10 r=l) (u:pcs 10 t=p::l):rV t=p::rV r:=by
 have f:=Vo 10 r;rw[j] at f;unfold rV;rw[u,j];cases l with
 |nil=>exact absurd rfl f
 |cons q l=>
  rw[List.getLast?_cons_cons];split
  ·rfl
  ·rfl
theorem aTp:∀(n:Nat) (r:List UInt8),r.length<=n->(fI r).map qT=rV r:=by
 intro n
 induction n with
 |zero=>
  intro r h;obtain rfl:=List.eq_nil_of_length_eq_zero (Nat.le_zero.1 h);rfl
 |succ n G=>
  intro r h
  by_cases f:r=[]
  ·subst f;rfl
  by_cases hi:0<=Lib.indexByte r 10
  ·obtain⟨k,u⟩:∃k:Nat,Lib.indexByte r 10=k:=⟨(Lib.indexByte r 10).toNat,KI⟩;obtain⟨L,J,I⟩:=indexByte_some u;rw[aDA f hi,u];rw[show ((k:Int)+1).toNat=k+1 by omega,List.map_cons,G _ (by rw[KX];have:=List.length_pos_iff.2 f;omega),I];have e1:qT (r.take k++[10])=r.take k:=by
    unfold qT;rw[JQ XQ];simp
   rw[e1];refine(aL7 r (r.drop (k+1)) rfl ?_).symm;have:=Me (c:=10) (l:=r.drop (k+1)) L;rwa [<- J] at this
  ·have j:=indexByte_none (show Lib.indexByte r 10<0 by omega);rw[aDB f hi];unfold rV;rw[Vn j];rw[QF (by simpa using f)];show [qT r]=[r];unfold qT;rw[QF];intro q;exact j (List.mem_of_getLast? q)
end Go.Proofs.YtgcpildegdgekaaGreatDoor
namespace Go.Proofs.YtgcpildegdgekaaGreatDoor
open Go.Proofs.Tryz
open Go.RowKit Go.Vm
noncomputable section
def Un (d:Int) (t:List UInt8):List Opn:=
 if d=1 then vN lH [1,2,4,3] (jJ kW) (fun k l _ _=>rdU k l 0 0) gJ (rV t) 0 0
 else vN lH [1,2,4,3] (jJ kV) rdU gJ (rV t) 0 0
theorem pb (o:Opn) (x y:Int):uW o x y=wrA o x y:=by
 grind [uW,tN,wrA]
theorem aK8 (o:Opn) (x y:Int):o4 o x y=wrA o 0 0:=pb o 0 0
def mkB (l:List UInt8):ByteArray:=⟨l.toArray⟩
theorem Y6 (l:List UInt8):(mkB l).size=l.length:=rfl
theorem sj (l:List UInt8) (h:l.length<=1000000000):Ar (mkB l) (ByteArray.mk #[10])/\xS (mkB l) (ByteArray.mk #[10])=mkB (qT l):=by
 have e1:((ByteArray.mk #[10]).size:Int)=1:=rfl;unfold Ar xS Fw Ac Fx vB;rw[e1,Y6];cases j:l.getLast? with
 |none=>
  have J:l=[]:=List.getLast?_eq_none_iff.1 j;subst J;refine⟨⟨fun q=>by simp at q,trivial⟩,rfl⟩
 |some c=>
  obtain⟨r,f⟩:∃r,l=r++[c]:=List.getLast?_eq_some_iff.1 j;have G:l.length=r.length+1:=by rw[f];simp
  have hw:aB ((l.length:Int)-1)=(r.length:Int):=by
   rw[cN KI KI];omega
  rw[hw];have I:(mkB l).extract r.length l.length=ByteArray.mk #[c]:=by
   apply ByteArray.ext;apply Array.toList_inj.1;rw[f];simp[ByteArray.data_extract,mkB]
  have L:(mkB l).extract 0 r.length=mkB r:=by
   apply ByteArray.ext;apply Array.toList_inj.1;rw[f];simp[ByteArray.data_extract,mkB]
  rw[QZ,I,L,JA (show (1:Int)<=(l.length:Int) by omega),Bool.true_and];refine⟨⟨fun _=>⟨KI,KI⟩,?_⟩,?_⟩
  ·cases (ByteArray.mk #[c]==ByteArray.mk #[10]) with
   |true=>exact⟨KI,KI⟩
   |false=>trivial
  ·unfold qT;rw[j]
   by_cases u:c=10
   ·subst u;have hb:(ByteArray.mk #[10]==ByteArray.mk #[10])=true:=by decide
    rw[hb,JQ rfl,f];simp
   ·have hb:(ByteArray.mk #[c]==ByteArray.mk #[10])=false:=by
     rw[JM];intro q;have:=congrArg (fun b:ByteArray=>b.data.toList) (mg q);simp at this;exact u this
    rw[hb,QF (fun q=>u (QU q))];rfl
def tM (d:Int) (c:List Opn×Int×Int) (s:List UInt8):List Opn×Int×Int:=
 (c.1++[Ag d (mkB (qT s)) c.2.1 c.2.2],gJ (Ag d (mkB (qT s)) c.2.1 c.2.2) c.2.1 c.2.2)
def fQ (d:Int) (l:List (List UInt8)):List Opn×Int×Int:=l.foldl (tM d) ([],0,0)
theorem aOg (d:Int) (l:List (List UInt8)) (s:List UInt8):fQ d (l++[s])=tM d (fQ d l) s:=by
 unfold fQ;rw[List.foldl_append];rfl
theorem jm (d:Int) (f:List UInt8->Int->Int->Opn) (hf:∀s x y,Ag d (mkB s) x y=f s x y):∀(l:List (List UInt8)) (c:List Opn×Int×Int),
  (l.foldl (tM d) c).1=c.1++(l.map qT).rec (motive:=fun _=>Int->Int->List Opn) (fun _ _=>[]) (fun p _ j x y=>f p x y::j (gJ (f p x y) x y).1 (gJ (f p x y) x y).2) c.2.1 c.2.2
 |[],c=>XQ
 |s::l,c=>by
  rw[JY,jm d f hf l];unfold tM;rw[hf];simp
theorem Q0 {num:List UInt8->Option Int} {j:zzI} {f:Int->List UInt8} {rd:Int->zzI->Int->Int->Opn}:∀(l:List (List UInt8)) (x y:Int),
  l.rec (motive:=fun _=>Int->Int->List Opn) (fun _ _=>[]) (fun p _ u x y=>oK num j f rd p x y::u (gJ (oK num j f rd p x y) x y).1 (gJ (oK num j f rd p x y) x y).2) x y=vN num j f rd gJ l x y
 |[],_,_=>rfl
 |p::l,x,y=>by
  unfold vN;exact congrArg _ (Q0 l _ _)
theorem uz {d:Int} (f:d=1\/d=2) (t:List UInt8):(fQ d (fI t)).1=Un d t:=by
 have hm:=aTp t.length t (QP _);unfold Un fQ;rcases f with rfl|rfl
 ·rw[JQ rfl,jm 1 (oK lH [1,2,4,3] (jJ kW) fun k l _ _=>rdU k l 0 0) (fun s x y=>rfl),hm];exact Q0 _ 0 0
 ·rw[QF (by decide),jm 2 (oK lH [1,2,4,3] (jJ kV) rdU) (fun s x y=>rfl),hm];exact Q0 _ 0 0
theorem aCu:∀(n:Nat) (r:List UInt8),r.length<=n->(lnN n r).flatten=r/\∀p∈lnN n r,1<=p.length
 |0,r,h=>by
  obtain rfl:=List.eq_nil_of_length_eq_zero (Nat.le_zero.1 h);exact⟨rfl,fun p hp=>by cases hp⟩
 |n+1,[],h=>⟨rfl,fun p hp=>by cases hp⟩
 |n+1,b::r,h=>by
  unfold lnN;have f:=(Bo (b::r) 10).2;split
  ·rename_i hi;obtain⟨u,j⟩:=aCu n ((b::r).drop (Lib.indexByte (b::r) 10+1).toNat) (by rw[KX];omega);refine⟨?_,fun p hp=>?_⟩
   ·rw[List.flatten_cons,u,List.take_append_drop]
   ·rcases List.mem_cons.1 hp with rfl|hp
    ·rw[KU];rw[QN] at f ⊢;omega
    ·exact j p hp
  ·refine⟨XQ,fun p hp=>?_⟩;obtain rfl:=JJ.1 hp;simp
theorem aCz (t:List UInt8):(fI t).flatten=t/\∀p∈fI t,1<=p.length:=aCu t.length t (QP _)
theorem aTr (t:List UInt8):(fI t).length<=t.length:=by
 obtain⟨I,f⟩:=aCz t;have j:(fI t).length<=(fI t).flatten.length:=by
  revert f
  generalize fI t=L;intro f
  induction L with
  |nil=>simp
  |cons p L u=>
   rw[List.flatten_cons,QM,QN];have:=f p (QI ..);have:=u fun q G=>f q (QA _ G)
   omega
 rw[I] at j;exact j
theorem aTu {t p:List UInt8} (h:p∈fI t):p.length<=t.length:=by
 obtain⟨f,_⟩:=aCz t;have:p.length<=(fI t).flatten.length:=(List.sublist_flatten_of_mem h).length_le;rwa [f] at this
theorem sb (l:List UInt8):(qT l).length<=l.length:=by
 unfold qT;split
 ·rw[List.length_dropLast];omega
 ·exact QP _
theorem aOh (d:Int) (l:List (List UInt8)):(fQ d l).1.length=l.length:=by
 unfold fQ;have f:∀(l:List (List UInt8)) (c:List Opn×Int×Int),(l.foldl (tM d) c).1.length=c.1.length+l.length:=by
  intro l
  induction l with
  |nil=>intro c;rfl
  |cons s l j=>
   intro c;rw[JY,j,QN];simp[tM];omega
 rw[f];simp
def obP (fz:Frz) (f1 f2:Nat) (x y:Int) (ops:List Opn):Nat->Option (aT UU):=fun u=>cond (Nat.beq u 55) (some (.row .op 0 ops)) (cond (Nat.beq u 6) (some (.cells [.frz fz,.fn f1 [],.fn f2 []])) (cond (Nat.beq u 8) (some (.cells [.osl 55 0])) (cond (Nat.beq u 9) (some (.cells [.int .i64 x,.int .i64 y])) (none))))
def tmP (d:Int) (t:ByteArray) (ex:Nat->aC UU):Nat->aC UU:=fun u=>cond (Nat.beq u 0) (.int .i64 d) (cond (Nat.beq u 1) (.str t) (cond (Nat.beq u 6) (.ptr 6 0) (cond (Nat.beq u 8) (.ptr 8 0) (cond (Nat.beq u 9) (.ptr 9 0) (ex u)))))
def exS (s:ByteArray):Nat->aC UU:=fun u=>cond (Nat.beq u 10) (.str s) (.any)
def mcO:Canon UU:=⟨[0,1,6,8,9],[6,8,9],[(.cell 8 0,55,.op)],[],[]⟩
def p0:Code:=bo f9
def pz:Code:=cS (cS (cS (cS (cS (cS p0)))))
def Vl:Code:=cS pz
def q8:Code:=cF (cF pz)
def prf:Code:=cB (cS (cF pz))
def pbd:Code:=cB (cG prf)
def q9:Code:=match prf with
 | .rangeFunc _ _ a _=>a
 |c=>c
theorem aQ3:p0=.seq (cF p0) (.seq (cF (cS p0)) (.seq (cF (cS (cS p0))) (.seq (cF (cS (cS (cS p0)))) (.seq (cF (cS (cS (cS (cS p0))))) (.seq (cF (cS (cS (cS (cS (cS p0)))))) pz))))):=KA
theorem aPz:pz=.seq (.seq q8 (.block 0 prf)) Vl:=KA
theorem aQG:prf=.rangeFunc (.tmp 27) #[28] q9 (.block 1 pbd):=KA
theorem aPj:q8=.region 8 (cR q8) false:=KA
theorem aPh:q9=.region 9 (cR q9) false:=KA
theorem aPi:(cR q8).toList=[opn q8 0,opn q8 1]:=KA
theorem aPg:(cR q9).toList=[opn q9 0]:=KA
theorem xd:pbd=.seq (.region 10 (cR (cF pbd)) true) (.seq (.region 11 (cR (cF (cS pbd))) false) (.region 12 (cR (cS (cS pbd))) false)):=KA
theorem aTM:pG (cR (cF pbd)).toList=true:=KA
theorem aTL:pG (cR (cF (cS pbd))).toList=true:=KA
theorem aTK:pG (cR (cS (cS pbd))).toList=true:=KA
theorem nd9:pG (cR q9).toList=true:=KA
theorem aTs (s:ByteArray) (w:World):Calls prog 33 #[.string s] w fun e w'=>e=.returned (.func (.func 73) #[] #[.pointer (some ⟨w.heap.size,0,none⟩)])/\w'=w.alloc (.cells #[.string s] 9):=by
 go_enter func33,ntmps33
 go_wp2
 go_ret
 exact⟨rfl,rfl⟩
structure Dpk (d:Int) (fz:Frz) (f1 f2:Nat) (fo:List Opn->ByteArray×Int):Prop where
 body:∀(t:ByteArray) (ops:List Opn) (x y:Int) (l:List UInt8) (Kc:ASt UU->Prop) (Post:aC UU->Prop),l.length<=200000->ops.length<=200000->Kc ⟨tmP d t (fun _=>.any),obP fz f1 f2 (tM d (ops,x,y) l).2.1 (tM d (ops,x,y) l).2.2 (tM d (ops,x,y) l).1⟩->
  ∃M F,exec bS 55 M F 1 pbd ⟨tmP d t (exS (mkB l)),obP fz f1 f2 x y ops⟩ (fU mcO Kc (bN bS true f9 Post))
section
variable {C:Cfg UU} {n:Nat} {N:Nat->Prop} {w0:Fr} {w w':World} {ρ:Vm.Own} {s:ASt UU} {a:Act} {M:Nat->Nat->Nat->Canon UU} {F cur:Nat} {Q:Exit->Act->World->Prop} {K:AEx->ASt UU->Prop} {X:tD UU} {m r id:Nat} {ops:Array Oper}
theorem aHI {x y:Code}:cX X C n M F cur (.seq x y) s K=cX X C n M F cur x s (cA X C n M F cur y K):=rfl
theorem aEb {y:Code}:cA X C n M F cur y K .normal s=cX X C n M F cur y s K:=rfl
theorem aRs {K:Act->World->Prop} {R:Exit->Act->World->Prop} {b:Nat} (h:∀a w,¬R .outgrown a w):¬LetsOut (Exit.then K (Exit.inBlock b R)):=fun ⟨a,w,q⟩=>h a w q
theorem aYV (j:fY C w0) (f:C.P.follows .mixedOrders=true) (u:pG ops.toList=true) (G:¬LetsOut Q) (h:cX X C n M F cur (.region id ops true) s K) (hR:RR C.E n N w0 ρ s a w)
  (I:∀s' ρ' a' w',K .normal s'->RR C.E n N w0 ρ' s' a' w'->Q .normal a' w'):(Code.region id ops true).wpIn (Fence.wide.inRound r) m C.P Q a w:=
 aYU (K:=fun s'=>K .normal s') j f u G hR h I
theorem aHk (G:fY C w0) (j:C.dep=0) (J:pG ops.toList=true) (h:cX X C n M F cur (.region id ops false) s K) (hR:RR C.E n N w0 ρ s a w)
  (O:∀s' ρ' a' w',K .normal s'->RR C.E n N w0 ρ' s' a' w'->Q .normal a' w'):(Code.region id ops false).wpIn (Fence.wide.inRound r) m C.P Q a w:=by
 simp only[cX,j] at h;split at h
 ·rename_i S s' f;obtain⟨L,I⟩:=Hr h;exact aYo G J hR f L (fun ρ' a' w' u=>O s' ρ' a' w' I u)
 ·exact h.elim
end
def Kp (bx D b:Nat):Prop:=b=bx\/b=D\/b=D+1
def qC (b6 b8 b9:Nat):Nat->Option (Nat×Value):=fun id=>cond (Nat.beq id 6) (some (0,.pointer (some ⟨b6,0,none⟩))) (cond (Nat.beq id 8) (some (0,.pointer (some ⟨b8,0,none⟩))) (cond (Nat.beq id 9) (some (0,.pointer (some ⟨b9,0,none⟩))) none))
theorem Md {b6 b8 b9:Nat}:∀id p,qC b6 b8 b9 id=some p->∃a,p.2=.pointer a:=by
 intro id p h;unfold qC at h;cases h6:Nat.beq id 6
 ·cases h8:Nat.beq id 8
  ·cases f:Nat.beq id 9
   ·rw[h6,h8,f] at h;cases h
   ·rw[h6,h8,f] at h;cases h;exact⟨_,rfl⟩
  ·rw[h6,h8] at h;cases h;exact⟨_,rfl⟩
 ·rw[h6] at h;cases h;exact⟨_,rfl⟩
theorem aQO {b6 b8 b9:Nat}:∀id p,qC b6 b8 b9 id=some p->id∈mcO.cells:=by
 intro id p h;unfold qC at h;show id∈[6,8,9];cases h6:Nat.beq id 6
 ·cases h8:Nat.beq id 8
  ·cases f:Nat.beq id 9
   ·rw[h6,h8,f] at h;cases h
   ·simp[QQ f]
  ·simp[QQ h8]
 ·simp[QQ h6]
def Dh (d:Int) (fz:Frz) (f1 f2:Nat) (N:Nat->Prop) (w0:World) (bx D b6 b8 b9:Nat) (a0:Act) (t:ByteArray) (pre:List (List UInt8)) (W:World):Prop:=
 ∃(ρ:Vm.Own) (f:∀b,Kp bx D b->b<W.heap.size) (j:w0.heap.size<=W.heap.size),RR EE 55 (fun b=>N b\/Kp bx D b) (FrA w0 W (Kp bx D) f j (qC b6 b8 b9) Md []) ρ ⟨tmP d t (fun _=>.any),obP fz f1 f2 (fQ d pre).2.1 (fQ d pre).2.2 (fQ d pre).1⟩ a0 W
variable {d:Int} {fz:Frz} {f1 f2:Nat} {fo:List Opn->ByteArray×Int} {N:Nat->Prop} {w0:World} {bx D b6 b8 b9:Nat} {a0:Act} {t:ByteArray} {pre:List (List UInt8)}
theorem Dh.keep {W W':World} (h:Dh d fz f1 f2 N w0 bx D b6 b8 b9 a0 t pre W) (hN:∀b,N b->b<w0.heap.size) (L:∀b,Kp bx D b->w0.heap.size<=b) (G:∀b:Nat,b<W.heap.size->¬Kp bx D b->W'.heap[b]?=W.heap[b]?) (j:W.heap.size<=W'.heap.size) (ho:W'.os=W.os) (Z:W'.tape=W.tape) (V:W'.output=W.output):
  Dh d fz f1 f2 N w0 bx D b6 b8 b9 a0 t pre W':=by
 obtain⟨ρ,J,f,hR⟩:=h;have hb:Below w0.heap.size w0 W:=hR.below;have O:Below w0.heap.size w0 W':=⟨ho.trans hb.os,Z.trans hb.tape,V.trans hb.output,JT hb.size j,fun k S=>(G k (JX S f) (fun I=>by have:=L k I;omega)).trans (hb.block k S)⟩;refine⟨ρ,fun b hb=>JX (J b hb) j,JT f j,?_⟩;exact hR.anchor rfl hR.pin rfl hR.defers rfl rfl (fun b hb=>hb.elim (fun h=>.inl (hN b h)) .inr) (fun b G=>G.2.1) hR.free (fun nm g u b hr hb=>hR.qE hr hb) (fun b hb hn=>G b hb (fun I=>hn (.inr I))) O j
end
end Go.Proofs.YtgcpildegdgekaaGreatDoor
namespace Go.Proofs.YtgcpildegdgekaaGreatDoor
open Go.Proofs.Tryz
open Go.RowKit Go.Vm
noncomputable section
variable {d:Int} {fz:Frz} {f1 f2:Nat} {fo:List Opn->ByteArray×Int} {N N':Nat->Prop} {w0:World} {bx D b6 b8 b9:Nat} {a0:Act} {t:ByteArray} {pre:List (List UInt8)}
theorem aHF {n:Nat} {fn:Func} {fr:Bool} {F:Fr} {e:AEx} {s':ASt UU} {ρ':Vm.Own} {a':Act} {w':World} {Post:aC UU->Prop} (h:bN bS fr fn Post e s') (hR:RR EE n N' F ρ' s' a' w') (I:F.w0=w0) (J:∀b,N b->N' b) (j:∀b,N b->b<w0.heap.size):
  ∃v r,(results fn a'.tmps).run prog w'=.ok v w'/\Post r/\jT EE w0.heap.size N w' r v:=by
 have G:RR EE n N F ρ' s' a' w':=hR.jr J;have f:∃r,result bS fr fn s'=some r/\Post r:=by
  cases f:result bS fr fn s' with
  |none=>exfalso;cases e<;>simp[bN,f] at h
  |some r=>cases e<;>simp only[bN,f] at h<;>exact⟨r,rfl,h⟩
 obtain⟨r,f,L⟩:=f;obtain⟨v,O,u⟩:=Uk (C:=bS) (w0:=F) (N:=N) G (fun b hb=>by
  unfold Fr.heap;rw[I];exact j b hb) f
 unfold Fr.heap at u;rw[I] at u;exact⟨v,r,O,L,u⟩
theorem aHS {fn:Func} {fr:Bool} {e:AEx} {s':ASt UU} {Post:aC UU->Prop} (h:bN bS fr fn Post e s'):e=.normal\/e=.ret:=by
 cases e with
 |normal=>exact .inl rfl
 |exit id=>exact h.elim
 |ret=>exact .inr rfl
theorem Q8 {n:Nat} {F:Fr} {ρ:Vm.Own} {s:ASt UU} {a:Act} {W:World} (hR:RR EE n N F ρ s a W) {i b:Nat} (f:s.tmps i=.ptr i 0) (hp:ρ (.ob i)=some (0,.pointer (some ⟨b,0,none⟩))):a.kE F i=.pointer (some ⟨b,0,none⟩):=by
 have h:=hR.tmps i;rw[f] at h;generalize a.kE F i=v at h;cases h with
 |ptr _ _ j h=>
  rw[hp] at h;cases h;rfl
theorem bA5 (Dp:Dpk d fz f1 f2 fo) (hi:inv2 w0) (hN:∀b,N b->b<w0.heap.size) (hge:∀b,Kp bx D b->w0.heap.size<=b) {W:World} {l:List UInt8} (hI:Dh d fz f1 f2 N w0 bx D b6 b8 b9 a0 t pre W) (hl:l.length<=200000) (hp:pre.length<=200000) {r m:Nat}:
  (Code.block 1 pbd).wpIn (Fence.wide.inRound r) m prog (fun e _ W'=>e=.normal/\(∀c,(c=bx\/c=D\/c=D+1)->W'.heap[c]?=W.heap[c]?)/\Dh d fz f1 f2 N w0 bx D b6 b8 b9 a0 t (pre++[l]) W') ((a0.put (some 28) (.string (mkB l))).put (some 10) (.string (mkB l))) W:=by
 obtain⟨ρ,I,J,hR⟩:=hI;have O:fY bS w0:=Uf.at (show bS.inv w0 from hi);have hR1:=(hR.sC (d:=28) (by decide) rfl (.string (mkB l))).Ln (d:=10) (by decide) (s':=⟨tmP d t (exS (mkB l)),obP fz f1 f2 (fQ d pre).2.1 (fQ d pre).2.2 (fQ d pre).1⟩) (Rel.str (mkB l)) rfl rfl (fun u hu=>by
  simp only[tmP,exS,fX hu,QK])
 have V:fQ d (pre++[l])=tM d ((fQ d pre).1,(fQ d pre).2.1,(fQ d pre).2.2) l:=aOg d pre l;obtain⟨M,F,S⟩:=Dp.body t (fQ d pre).1 (fQ d pre).2.1 (fQ d pre).2.2 l (fun Z=>Z=⟨tmP d t (fun _=>.any),obP fz f1 f2 (fQ d (pre++[l])).2.1 (fQ d (pre++[l])).2.2 (fQ d (pre++[l])).1⟩) (fun _=>True) hl (JT (Nat.le_of_eq (aOh d pre)) hp) (congrArg (fun c:List Opn×Int×Int=>(⟨tmP d t (fun _=>.any),obP fz f1 f2 c.2.1 c.2.2 c.1⟩:ASt UU)) V.symm);refine wpIn_block ?_;unfold exec at S;rw[xd,aHI] at S;rw[xd];refine wpIn_seq (aYV (C:=bS) (w0:=FrA w0 W (Kp bx D) I J (qC b6 b8 b9) Md []) O mixed aTM (aRs fun _ _ q=>by cases q.1) S hR1 (fun s1 ρ1 a1 w1 h1 hR2=>?_));rw[aEb,aHI] at h1;refine wpIn_seq (aHk (C:=bS) (w0:=FrA w0 W (Kp bx D) I J (qC b6 b8 b9) Md []) O rfl aTL h1 hR2 (fun s2 ρ2 a2 w2 h2 hR3=>?_));rw[aEb] at h2;refine aHk (C:=bS) (w0:=FrA w0 W (Kp bx D) I J (qC b6 b8 b9) Md []) O rfl aTK h2 hR3 (fun s3 ρ3 a3 w3 h3 hR4=>?_);simp only[fU] at h3;split at h3
 ·rename_i Z hcan;subst h3;obtain⟨ρ4,L⟩:=uI hR4 hcan aQO;refine⟨rfl,fun c hc=>L.kept.2 c hc,?_⟩;have G:∀i p,qC b6 b8 b9 i=some p->ρ4 (.ob i)=some p:=fun i p h=>(L.pin i p h).2
  have f:∀i p,qC b6 b8 b9 i=some p->ρ (.ob i)=some p:=fun i p h=>(hR.pin i p h).2
  have j:RR EE 55 (fun b=>N b\/Kp bx D b) (FrA w0 W (Kp bx D) I J (qC b6 b8 b9) Md []) ρ4 ⟨tmP d t (fun _=>.any),obP fz f1 f2 (fQ d (pre++[l])).2.1 (fQ d (pre++[l])).2.2 (fQ d (pre++[l])).1⟩ a0 w3:=by
   refine L.forget rfl (by rw[L.defers];exact hR.defers) (by rw[L.size];exact hR.size) (fun u=>?_);have hu:=hR.tmps u
   by_cases e0:u=0
   ·subst e0;exact Rel.pure rfl hu
   by_cases e1:u=1
   ·subst e1;exact Rel.pure rfl hu
   by_cases e6:u=6
   ·subst e6;rw[Q8 hR (i:=6) (b:=b6) rfl (f 6 _ rfl)];exact Rel.ptr 6 0 b6 (G 6 _ rfl)
   by_cases e8:u=8
   ·subst e8;rw[Q8 hR (i:=8) (b:=b8) rfl (f 8 _ rfl)];exact Rel.ptr 8 0 b8 (G 8 _ rfl)
   by_cases e9:u=9
   ·subst e9;rw[Q8 hR (i:=9) (b:=b9) rfl (f 9 _ rfl)];exact Rel.ptr 9 0 b9 (G 9 _ rfl)
   ·have e:tmP d t (fun _=>.any) u=.any:=by simp only[tmP,fX e0,fX e1,fX e6,fX e8,fX e9,QK]
    show Rel EE w3 ρ4 _ (tmP d t (fun _=>.any) u) _;rw[e];exact .any _
  have hz:W.heap.size<=w3.heap.size:=j.kept.1;refine⟨ρ4,fun b hb=>JX (I b hb) hz,JT J hz,?_⟩;exact j.anchor rfl j.pin rfl j.defers rfl rfl (fun b hb=>hb.elim (fun h=>.inl (hN b h)) .inr) (fun b hs=>hs.2.1) j.free (fun nm g u b hr hb=>j.qE hr hb) (fun b _ _=>rfl) j.below (QP _)
 ·exact h3.elim
end
end Go.Proofs.YtgcpildegdgekaaGreatDoor
namespace Go.Proofs.YtgcpildegdgekaaGreatDoor
open Go.Proofs.Tryz
open Go.RowKit Go.Vm
noncomputable section
variable {d:Int} {fz:Frz} {f1 f2:Nat} {fo:List Opn->ByteArray×Int} {N N':Nat->Prop} {w0:World}
def tZ (ops:List Opn) (e:Int):aC UU:=.tup [.new .op ops,.int .i64 e]
def qB (fo:List Opn->ByteArray×Int) (t:ByteArray) (ops:List Opn):List Opn×Int:=cond (((fo ops).2 !=0)||((fo ops).1 !=t)) ([],3) (ops,0)
def Res (N:Nat->Prop) (w0:World) (r:aC UU):Ending->World->Prop:=fun e w'=>∃v,e=.returned v/\jT EE w0.heap.size N w' r v/\Below w0.heap.size w0 w'
def Lst (d:Int) (fz:Frz) (f1 f2:Nat) (fo:List Opn->ByteArray×Int):Prop:=∀(t:ByteArray) (ops:List Opn) (x y:Int) (Post:aC UU->Prop),Post (tZ (qB fo t ops).1 (qB fo t ops).2)->
 ∃M F,exec bS 55 M F 0 Vl ⟨tmP d t (fun _=>.any),obP fz f1 f2 x y ops⟩ (bN bS true f9 Post)
theorem aUC {b:Nat} {a:Act} {w:World} {R:Ending->World->Prop} {v:Value} (j:a.defers=[{target:=.collected b,args:=#[]}]) (hb:w.heap[b]?=some (.deferred (some []))) (f:(results f9 a.tmps).run prog (w.putObj b (.deferred none))=.ok v (w.putObj b (.deferred none))) (hR:R (.returned v) (w.putObj b (.deferred none))):
  LeavesInM Fence.wide 10 prog f9 a.tmps R a.defers .returning w:=by
 rw[j];refine⟨XQ,.inl ⟨b,_,rfl,run_takeDeferred hb,?_⟩⟩;exact⟨v,f,hR⟩
theorem aXJ {a:Act} {w:World} {o:Oper} {f:Nat} {x:Operand} {u:Value} (ho:o.op=.call {callee:=.value (.func f),args:=#[x],argTypes:=#[9]}) (j:a.eval x=u) (G:∀args w,(callFunc f args).run prog w=.ok (.enter f args) w):(execOp a.eval o).run prog w=.ok (.enter f #[u]) w:=by
 unfold execOp;rw[ho];have e:a.eval (.func f)=.func (.func f) #[] #[]:=rfl;grind [resolve,Deferred.ofValue,invoke]
set_option maxHeartbeats 1000000 in
theorem aTq (Dp:Dpk d fz f1 f2 fo) (hl:Lst d fz f1 f2 fo) (hi:inv2 w0) (hN:∀b,N b->b<w0.heap.size) {t:ByteArray} (ht:t.size<=160000) {ρ:Vm.Own} {a:Act} {w:World}
  (hR:RR EE 55 N (Fr.pure w0) ρ ⟨tmP d t (fun _=>.any),obP fz f1 f2 0 0 []⟩ a w):
  pz.wp prog (bodyPostM Fence.wide 10 prog f9 (Res N w0 (tZ (qB fo t (fQ d (fI t.data.toList)).1).1 (qB fo t (fQ d (fI t.data.toList)).1).2))) a w:=by
 have hsat:fY bS w0:=Uf.at (show bS.inv w0 from hi);have hsz:a.tmps.size=55:=hR.size;rw[aPz];refine wp_seq (wp_seq ?_);rw[aPj];refine wp_region (rT ?_);rw[aPi];have h1:a.eval (.tmp 1)=.string t:=by
  have h:=hR.eval (.tmp 1);have e:(⟨tmP d t (fun _=>.any),obP fz f1 f2 0 0 []⟩:ASt UU).eval (.tmp 1)=.str t:=rfl;rw[e] at h;generalize a.eval (.tmp 1)=u at h;cases h;rfl
 refine gY (d:=26) (u:=.string t) KA KA (by rw[<- h1];exact Hh (x:=.tmp 1) KA) ?_;have Gy:(a.put (some 26) (.string t)).eval (.tmp 26)=.string t:=(oL KI).trans (JQ rfl);have hR1:=hR.sC (d:=26) (by decide) rfl (.string t);unfold wpl;rw[JQ (ph KA)];refine Jl (aXJ (f:=33) (x:=.tmp 26) KA Gy (fun args w=>lE (fn:=f33) func33 KA rfl args w)) ((aTs t w).mono ?_)
 rintro e w8 ⟨rfl,ee⟩
 refine⟨_,rfl,?_⟩;rw[show (opn q8 1).dst=some 27 by kernel_rfl];have j:=hR1.sC (d:=27) (by decide) rfl (.func (.func 73) #[] #[.pointer (some ⟨w.heap.size,0,none⟩)]);have ff:((a.put (some 26) (.string t)).put (some 27) (.func (.func 73) #[] #[.pointer (some ⟨w.heap.size,0,none⟩)])).eval (.tmp 27)=.func (.func 73) #[] #[.pointer (some ⟨w.heap.size,0,none⟩)]:=
  (oL (by simp[Act.put,hsz])).trans (JQ rfl)
 generalize ((a.put (some 26) (.string t)).put (some 27) (.func (.func 73) #[] #[.pointer (some ⟨w.heap.size,0,none⟩)]))=L at j ff;show (Code.block 0 prf).wp prog _ L w8;refine wp_block ?_;rw[aQG];have hs8:w8.heap.size=w.heap.size+1:=by simp_all
 have hbx:w8.heap[w.heap.size]?=some (.cells #[.string t] 9 (0,0)):=by
  grind [World.alloc_heap_new]
 obtain⟨b6,Yd⟩:∃b,ρ (.ob 6)=some (0,.pointer (some ⟨b,0,none⟩)):=by
  obtain⟨b,c,ty,h,_⟩:=j.objs 6 _ rfl;grind
 obtain⟨b8,hb8⟩:∃b,ρ (.ob 8)=some (0,.pointer (some ⟨b,0,none⟩)):=by
  obtain⟨b,c,ty,h,_⟩:=j.objs 8 _ rfl;grind
 obtain⟨b9,hb9⟩:∃b,ρ (.ob 9)=some (0,.pointer (some ⟨b,0,none⟩)):=by
  obtain⟨b,c,ty,h,_⟩:=j.objs 9 _ rfl;grind
 have I:Below w0.heap.size w0 w:=hR.below;have hge:∀b,Kp w.heap.size (w.heap.size+1) b->w0.heap.size<=b:=fun b hb=>by
  have:=I.size;unfold Kp at hb;omega
 have tB:∀l:List UInt8,(⟨l.toArray⟩:ByteArray)=mkB l:=fun l=>rfl
 have hinv0:∀r,Dh d fz f1 f2 N w0 w.heap.size (w.heap.size+1) b6 b8 b9 L t [] ((w8.alloc (.deferred (some []))).alloc (.loop r)):=fun r=>by
  have hold:∀b:Nat,b<w.heap.size->((w8.alloc (.deferred (some []))).alloc (.loop r)).heap[b]?=w.heap[b]?:=fun b hb=>by
   grind [heap_alloc_old]
  have hz:((w8.alloc (.deferred (some []))).alloc (.loop r)).heap.size=w.heap.size+3:=by simp;omega
  have hb':Below w0.heap.size w0 ((w8.alloc (.deferred (some []))).alloc (.loop r)):=by
   refine⟨?_,?_,?_,by have:=I.size;omega,fun k hk=>(hold k (by have:=I.size;omega)).trans (I.block k hk)⟩
   ·rw[ee];exact I.os
   ·rw[ee];exact I.tape
   ·rw[ee];exact I.output
  refine⟨ρ,fun b hb=>by unfold Kp at hb;omega,hb'.size,?_⟩;refine j.anchor rfl (fun id p hp=>?_) rfl j.defers rfl rfl (fun b hb=>hb.elim (fun h=>.inl (hN b h)) .inr) (fun b hs G=>?_) (fun nm g u b hr hb G=>?_) (fun nm g u b hr hb G=>?_) (fun b hb G=>hold b hb) hb' KI
  ·have O:qC b6 b8 b9 id=some p:=hp;unfold qC at O;cases h6:Nat.beq id 6
   ·cases h8:Nat.beq id 8
    ·cases h9:Nat.beq id 9
     ·grind
     ·rw[h6,h8,h9] at O;cases O;obtain rfl:=QQ h9;exact⟨⟨_,rfl⟩,hb9⟩
    ·rw[h6,h8] at O;cases O;obtain rfl:=QQ h8;exact⟨⟨_,rfl⟩,hb8⟩
   ·rw[h6] at O;cases O;obtain rfl:=QQ h6;exact⟨⟨_,rfl⟩,Yd⟩
  ·rcases G with G|G
   ·exact hs.2.1 G
   ·have:=hs.1;unfold Kp at G;omega
  ·have:=((j.own hr).2 _ hb).2;have G:Kp w.heap.size (w.heap.size+1) b:=G;unfold Kp at G;omega
  ·rcases G with G|G
   ·exact j.qE hr hb G
   ·have:=((j.own hr).2 _ hb).2;unfold Kp at G;omega
 have hsize:∀(A:World) (b:Nat) (v:Value),(A.setCell ⟨b,0,none⟩ v).heap.size=A.heap.size:=fun A b v=>by simp_all
 refine(wpIn_wide (n:=10)).1 (aK9 (ps:=#[28]) (F:=Fence.wide) (n:=10) rfl (by decide) (gf:=73) (lb:=#[.pointer (some ⟨w.heap.size,0,none⟩)]) ff trivial (fun args w=>lE (fn:=f73) func73 KA rfl args w) (b:=w.heap.size)
  (encs:=fun s:List UInt8=>#[.string ⟨s.toArray⟩]) (xs:=fI t.data.toList) (st:=fun pre=>.string ⟨(t.data.toList.drop pre.flatten.length).toArray⟩) (aTt 9 (by decide) w.heap.size t.data.toList (by rw[Array.length_toList];have:t.data.size=t.size:=rfl;omega)) KI ?_ (fun _=>rfl)
  (Dh d fz f1 f2 N w0 w.heap.size (w.heap.size+1) b6 b8 b9 L t) (fun s A v hs=>hs.keep hN hge (fun b hb G=>Below.heap_setCell A ⟨w.heap.size,0,none⟩ v b (fun e=>G (.inl e))) (by grind) rfl rfl rfl) (fun s A hs=>hs.keep hN hge (fun _ _ _=>rfl) (QP _) rfl rfl rfl)
  (fun s A r r' hs hl=>hs.keep hN hge (fun b hb G=>World.putObj_heap_other (fun e=>G (.inr (.inr KI)))) (by simp_all) rfl rfl rfl) hinv0 (fun x=>(L.put (some 28) (.string (mkB x))).put (some 10) (.string (mkB x))) ?_ ?_ ?_)
 ·refine⟨?_,?_⟩
  ·have e:(⟨(t.data.toList.drop ([]:List (List UInt8)).flatten.length).toArray⟩:ByteArray)=t:=by
    rfl
   simp_all
  simp_all
 ·intro l x W K hK;rw[aPh];refine vt nd9 ?_;rw[aPg];have hd:L.defers=[]:=j.defers;have qL:L.tmps.size=55:=j.size;have e28:({tmps:=((#[28]:Array Tmp).zip (#[.string ⟨x.toArray⟩]:Array Value)).foldl (fun t p=>t.setIfInBounds p.1 p.2) L.tmps,defers:=[]}:Act)=L.put (some 28) (.string (mkB x)):=by
   simp_all[Act.put]
  show wpl prog (cR q9) _ [opn q9 0] _ {tmps:=((#[28]:Array Tmp).zip (#[.string ⟨x.toArray⟩]:Array Value)).foldl (fun t p=>t.setIfInBounds p.1 p.2) L.tmps,defers:=[]} W;rw[e28];have h28:(L.put (some 28) (.string (mkB x))).eval (.tmp 28)=.string (mkB x):=(oL KI).trans (JQ rfl);refine gY (d:=10) (u:=.string (mkB x)) KA KA (by have h:=Bu (a:=L.put (some 28) (.string (mkB x))) (w:=W) (P:=prog) (o:=opn q9 0) (x:=.tmp 28) KA;rw[h28] at h;exact h) ?_;exact hK
 ·intro l pre x W hpre hI hbox;have hx:x∈fI t.data.toList:=hpre.subset XQ;have hlen:pre.length<=(fI t.data.toList).length:=by
   grind
  have h2:=aTr t.data.toList;have h3:=aTu hx;have hts:t.data.toList.length=t.size:=by rfl
  grind [bA5]
 ·intro W hI hD;obtain⟨ρ',hlt,hle,Z⟩:=hI;rw[hs8] at hD ⊢;show Vl.wp prog _ {L with defers:={target:=.collected (w.heap.size+1),args:=#[]}::L.defers} W;have hd:L.defers=[]:=j.defers;have hR4:RR EE 55 (fun b=>N b\/Kp w.heap.size (w.heap.size+1) b) (FrA w0 W (Kp w.heap.size (w.heap.size+1)) hlt hle (fun _=>none) (fun _ _ h=>by cases h) [{target:=.collected (w.heap.size+1),args:=#[]}]) ρ' ⟨tmP d t (fun _=>.any),obP fz f1 f2 (fQ d (fI t.data.toList)).2.1 (fQ d (fI t.data.toList)).2.2 (fQ d (fI t.data.toList)).1⟩ {L with defers:={target:=.collected (w.heap.size+1),args:=#[]}::L.defers} W:=
   Z.anchor rfl (fun _ _ h=>by cases h) rfl (by rw[hd];rfl) rfl rfl (fun b hb=>hb.elim (fun h=>.inl (hN b h)) .inr) (fun b hs=>hs.2.1) Z.free (fun nm g u b hr hb=>Z.qE hr hb) (fun b _ _=>rfl) Z.below (QP _)
  obtain⟨M,F,hex⟩:=hl t (fQ d (fI t.data.toList)).1 (fQ d (fI t.data.toList)).2.1 (fQ d (fI t.data.toList)).2.2 (fun r=>r=tZ (qB fo t (fQ d (fI t.data.toList)).1).1 (qB fo t (fQ d (fI t.data.toList)).1).2) rfl;refine uG (C:=bS) ?hs mixed (fun _ _ _ _ _ h=>by cases h) Vl 0 _ _ ρ' _ W _ hex hR4 (fun e s' ρ5 a' w' hK J=>?_)
  case hs=>exact hsat
  have hDw:w'.heap[w.heap.size+1]?=some (.deferred (some [])):=(J.kept.2 (w.heap.size+1) (.inr (.inl rfl))).trans hD;have wL:Below w0.heap.size w0 w':=J.below;have hz5:(w'.putObj (w.heap.size+1) (.deferred none)).heap.size=w'.heap.size:=by simp_all
  have V:∀b:Nat,b≠w.heap.size+1->(w'.putObj (w.heap.size+1) (.deferred none)).heap[b]?=w'.heap[b]?:=fun b hb=>World.putObj_heap_other hb
  have S:Below w0.heap.size w0 (w'.putObj (w.heap.size+1) (.deferred none)):=⟨wL.os,wL.tape,wL.output,by rw[hz5];exact wL.size,fun k hk=>(V k (by have:=I.size;omega)).trans (wL.block k hk)⟩;have hlt5:∀b,Kp w.heap.size (w.heap.size+1) b->b<(w'.putObj (w.heap.size+1) (.deferred none)).heap.size:=fun b hb=>by rw[hz5];exact JX (hlt b hb) J.kept.1
  have hR6:RR EE 55 (fun b=>N b\/Kp w.heap.size (w.heap.size+1) b) (FrA w0 (w'.putObj (w.heap.size+1) (.deferred none)) (Kp w.heap.size (w.heap.size+1)) hlt5 S.size (fun _=>none) (fun _ _ h=>by cases h) [{target:=.collected (w.heap.size+1),args:=#[]}]) ρ5 s' a' (w'.putObj (w.heap.size+1) (.deferred none)):=
   J.anchor rfl (fun _ _ h=>by cases h) rfl J.defers rfl rfl (fun b hb=>hb.elim (fun h=>.inl (hN b h)) .inr) (fun b hs=>hs.2.1) J.free (fun nm g u b hr hb=>J.qE hr hb) (fun b hb G=>V b (fun e'=>G (.inr (.inr (.inl e'))))) S KI
  obtain⟨v,r,h1',h2',h3'⟩:=aHF (fn:=f9) hK hR6 rfl (fun _ h=>.inl h) hN;subst h2';have hgo:=aUC (R:=Res N w0 (tZ (qB fo t (fQ d (fI t.data.toList)).1).1 (qB fo t (fQ d (fI t.data.toList)).1).2)) J.defers hDw h1' ⟨v,rfl,h3',S⟩;rcases aHS hK with rfl|rfl
  ·exact hgo
  ·exact hgo
end
end Go.Proofs.YtgcpildegdgekaaGreatDoor
namespace Go.Proofs.YtgcpildegdgekaaGreatDoor
open Go.Proofs.Tryz
open Go.RowKit Go.Vm
noncomputable section
variable {d:Int} {fz:Frz} {f1 f2:Nat} {fo:List Opn->ByteArray×Int} {N N':Nat->Prop} {w0:World}
def aUi (M:Nat->Nat->Nat->Canon UU) (F:Nat) (mc:Canon UU) (Kc:ASt UU->Prop) (Post:aC UU->Prop):AEx->ASt UU->Prop:=
 cA (aU M F 0 bS) bS f9.ntmps M F 0 (cF (cS p0)) (cA (aU M F 0 bS) bS f9.ntmps M F 0 (cF (cS (cS p0))) (cA (aU M F 0 bS) bS f9.ntmps M F 0 (cF (cS (cS (cS p0)))) (cA (aU M F 0 bS) bS f9.ntmps M F 0 (cF (cS (cS (cS (cS p0))))) (cA (aU M F 0 bS) bS f9.ntmps M F 0 (cF (cS (cS (cS (cS (cS p0)))))) (fU mc Kc (bN bS true f9 Post))))))
def nt (d:Int) (fz:Frz) (f1 f2:Nat):Prop:=∀(t:ByteArray) (Post:aC UU->Prop) (Kc:ASt UU->Prop),(160000<(t.size:Int)->Post (tZ [] 4))->(¬160000<(t.size:Int)->Kc ⟨tmP d t (fun _=>.any),obP fz f1 f2 0 0 []⟩)->
 ∃M F mc,exec bS f9.ntmps M F 0 (cF p0) (gK [.int .i64 d,.str t]) (aUi M F mc (fun s=>∃s',canon mcO s=some s'/\Kc s') Post)
theorem B1:Dpk 1 .W1 65 67 fo where
 body:=fun t ops x y l Kc Post u ho h=>by
  refine⟨oi,0,cast (aXB 0 Post Kc t ops x y (mkB l)).symm ?_⟩;obtain⟨j,f⟩:=sj l KI;unfold rm jb;refine⟨j,?_⟩;rw[f];refine⟨by have:=sb l;unfold yP;rw[Y6];omega,?_,?_⟩
  ·simp only[QN,KW];omega
  ·exact h
theorem B2:Dpk 2 .W2 66 68 fo where
 body:=fun t ops x y l Kc Post u ho h=>by
  refine⟨og,0,cast (aXA 0 Post Kc t ops x y (mkB l)).symm ?_⟩;obtain⟨j,f⟩:=sj l KI;unfold rl ja;refine⟨j,?_⟩;rw[f];refine⟨by have:=sb l;unfold yP;rw[Y6];omega,?_,?_⟩
  ·simp only[QN,KW];omega
  ·exact h
theorem L1:Lst 1 .W1 65 67 qW:=fun t ops x y Post h=>by
 refine⟨oe,0,cast (aWz 0 Post t ops x y).symm ?_⟩;unfold rk iz;refine⟨trivial,?_⟩;unfold qB at h;cases hb:(((qW ops).2 !=0)||((qW ops).1 !=t))<;>rw[hb] at h<;>exact h
theorem L2:Lst 2 .W2 66 68 pD:=fun t ops x y Post h=>by
 refine⟨od,0,cast (aWy 0 Post t ops x y).symm ?_⟩;unfold rj iy;refine⟨trivial,?_⟩;unfold qB at h;cases hb:(((pD ops).2 !=0)||((pD ops).1 !=t))<;>rw[hb] at h<;>exact h
theorem A1:nt 1 .W1 65 67:=fun t Post Kc j f=>by
 refine⟨kR,0,Z2,cast (aWx 0 Post _ t).symm ?_⟩;unfold ri iw;cases hb:decide (160000<(t.size:Int)) with
 |true=>exact j (JU hb)
 |false=>exact⟨⟨tmP 1 t (fun _=>.any),obP .W1 65 67 0 0 []⟩,KA,f (KM hb)⟩
theorem A2:nt 2 .W2 66 68:=fun t Post Kc j f=>by
 refine⟨kQ,0,Z1,cast (aWw 0 Post _ t).symm ?_⟩;unfold rh iv;cases hb:decide (160000<(t.size:Int)) with
 |true=>exact j (JU hb)
 |false=>exact⟨⟨tmP 2 t (fun _=>.any),obP .W2 66 68 0 0 []⟩,KA,f (KM hb)⟩
def oJ (d:Int) (fo:List Opn->ByteArray×Int) (t:ByteArray):List Opn×Int:=if 160000<(t.size:Int) then ([],4) else qB fo t (fQ d (fI t.data.toList)).1
theorem aUB {a:Act} {w:World} {R:Ending->World->Prop} {v:Value} (j:a.defers=[]) (f:(results f9 a.tmps).run prog w=.ok v w) (hR:R (.returned v) w):LeavesInM Fence.wide 10 prog f9 a.tmps R a.defers .returning w:=by
 rw[j];exact⟨v,f,hR⟩
theorem xh (Dp:Dpk d fz f1 f2 fo) (hl:Lst d fz f1 f2 fo) (hp:nt d fz f1 f2) (t:ByteArray) {w:World} {args:Array Value}
  (hi:inv2 w) (hN:∀b,N b->b<w.heap.size) (L:tA EE w N [.int .i64 d,.str t] args):
  Calls prog 9 args w (Res N w (tZ (oJ d fo t).1 (oJ d fo t).2)):=by
 have G:fY bS w:=Uf.at (show bS.inv w from hi);refine callsIn_wide.1 (callsIn_of_wp_marks (F:=Fence.wide) (n:=10) (c:=p0) func9 KA trivial (wpIn_wide.2 ?_));have V:args.size=2:=L.1;have hR:RR EE f9.ntmps N (Fr.pure w) cO (gK [.int .i64 d,.str t]) {tmps:=args++Array.replicate (f9.ntmps-args.size) undef,defers:=[]} w:=by
  refine⟨rfl,by rw[Array.size_append,Array.size_replicate,V];rfl,fun t=>?_,(fun id ob ho=>by cases ho),(fun id g u O=>by cases O),(fun _ _ _ _ _ _ _ O=>by cases O),Below.refl _ _,fun b hb=>.inl (hN b hb),⟨QP _,fun b hb=>hb.elim⟩,(fun _ _ _ _ O=>by cases O),(fun _ _ h=>by cases h),by decide⟩;exact Xv (fun _=>rfl) (by show 2<=55;decide) (by show 55<=1000000;decide) V (fun k hk=>(L.2 k hk).mono (fun b hb=>⟨⟨hb.1,hb.2,fun _ _ _ O=>by cases O⟩,rfl⟩) (fun _ _ _ O=>by cases O)) t
 obtain⟨M,F,mc,hex⟩:=hp t (fun r=>r=tZ (oJ d fo t).1 (oJ d fo t).2) (fun s'=>¬160000<(t.size:Int)/\s'=⟨tmP d t (fun _=>.any),obP fz f1 f2 0 0 []⟩) (fun h=>by unfold oJ;rw[JQ h]) (fun h=>⟨h,rfl⟩);have J:∀e s' ρ' a' w',e≠ .normal->bN bS true f9 (fun r=>r=tZ (oJ d fo t).1 (oJ d fo t).2) e s'->RR EE f9.ntmps N (Fr.pure w) ρ' s' a' w'->bodyPostM Fence.wide 10 prog f9 (Res N w (tZ (oJ d fo t).1 (oJ d fo t).2)) e.to a' w':=fun e s' ρ' a' w' j I f=>by
  obtain⟨v,r,h1,rfl,h2⟩:=aHF (N:=N) (w0:=w) I f rfl (fun _ h=>h) hN;rcases aHS I with rfl|rfl
  ·exact absurd rfl j
  ·exact aUB f.defers h1 ⟨v,rfl,h2,f.below⟩
 rw[aQ3];refine xZ (C:=bS) (w0:=Fr.pure w) G mixed (fun _ _ _ _ _ h=>by cases h) hex hR (fun s1 ρ1 a1 w1 h1 hR1=>?_) (fun e s' ρ' a' w' j I f=>J e s' ρ' a' w' j (by cases e<;>first|exact absurd rfl j|exact I) f)
 refine xZ (C:=bS) (w0:=Fr.pure w) G mixed (fun _ _ _ _ _ h=>by cases h) h1 hR1 (fun s2 ρ2 a2 w2 h2 hR2=>?_) (fun e s' ρ' a' w' j I f=>J e s' ρ' a' w' j (by cases e<;>first|exact absurd rfl j|exact I) f)
 refine xZ (C:=bS) (w0:=Fr.pure w) G mixed (fun _ _ _ _ _ h=>by cases h) h2 hR2 (fun s3 ρ3 a3 w3 h3 hR3=>?_) (fun e s' ρ' a' w' j I f=>J e s' ρ' a' w' j (by cases e<;>first|exact absurd rfl j|exact I) f)
 refine xZ (C:=bS) (w0:=Fr.pure w) G mixed (fun _ _ _ _ _ h=>by cases h) h3 hR3 (fun s4 ρ4 a4 w4 h4 hR4=>?_) (fun e s' ρ' a' w' j I f=>J e s' ρ' a' w' j (by cases e<;>first|exact absurd rfl j|exact I) f)
 refine xZ (C:=bS) (w0:=Fr.pure w) G mixed (fun _ _ _ _ _ h=>by cases h) h4 hR4 (fun s5 ρ5 a5 w5 h5 hR5=>?_) (fun e s' ρ' a' w' j I f=>J e s' ρ' a' w' j (by cases e<;>first|exact absurd rfl j|exact I) f)
 refine wp_seq (uG (C:=bS) (w0:=Fr.pure w) G mixed (fun _ _ _ _ _ h=>by cases h) _ 0 s5 _ ρ5 a5 w5 _ h5 hR5 (fun e s' ρ' a' w' I f=>?_));cases e with
 |exit id=>exact J (.exit id) s' ρ' a' w' XQ I f
 |ret=>exact J .ret s' ρ' a' w' XQ I f
 |normal=>
  show pz.wp prog _ a' w';simp only[fU] at I;split at I
  ·rename_i s'' Z;obtain⟨s3',S,hts,rfl⟩:=I;obtain⟨ρ'',hR''⟩:=uI f Z (fun _ _ h=>by cases h);obtain⟨ρ3',hR3'⟩:=uI hR'' S (fun _ _ h=>by cases h);have e:oJ d fo t=qB fo t (fQ d (fI t.data.toList)).1:=by unfold oJ;rw[QF hts]
   rw[e];exact aTq Dp hl hi hN KI hR3'
  ·exact I.elim
def Vq (n:Int) (t:ByteArray):List Opn×Int:=if n=1 then oJ 1 qW t else oJ 2 pD t
def aB9:Model UU
 |[.int .i64 n,.str t]=>some ([n=1\/n=2],tZ (Vq n t).1 (Vq n t).2)
 |_=>none
def ot:Cfg UU:=bS.add 9 aB9
theorem uu:aE ot:=by
 refine Uf.put ⟨fun u w=>lE (fn:=f9) func9 KA rfl u w,?_⟩;intro N w u xs J r j G f hm I;unfold aB9 at hm;split at hm
 ·rename_i n t;cases hm;rcases(show n=1\/n=2 from I) with rfl|rfl
  ·exact xh B1 L1 A1 t j G f
  ·exact xh B2 L2 A2 t j G f
 ·cases hm
end
end Go.Proofs.YtgcpildegdgekaaGreatDoor
namespace Go.Proofs.YtgcpildegdgekaaGreatDoor
open Go.Proofs.Tryz
open Go.RowKit Go.Vm
noncomputable section
def Oy (n:Int) (ops:List Opn):ByteArray×Int:=if n=1 then qW ops else pD ops
def aBa:Model UU
 |[.int .i64 n,.sl .op ops]=>some ([n=1\/n=2],.tup [.str (Oy n ops).1,.int .i64 (Oy n ops).2])
 |_=>none
theorem aLq:ot.sum 8=some Xb:=KA
def tF:Cfg UU:=ot.add 8 aBa
theorem aNw:aE tF:=by
 refine uu.put ⟨fun f w=>lE (fn:=Tryz.f8) func8 KA rfl f w,?_⟩;intro N w f xs I r G L j hm J;unfold aBa at hm;split at hm
 ·rename_i n ops;cases hm;have u:=fun xs I r V S O=>(uu.1 8 Xb aLq).2 N w f xs I r G L V S O
  rcases(show n=1\/n=2 from J) with rfl|rfl
  ·exact u _ _ _ j rfl trivial
  ·exact u _ _ _ j rfl trivial
 grind
theorem ni {f g:Int->Int} {lo:Int}:∀n:Nat,(∀x,lo<=x->x<lo+n->f x=g x)->Su f lo n=Su g lo n
 |0,_=>rfl
 |n+1,h=>by
  show Su f lo n+f (lo+n)=Su g lo n+g (lo+n);rw[ni n fun x j u=>h x j KI,h (lo+n) KI KI]
theorem nh (f g:Int->Int) (lo:Int):∀n:Nat,Su (fun x=>f x-g x) lo n=Su f lo n-Su g lo n
 |0=>rfl
 |n+1=>by
  show Su (fun x=>f x-g x) lo n+(f (lo+n)-g (lo+n))=(Su f lo n+f (lo+n))-(Su g lo n+g (lo+n));rw[nh f g lo n];omega
theorem nq (c lo:Int):∀n:Nat,Su (fun _=>c) lo n=n*c
 |0=>by show (0:Int)=((0:Nat):Int)*c;simp
 |n+1=>by
  show Su (fun _=>c) lo n+c=_;rw[nq c lo n,show ((n+1:Nat):Int)=(n:Int)+1 by omega,Int.add_mul,Int.one_mul]
def A7 (R C:List aA) (x y:Int):Int:=dG (fun r=>qK r x y) R-dG (fun r=>qK r x y) C
theorem sd (l:List aA) (d:aA) (hw:0<=d.W) (hh:0<=d.H):dG (shP d) l=Su (fun x=>Su (fun y=>dG (fun r=>qK r x y) l) d.Y d.H.toNat) d.X d.W.toNat:=by
 rw[aLp (fun r=>aM3 d r hw hh) l,M5];simp_all[M5]
theorem aVG {R C:List aA} {d:aA} (hw:0<=d.W) (hh:0<=d.H) {v:Int} (hv:∀x y,inq x y d->A7 R C x y=v):kB R C d=d.W*d.H*v:=by
 unfold kB;rw[sd R d hw hh,sd C d hw hh,<- nh];have e:Su (fun x=>Su (fun y=>dG (fun r=>qK r x y) R) d.Y d.H.toNat-Su (fun y=>dG (fun r=>qK r x y) C) d.Y d.H.toNat) d.X d.W.toNat=Su (fun _=>d.H*v) d.X d.W.toNat:=by
  refine ni _ fun x j G=>?_
  rw[<- nh];have I:Su (fun y=>dG (fun r=>qK r x y) R-dG (fun r=>qK r x y) C) d.Y d.H.toNat=Su (fun _=>v) d.Y d.H.toNat:=ni _ fun y f u=>hv x y ⟨j,KI,f,KI⟩
  grind [nq]
 grind [nq,Int.mul_assoc]
theorem aVQ (r:aA) (x y:Int):qK r x y=if inq x y r then 1 else 0:=by
 grind [inq,qK,ind]
open Classical in
theorem A6 {l:List aA} (h:l.Pairwise fun a b=>∀x y,¬(inq x y a/\inq x y b)) (x y:Int):dG (fun r=>qK r x y) l=if ∃r∈l,inq x y r then 1 else 0:=by
 induction l with
 |nil=>
  rfl
 |cons r l f=>
  obtain⟨G,u⟩:=List.pairwise_cons.1 h;rw[pB,f u,aVQ]
  by_cases q:inq x y r
  ·have I:¬∃s∈l,inq x y s:=fun ⟨s,j,k⟩=>G s j x y ⟨q,k⟩
   simp_all[QF]
  simp_all
theorem xk {x y z a b:Int} (j:x<=y) (f:y<=z) (hb:0<=b):kA x (y-x) a b+kA y (z-y) a b=kA x (z-x) a b:=by
 unfold kA;omega
theorem si (f:aA->Int) (a b:List aA):dG f (a++b)=dG f a+dG f b:=by
 grind [dG]
theorem aOo {xs ys:zzI} (j:asc xs) (k:Nat) (r:aA) (hw:0<=r.W):∀n,n<xs.length->dG (fun d=>shP d r) ((List.range n).map fun i=>hG xs ys (i,k))=kA (xs.getD 0 default) (xs.getD n default-xs.getD 0 default) r.X r.W*kA (ys.getD k default) (ys.getD (k+1) default-ys.getD k default) r.Y r.H:=by
 intro n
 induction n with
 |zero=>
  intro _;have:kA (xs.getD 0 default) (xs.getD 0 default-xs.getD 0 default) r.X r.W=0:=by unfold kA;omega
  rw[this,Int.zero_mul];rfl
 |succ n f=>
  intro u;rw[KT,List.map_append,si,f KI];grind [dG,shP,hG,kA,xk,pW]
theorem bBT {xs ys:zzI} (G:asc xs) (j:asc ys) (r:aA) (hw:0<=r.W) (hh:0<=r.H) {w:Nat} (f:w<xs.length):∀n,n<ys.length->dG (fun d=>shP d r) ((cellsOf w n).map (hG xs ys))=kA (xs.getD 0 default) (xs.getD w default-xs.getD 0 default) r.X r.W*kA (ys.getD 0 default) (ys.getD n default-ys.getD 0 default) r.Y r.H:=by
 intro n
 induction n with
 |zero=>
  intro _;have:kA (ys.getD 0 default) (ys.getD 0 default-ys.getD 0 default) r.Y r.H=0:=by unfold kA;omega
  rw[this,Int.mul_zero];rfl
 |succ n u=>
  intro I;have e:cellsOf w (n+1)=cellsOf w n++(List.range w).map fun i=>(i,n):=by
   grind [cellsOf,List.range_succ]
  rw[e,List.map_append,si,u KI,List.map_map];have J:((hG xs ys) ∘ fun i=>(i,n))=fun i=>hG xs ys (i,n):=rfl
  rw[J,aOo G n r hw w f,<- Int.mul_add,xk (pW j (Nat.zero_le n) KI) (pW j (Nat.le_succ n) I) hh]
theorem aLn (f:aA->aA->Int):∀(D R:List aA),dG (fun d=>dG (fun r=>f d r) R) D=dG (fun r=>dG (fun d=>f d r) D) R:=by
 intro D
 induction D with
 |nil=>
  intro R
  induction R with
  |nil=>rfl
  |cons r R j=>
   rw[pB,<- j];rfl
 |cons d D j=>
  intro R;rw[pB,j]
  induction R with
  |nil=>rfl
  |cons r R u=>
   grind [pB]
theorem sf (f g:aA->Int):∀l,dG (fun d=>f d-g d) l=dG f l-dG g l
 |[]=>rfl
 |d::l=>by
  rw[pB,pB,pB,sf f g l];omega
theorem bBG (l:List aA):mU l=dG (fun r=>r.W*r.H) l:=rfl
theorem bBV {w h:Int} {ls:List Seg} (hok:∀s∈ls,jY w h s) (hw:0<w) (hh:0<h) {l:List aA} (I:∀r∈l,0<=r.X/\0<=r.W/\r.X+r.W<=w/\0<=r.Y/\0<=r.H/\r.Y+r.H<=h):
  dG (fun d=>dG (shP d) l) ((cellsOf ((gxs w ls).length-1) ((gys h ls).length-1)).map (hG (gxs w ls) (gys h ls)))=mU l:=by
 have ax:=lX w ls;have f:=lW h ls;have G:=Yj w ls;have u:=Yi h ls;have V:(gxs w ls).getD 0 default=0:=by
  have:=Hy ax (nP.2 (.inl rfl):(0:Int)∈gxs w ls);have:=rJ w h ls hok KI (gL G);omega
 have O:(gys h ls).getD 0 default=0:=by
  have:=Hy f (nO.2 (.inl rfl):(0:Int)∈gys h ls);have:=rI w h ls hok KI (gL u);omega
 have S:(gxs w ls).getD ((gxs w ls).length-1) default=w:=by
  have:=Hx ax (nP.2 (.inr (.inl rfl)):w∈gxs w ls) (j:=(gxs w ls).length-1) KI KI;have:=rJ w h ls hok KI (gL (show (gxs w ls).length-1<(gxs w ls).length by omega));omega
 have L:(gys h ls).getD ((gys h ls).length-1) default=h:=by
  have:=Hx f (nO.2 (.inr (.inl rfl)):h∈gys h ls) (j:=(gys h ls).length-1) KI KI;have:=rI w h ls hok KI (gL (show (gys h ls).length-1<(gys h ls).length by omega));omega
 rw[show (fun d=>dG (shP d) l)=fun d=>dG (fun r=>shP d r) l from rfl,aLn,bBG];have J:∀r∈l,dG (fun d=>shP d r) ((cellsOf ((gxs w ls).length-1) ((gys h ls).length-1)).map (hG (gxs w ls) (gys h ls)))=r.W*r.H:=fun r hr=>by
  grind [bBT,kA]
 clear I
 induction l with
 |nil=>rfl
 |cons r l Z=>grind [pB]
open Classical in
theorem aLo {α:Type} (q:α->Prop) (g:α->aA) (f:aA->Int):∀(l:List α),(∀d∈l,¬q d->f (g d)=0)->dG f (l.map g)=dG f ((l.filter fun d=>decide (q d)).map g):=by
 intro l
 induction l with
 |nil=>grind
 |cons d l j=>
  grind [pB]
section
variable {γ:Type} (w h:Int) (ls:List Seg) (hok:∀s∈ls,jY w h s) (col:Int->Int->γ)
 (hw:0<w) (hh:0<h) (hV:∀x y,0<x->x<w->0<=y->y<h->(cvV ls x y↔col x y≠col (x-1) y)) (hH:∀x y,0<=x->x<w->0<y->y<h->(cvH ls x y↔col x y≠col x (y-1)))
include hok hw hh hV hH
open Classical in
theorem aIA {c:γ} {R C:List aA} (hR:∀r∈R++C,0<=r.X/\0<=r.W/\r.X+r.W<=w/\0<=r.Y/\0<=r.H/\r.Y+r.H<=h) (L:∀x y,(0<=x/\x<w)->(0<=y/\y<h)->A7 R C x y=if col x y=c then 1 else 0):
  (∀d∈((cellsOf ((gxs w ls).length-1) ((gys h ls).length-1)).filter fun d=>decide (lC (gxs w ls) (gys h ls) col d=c)).map (hG (gxs w ls) (gys h ls)),kB R C d=d.W*d.H)/\
   mU R-mU C-dG (kB R C) (((cellsOf ((gxs w ls).length-1) ((gys h ls).length-1)).filter fun d=>decide (lC (gxs w ls) (gys h ls) col d=c)).map (hG (gxs w ls) (gys h ls)))=0:=by
 have ax:=lX w ls;have O:=lW h ls;have cell:∀d∈cellsOf ((gxs w ls).length-1) ((gys h ls).length-1),kB R C (hG (gxs w ls) (gys h ls) d)=(hG (gxs w ls) (gys h ls) d).W*(hG (gxs w ls) (gys h ls) d).H*(if lC (gxs w ls) (gys h ls) col d=c then 1 else 0):=fun d f=>by
  have f:=vY.1 f;have Z:=mS ax (show d.1<d.1+1 by omega) KI;have V:=mS O (show d.2<d.2+1 by omega) KI;refine aVG (by show 0<=(gxs w ls).getD (d.1+1) default-(gxs w ls).getD d.1 default;omega) (by show 0<=(gys h ls).getD (d.2+1) default-(gys h ls).getD d.2 default;omega) fun x y q=>?_
  obtain⟨u,I,j,G⟩:=q;change (gxs w ls).getD d.1 default<=x at u;change x<(gxs w ls).getD d.1 default+((gxs w ls).getD (d.1+1) default-(gxs w ls).getD d.1 default) at I;change (gys h ls).getD d.2 default<=y at j;change y<(gys h ls).getD d.2 default+((gys h ls).getD (d.2+1) default-(gys h ls).getD d.2 default) at G;have b1:=rJ w h ls hok KI (gL (show d.1<(gxs w ls).length by omega));have b2:=rJ w h ls hok KI (gL (show d.1+1<(gxs w ls).length by omega));have b3:=rI w h ls hok KI (gL (show d.2<(gys h ls).length by omega));have b4:=rI w h ls hok KI (gL (show d.2+1<(gys h ls).length by omega));rw[L x y KI KI,zG w h ls hok col hw hh hV hH (c:=d) (x:=x) (y:=y) ⟨⟨KI,KI⟩,⟨u,KI⟩,j,KI⟩];rfl
 constructor
 ·intro e he;obtain⟨d,f,rfl⟩:=JK.1 he;grind
 ·have J:=aLo (fun d=>lC (gxs w ls) (gys h ls) col d=c) (hG (gxs w ls) (gys h ls)) (kB R C) (cellsOf ((gxs w ls).length-1) ((gys h ls).length-1)) fun d f S=>by grind
  rw[<- J];have e:kB R C=fun d=>dG (shP d) R-dG (shP d) C:=rfl
  simp_all[sf,bBV]
end
def oR (ps:List Pce):List aA:=ps.flatMap Pce.Cuts
def kD (ps:List Pce) (x y:Int):Int×Int:=(lab ps x y,lB x y (oR ps) 0)
def rF (ps:List Pce):List Seg:=(eQ ps).map iI++(oR ps).flatMap jD
theorem ya {r:aA} (h:smR r) (x y:Int):onR x y r=true↔inq x y r:=by
 unfold smR at h;unfold onR inq;rw[cN (n:=r.X+r.W) KI KI,cN (n:=r.Y+r.H) KI KI];simp only[QW,JN];omega
theorem aDU (x y:Int):∀(ps:List Pce) (k:Nat),(pI x y ps k= -1/\∀p∈ps,p.Rects.any (onR x y)=false)\/∃i,i<ps.length/\pI x y ps k=((k+i:Nat):Int)/\(ps.getD i default).Rects.any (onR x y)=true:=by
 intro ps
 induction ps with
 |nil=>exact fun k=>.inl ⟨rfl,fun p hp=>by cases hp⟩
 |cons p ps G=>
  intro k;unfold pI;cases hb:p.Rects.any (onR x y) with
  |true=>exact .inr ⟨0,XQ,rfl,hb⟩
  |false=>
   rw[QK];rcases G (k+1) with ⟨u,j⟩|⟨i,u,j,I⟩
   ·refine .inl ⟨u,fun q f=>?_⟩;rcases List.mem_cons.1 f with rfl|f
    ·exact hb
    ·exact j q f
   ·refine .inr ⟨i+1,by simpa using u,?_,I⟩;rw[j];congr 1;omega
theorem aV0 (l:List aA) (x y:Int):lB x y l 0= -1↔∀c∈l,¬inq x y c:=by
 rcases zA x y l 0 with ⟨f,u⟩|⟨j,f,u,G⟩
 ·exact⟨fun _=>u,fun _=>f⟩
 ·constructor
  ·intro e;omega
  ·intro q;exact absurd G (q _ (eF f))
section
variable {w h:Int} {cl:List aA} {ps:List Pce} (H:wW w h cl ps)
include H
theorem Mr:∀p∈ps,∀r∈p.Rects,gdR r:=fun p hp r f=>by
 have:=(H.pc p hp).sm r f;have k:=H.ins p hp r f;have s:=H.sheet;unfold smR at this;unfold gdR;omega
theorem aw {i j:Nat} (hi:i<ps.length) (G:j<ps.length) {r s:aA} (u:r∈(ps.getD i default).Rects) (f:s∈(ps.getD j default).Rects) {x y:Int} (J:inq x y r) (I:inq x y s):i=j:=by
 refine Classical.byContradiction fun L=>?_
 unfold inq at J I;rcases Nat.lt_or_ge i j with q|q
 ·have:=H.over j i G q s f r u;unfold mV at this;omega
 ·have:=H.over i j hi KI r u s f;unfold mV at this;omega
theorem sJ {i:Nat} (hi:i<ps.length) (x y:Int):lab ps x y=(i:Int)↔∃r∈(ps.getD i default).Rects,inq x y r:=by
 have f:∀j,j<ps.length->((ps.getD j default).Rects.any (onR x y)=true↔∃r∈(ps.getD j default).Rects,inq x y r):=fun j O=>by
  rw[KV];constructor
  ·rintro ⟨r,u,ho⟩
   exact⟨r,u,(ya ((H.pc _ (eF O)).sm r u) x y).1 ho⟩
  ·rintro ⟨r,u,ho⟩
   exact⟨r,u,(ya ((H.pc _ (eF O)).sm r u) x y).2 ho⟩
 unfold lab;rcases aDU x y ps 0 with ⟨I,G⟩|⟨j,I,G,V⟩
 ·constructor
  ·intro e;omega
  ·intro q;have:=G _ (eF hi);rw[(f i hi).2 q] at this;cases this
 ·obtain⟨s,L,J⟩:=(f j I).1 V;constructor
  ·intro e;obtain rfl:i=j:=KI;exact⟨s,L,J⟩
  ·rintro ⟨r,u,S⟩
   obtain rfl:=aw H hi I u L S J;rw[G];omega
theorem aEp:(∀c∈oR ps,0<c.W/\0<c.H)/\(oR ps).Pairwise mO:=by
 constructor
 ·intro c f;obtain⟨p,hp,f⟩:=List.mem_flatMap.1 f;have:=(H.pc p hp).smH c (QO.2 (.inl f));unfold smR at this;omega
 ·unfold oR;rw[List.pairwise_flatMap];constructor
  ·intro p hp;exact(List.pairwise_append.1 (H.pc p hp).far).1
  ·rw[List.pairwise_iff_getElem];intro i j hi u G c f d S;have Z:ps.getD i default=ps[i]:=by rw[List.getD_eq_getElem?_getD,JW hi];rfl
   have V:ps.getD j default=ps[j]:=by rw[List.getD_eq_getElem?_getD,JW u];rfl
   obtain⟨r,O,J⟩:=(H.pc _ (QH hi)).str c (QO.2 (.inl f));obtain⟨s,L,I⟩:=(H.pc _ (QH u)).str d (QO.2 (.inl S));have:=H.over j i u G s (by rw[V];exact L) r (by rw[Z];exact O);unfold mV at this;unfold rW at J I;unfold mO;omega
theorem Rn (x y:Int):(cvV (rF ps) x y↔kD ps x y≠kD ps (x-1) y)/\(cvH (rF ps) x y↔kD ps x y≠kD ps x (y-1)):=by
 obtain⟨e1,u⟩:=aHY ps (Mr H);obtain⟨j,f⟩:=aEp H;obtain⟨f1,f2⟩:=aVX j f;unfold rF kD;rw[Hm,Hn,e1,u,f1,f2];constructor
 ·rw[ne_eq,ne_eq,ne_eq,QX,Classical.not_and_iff_not_or_not]
 ·rw[ne_eq,ne_eq,ne_eq,QX,Classical.not_and_iff_not_or_not]
theorem aV1 {m:Nat} (hm:m<(oR ps).length) (x y:Int):lB x y (oR ps) 0=(m:Int)↔inq x y ((oR ps).getD m default):=by
 obtain⟨J,I⟩:=aEp H;rcases zA x y (oR ps) 0 with ⟨G,f⟩|⟨j,G,f,u⟩
 ·constructor
  ·intro e;omega
  ·intro q;exact absurd q (f _ (eF hm))
 ·constructor
  ·intro e;obtain rfl:m=j:=KI;exact u
  ·intro q;obtain rfl:=Bt I hm G q u KI KI;rw[f];omega
theorem ey {i:Nat} (hi:i<ps.length) {c:aA} (u:c∈(ps.getD i default).Cuts) {x y:Int} (q:inq x y c):∃r∈(ps.getD i default).Rects,inq x y r:=by
 obtain⟨r,j,f⟩:=(H.pc _ (eF hi)).str c (QO.2 (.inl u));refine⟨r,j,?_⟩;unfold rW at f;unfold inq at q ⊢;omega
theorem Pp {i:Nat} (hi:i<ps.length) (x y:Int):rC w h (kD ps) ((i:Int), -1) x y↔tW (ps.getD i default).Rects (ps.getD i default).Cuts x y:=by
 unfold rC kD tW;rw[QX,sJ H hi,aV0];constructor
 ·rintro ⟨_,u,J⟩
  exact⟨u,fun c f=>J c (List.mem_flatMap.2 ⟨_,eF hi,f⟩)⟩
 ·rintro ⟨u,J⟩
  refine⟨?_,u,fun c f q=>?_⟩
  ·obtain⟨r,G,q⟩:=u;have:=H.ins _ (eF hi) r G;unfold inq at q;omega
  ·obtain⟨p,hp,f⟩:=List.mem_flatMap.1 f;obtain⟨j,I,rfl⟩:=List.mem_iff_getElem.1 hp;have V:ps.getD j default=ps[j]:=by rw[List.getD_eq_getElem?_getD,JW I];rfl
   rw[<- V] at f;obtain⟨s,S,L⟩:=ey H I f q;obtain⟨r,G,O⟩:=u;obtain rfl:=aw H hi I G S O L;exact J c f q
theorem aZI {i m:Nat} (hi:i<ps.length) (hm:m<(oR ps).length) (u:(oR ps).getD m default∈(ps.getD i default).Cuts) (x y:Int):rC w h (kD ps) ((i:Int),(m:Int)) x y↔inq x y ((oR ps).getD m default):=by
 unfold rC kD;rw[QX,sJ H hi,aV1 H hm];constructor
 ·rintro ⟨_,_,G⟩
  exact G
 ·intro q;have f:=ey H hi u q;refine⟨?_,f,q⟩;obtain⟨r,j,q⟩:=f;have:=H.ins _ (eF hi) r j;unfold inq at q;omega
end
theorem Sj.mono {C D:Int->Int->Prop} (h:∀x y,C x y->D x y) {x y a b:Int} (u:Sj C x y a b):Sj D x y a b:=by
 induction u with
 |base=>exact .base
 |right _ j f=>exact .right f (h _ _ j)
 |left _ j f=>exact .left f (h _ _ j)
 |up _ j f=>exact .up f (h _ _ j)
 |down _ j f=>exact .down f (h _ _ j)
theorem aVE {c:aA} {x y f j:Int} (J:inq x y c) (I:inq f j c):Sj (fun a b=>inq a b c) x y f j:=by
 unfold inq at J I;have row:Sj (fun a b=>inq a b c) x y f y:=by
  by_cases q:x<=f
  ·exact Sj.row (f-x).toNat _ _ KI fun t G u=>by unfold inq;omega
  ·refine(Sj.back (Sj.row (C:=fun a b=>inq a b c) (x-f).toNat f x KI fun t G u=>?_) ?_).2<;>(show inq _ _ c;unfold inq;omega)
 have clm:Sj (fun a b=>inq a b c) f y f j:=by
  by_cases q:y<=j
  ·exact Sj.clm (j-y).toNat _ _ KI fun t G u=>by unfold inq;omega
  ·refine(Sj.back (Sj.clm (C:=fun a b=>inq a b c) (y-j).toNat j y KI fun t G u=>?_) ?_).2<;>(show inq _ _ c;unfold inq;omega)
 exact row.trans clm
def lh (cells R C:List aA):Prop:=(∀d∈cells,kB R C d=d.W*d.H)/\mU R-mU C-dG (kB R C) cells=0
theorem aY6 {l:List aA} (h:l.Pairwise mV):l.Pairwise fun a b=>∀x y,¬(inq x y a/\inq x y b):=
 h.imp fun {a b} k x y q=>by
  obtain⟨j,f⟩:=q;unfold inq at j f;unfold mV at k;omega
theorem aY5 {l:List aA} (h:l.Pairwise mO):l.Pairwise fun a b=>∀x y,¬(inq x y a/\inq x y b):=
 h.imp fun {a b} k x y q=>by
  obtain⟨j,f⟩:=q;unfold inq at j f;unfold mO at k;omega
section
variable {w h:Int} {cl:List aA} {ps:List Pce} (H:wW w h cl ps) {ls:List Seg} (hok:∀s∈ls,jY w h s) (hV:∀x y,cvV ls x y↔cvV (rF ps) x y) (hH:∀x y,cvH ls x y↔cvH (rF ps) x y)
include H hok hV hH
theorem aQP {i:Nat} (hi:i<ps.length):∃cells∈pF w h ls,lh cells (ps.getD i default).Rects (ps.getD i default).Cuts:=by
 have P:=H.pc _ (eF hi);have hw:0<w:=by have:=H.sheet;omega
 have hh:0<h:=by have:=H.sheet;omega
 have cV:∀x y,0<x->x<w->0<=y->y<h->(cvV ls x y↔kD ps x y≠kD ps (x-1) y):=fun x y _ _ _ _=>(hV x y).trans (Rn H x y).1
 have cH:∀x y,0<=x->x<w->0<y->y<h->(cvH ls x y↔kD ps x y≠kD ps x (y-1)):=fun x y _ _ _ _=>(hH x y).trans (Rn H x y).2
 have J:∀r∈(ps.getD i default).Rects,0<r.W/\0<r.H:=fun r j=>by
  have:=P.sm r j;unfold smR at this;omega
 have L:∀c∈(ps.getD i default).Cuts,0<c.W/\0<c.H:=fun c u=>by
  have:=P.smH c (QO.2 (.inl u));unfold smR at this;omega
 have I:∀c∈(ps.getD i default).Cuts,∃r∈(ps.getD i default).Rects,r.X<c.X/\r.Y<c.Y/\c.X+c.W<r.X+r.W/\c.Y+c.H<r.Y+r.H:=fun c u=>P.str c (QO.2 (.inl u))
 have f:(ps.getD i default).Cuts.Pairwise mO:=(List.pairwise_append.1 P.far).1;have hin:=H.ins _ (eF hi);have Z:=eF P.pos;obtain⟨z1,z2⟩:=J _ Z;have hsq:inq ((ps.getD i default).Rects.getD 0 default).X ((ps.getD i default).Rects.getD 0 default).Y ((ps.getD i default).Rects.getD 0 default):=by unfold inq;omega
 obtain⟨a,b,V⟩:=sw (ps.getD i default).Rects (ps.getD i default).Cuts ⟨_,Z,hsq⟩;have G:=sv _ _ L I f V;refine⟨_,xg w h ls hok (kD ps) hw hh cV cH (c:=((i:Int),(-1:Int))) ((Pp H hi a b).2 G) fun a' b' q=>?_,?_⟩
 ·exact(aQQ _ _ J L I f Z P.con G ((Pp H hi a' b').1 q)).mono fun x y k=>(Pp H hi x y).2 k
 ·refine aIA w h ls hok (kD ps) hw hh cV cH (fun r j=>?_) fun x y hx hy=>?_
  ·rcases QO.1 j with j|j
   ·have:=J r j;have:=hin r j;omega
   ·have:=L r j;obtain⟨s,V,k⟩:=I r j;have:=hin s V;omega
  ·unfold A7;rw[A6 (aY6 P.ap),A6 (aY5 f)];have e:kD ps x y=((i:Int),(-1:Int))↔tW (ps.getD i default).Rects (ps.getD i default).Cuts x y:=⟨fun q=>(Pp H hi x y).1 ⟨⟨hx,hy⟩,q⟩,fun q=>((Pp H hi x y).2 q).2⟩
   by_cases S:∃r∈(ps.getD i default).Rects,inq x y r
   ·by_cases O:∃c∈(ps.getD i default).Cuts,inq x y c
    ·rw[JQ S,JQ O,QF fun q=>by
      obtain⟨c,u,k⟩:=O;exact(e.1 q).2 c u k]
     rfl
    ·rw[JQ S,QF O,JQ (e.2 ⟨S,fun c u k=>O ⟨c,u,k⟩⟩)];rfl
   ·have O:¬∃c∈(ps.getD i default).Cuts,inq x y c:=fun ⟨c,u,k⟩=>S (ey H hi u k)
    rw[QF S,QF O,QF fun q=>S (e.1 q).1];rfl
theorem aVY {i:Nat} (hi:i<ps.length) {c:aA} (G:c∈(ps.getD i default).Cuts):∃cells∈pF w h ls,lh cells [c] []:=by
 have P:=H.pc _ (eF hi);have hw:0<w:=by have:=H.sheet;omega
 have hh:0<h:=by have:=H.sheet;omega
 have O:∀x y,0<x->x<w->0<=y->y<h->(cvV ls x y↔kD ps x y≠kD ps (x-1) y):=fun x y _ _ _ _=>(hV x y).trans (Rn H x y).1
 have S:∀x y,0<=x->x<w->0<y->y<h->(cvH ls x y↔kD ps x y≠kD ps x (y-1)):=fun x y _ _ _ _=>(hH x y).trans (Rn H x y).2
 have hcl:c∈oR ps:=List.mem_flatMap.2 ⟨_,eF hi,G⟩;obtain⟨m,hm,e⟩:=List.mem_iff_getElem.1 hcl;rw[<- nF _ hm] at e;have J:(oR ps).getD m default∈(ps.getD i default).Cuts:=by rw[e];exact G
 have u:=P.smH c (QO.2 (.inl G));have f:∀x y,rC w h (kD ps) ((i:Int),(m:Int)) x y↔inq x y c:=fun x y=>by
  have:=aZI H hi hm J x y;rw[e] at this;exact this
 have j:inq c.X c.Y c:=by unfold smR at u;unfold inq;omega
 refine⟨_,xg w h ls hok (kD ps) hw hh O S (c:=((i:Int),(m:Int))) ((f c.X c.Y).2 j) fun a' b' q=>?_,?_⟩
 ·exact(aVE j ((f a' b').1 q)).mono fun x y k=>(f x y).2 k
 ·refine aIA w h ls hok (kD ps) hw hh O S (fun r hr=>?_) fun x y Z V=>?_
  ·obtain rfl:r=c:=by simpa using hr
   obtain⟨s,I,k⟩:=P.str r (QO.2 (.inl G));have:=H.ins _ (eF hi) s I;unfold rW at k;unfold smR at u;omega
  ·have L:kD ps x y=((i:Int),(m:Int))↔inq x y c:=⟨fun q=>(f x y).1 ⟨⟨Z,V⟩,q⟩,fun q=>((f x y).2 q).2⟩;unfold A7;rw[A6 (List.pairwise_singleton _ c),A6 List.Pairwise.nil]
   by_cases q:inq x y c
   ·rw[JQ ⟨c,JJ.2 rfl,q⟩,QF (fun ⟨_,h,_⟩=>by cases h),JQ (L.2 q)];rfl
   ·rw[QF (fun ⟨s,I,k⟩=>q (by rw[<- JJ.1 I];exact k)),QF (fun ⟨_,h,_⟩=>by cases h),QF (fun k=>q (L.1 k))];rfl
end
def kT (w h:Int) (cl:List aA) (s:Seg):Prop:=jY w h s/\∀c∈cl,qU s c=false
def Cc (ps:List Pce) (s:Seg):Prop:=(s.Y1=s.Y2->∀x,s.X1<=x->x<s.X2->∃p∈ps,∃r∈p.Rects,inq x s.Y1 r\/inq x (s.Y1-1) r)/\(s.X1=s.X2->∀y,s.Y1<=y->y<s.Y2->∃p∈ps,∃r∈p.Rects,inq s.X1 y r\/inq (s.X1-1) y r)
theorem aIL {w h:Int} {cl:List aA} {ps:List Pce} (H:wW w h cl ps) (hcl:∀c∈cl,smR c) {s:Seg} (G:jY w h s) (hb:Cc ps s):kT w h cl s:=by
 refine⟨G,fun c J=>?_⟩;have L:=hcl c J;cases f:qU s c with
 |false=>rfl
 |true=>
  exfalso;unfold smR at L;have f:Fc s.X1 s.Y1 s.X2 s.Y2 c.X c.Y c.W c.H=true:=f;unfold Fc at f;rw[cN (n:=c.Y+c.H) KI KI,cN (n:=c.X+c.W) KI KI] at f;cases u:s.Y1==s.Y2 with
  |true=>
   have j:s.Y1=s.Y2:=by simpa using u
   rw[u,QY] at f;simp only[QW,JN] at f;obtain⟨p,hp,r,I,q⟩:=hb.1 j (max s.X1 c.X) KI (by
    rcases G.2 with k|k<;>omega)
   have:=H.clear p hp r I c J;unfold mV at this;rcases q with q|q<;>unfold inq at q<;>omega
  |false=>
   have j:s.Y1≠s.Y2:=by simpa using u
   rw[u,QK] at f;simp only[QW,JN] at f;have O:s.X1=s.X2:=by rcases G.2 with k|k<;>omega
   obtain⟨p,hp,r,I,q⟩:=hb.2 O (max s.Y1 c.Y) KI (by
    rcases G.2 with k|k<;>omega)
   have:=H.clear p hp r I c J;unfold mV at this;rcases q with q|q<;>unfold inq at q<;>omega
theorem xu (w h:Int) (cl:List aA):∀(a b:List Opn) (s:CSt),gT w h cl (a++b) s=(gT w h cl a s).bind (gT w h cl b):=by
 intro a
 induction a with
 |nil=>intro b s;rfl
 |cons o a f=>
  intro b s;show (opC w h cl o s).bind (gT w h cl (a++b))=((opC w h cl o s).bind (gT w h cl a)).bind (gT w h cl b);cases opC w h cl o s with
  |none=>rfl
  |some t=>exact f b t
section
variable {w h:Int} {cl:List aA}
theorem xz {x y:Int} (j:0<=x/\x<=w) (f:0<=y/\y<=h):onB w h x y=true:=by
 unfold onB;simp only[QW,JN];omega
theorem run_move {x y:Int} (j:0<=x/\x<=w) (f:0<=y/\y<=h) (s:CSt):opC w h cl (mvO 1 x y) s=some (x,y,s.2.2.1,s.2.2.2):=by
 show cond false _ (cond (true&&onB w h x y) (cond true _ _) none)=_;rw[xz j f];rfl
theorem bBQ {l:List aA} {f:aA->Bool} (h:∀c∈l,f c=false):l.any f=false:=JR.2 fun c j=>by rw[h c j];simp
theorem uv {k x y a b:Int} (J:k=2\/k=4) {s:Seg} (I:kT w h cl s) (he:mD x y a b=s) (f:0<=a/\a<=w/\0<=b/\b<=h) (u:oX x y a b=true) (L:List Seg) (S:List aA):opC w h cl (mvO k a b) (x,y,L,S)=some (a,b,L++[s],S):=by
 have G:(cl.any (qU s))=false:=bBQ I.2;have j:onB w h a b=true:=xz ⟨f.1,f.2.1⟩ f.2.2;rcases J with rfl|rfl
 ·show cond false _ (cond (true&&onB w h a b) (cond false _ (cond (oX x y a b&&!(cl.any (qU (mD x y a b)))) (some (a,b,L++[mD x y a b],S)) none)) none)=_;rw[j,he,G,u];rfl
 ·show cond false _ (cond (true&&onB w h a b) (cond false _ (cond (oX x y a b&&!(cl.any (qU (mD x y a b)))) (some (a,b,L++[mD x y a b],S)) none)) none)=_;rw[j,he,G,u];rfl
theorem tz {s:Seg} (u:jY w h s):mD s.X1 s.Y1 s.X2 s.Y2=s/\mD s.X2 s.Y2 s.X1 s.Y1=s/\oX s.X1 s.Y1 s.X2 s.Y2=true/\oX s.X2 s.Y2 s.X1 s.Y1=true:=by
 obtain⟨_,o⟩:=u;refine⟨La ?_ ?_ ?_ ?_,La ?_ ?_ ?_ ?_,?_,?_⟩
 ·show mi s.X1 s.X2=s.X1;rw[miE];omega
 ·show mi s.Y1 s.Y2=s.Y1;rw[miE];omega
 ·show ma s.X1 s.X2=s.X2;rw[maE];omega
 ·show ma s.Y1 s.Y2=s.Y2;rw[maE];omega
 ·show mi s.X2 s.X1=s.X1;rw[miE];omega
 ·show mi s.Y2 s.Y1=s.Y1;rw[miE];omega
 ·show ma s.X2 s.X1=s.X2;rw[maE];omega
 ·show ma s.Y2 s.Y1=s.Y2;rw[maE];omega
 ·unfold oX;rcases o with ⟨f,j⟩|⟨f,j⟩
  ·rw[KG.2 f,show (s.X1==s.X2)=false from JL.2 KI];rfl
  ·rw[KG.2 f,show (s.Y1==s.Y2)=false from JL.2 KI];rfl
 ·unfold oX;rcases o with ⟨f,j⟩|⟨f,j⟩
  ·rw[KG.2 f.symm,show (s.X2==s.X1)=false from JL.2 KI];rfl
  ·rw[KG.2 f.symm,show (s.Y2==s.Y1)=false from JL.2 KI];rfl
theorem O8 {k:Int} (j:k=2\/k=4) {s:Seg} (f:kT w h cl s) (L:List Seg) (S:List aA):opC w h cl (mvO k s.X2 s.Y2) (s.X1,s.Y1,L,S)=some (s.X2,s.Y2,L++[s],S):=by
 obtain⟨e1,_,u,_⟩:=tz f.1;have:=f.1.1;exact uv j f e1 KI u L S
theorem uw {k:Int} (j:k=2\/k=4) {s:Seg} (f:kT w h cl s) (L:List Seg) (S:List aA):opC w h cl (mvO k s.X1 s.Y1) (s.X2,s.Y2,L,S)=some (s.X1,s.Y1,L++[s],S):=by
 obtain⟨_,G,_,u⟩:=tz f.1;have:=f.1.1;exact uv j f G KI u L S
theorem aOd {r:aA} (I:smR r) (f:∀s∈jD r,kT w h cl s) (s:CSt):gT w h cl (Gs r) s=some (r.X,r.Y,s.2.2.1++jD r,s.2.2.2):=by
 unfold smR at I;have G:aB (r.X+r.W)=r.X+r.W:=cN KI KI;have u:aB (r.Y+r.H)=r.Y+r.H:=cN KI KI;have e:Gs r=[mvO 1 r.X r.Y,mvO 2 (r.X+r.W) r.Y,mvO 2 (r.X+r.W) (r.Y+r.H),mvO 2 r.X (r.Y+r.H),mvO 2 r.X r.Y]:=by
  show [mvO 1 r.X r.Y,mvO 2 (aB (r.X+r.W)) r.Y,mvO 2 (aB (r.X+r.W)) (aB (r.Y+r.H)),mvO 2 r.X (aB (r.Y+r.H)),mvO 2 r.X r.Y]=_;rw[G,u]
 have j:=f ⟨r.X,r.Y,r.X+r.W,r.Y⟩ (by simp[jD]);have O:=f ⟨r.X+r.W,r.Y,r.X+r.W,r.Y+r.H⟩ (by simp[jD]);have L:=f ⟨r.X,r.Y+r.H,r.X+r.W,r.Y+r.H⟩ (by simp[jD]);have J:=f ⟨r.X,r.Y,r.X,r.Y+r.H⟩ (by simp[jD]);have S:=j.1.1;simp only at S;rw[e];show (opC w h cl (mvO 1 r.X r.Y) s).bind (gT w h cl [mvO 2 (r.X+r.W) r.Y,mvO 2 (r.X+r.W) (r.Y+r.H),mvO 2 r.X (r.Y+r.H),mvO 2 r.X r.Y])=_;rw[run_move KI KI];show (opC w h cl (mvO 2 (r.X+r.W) r.Y) (r.X,r.Y,s.2.2.1,s.2.2.2)).bind (gT w h cl [mvO 2 (r.X+r.W) (r.Y+r.H),mvO 2 r.X (r.Y+r.H),mvO 2 r.X r.Y])=_;rw[O8 (.inl rfl) j s.2.2.1 s.2.2.2];show (opC w h cl (mvO 2 (r.X+r.W) (r.Y+r.H)) (r.X+r.W,r.Y,_,s.2.2.2)).bind (gT w h cl [mvO 2 r.X (r.Y+r.H),mvO 2 r.X r.Y])=_;rw[O8 (.inl rfl) O _ s.2.2.2];show (opC w h cl (mvO 2 r.X (r.Y+r.H)) (r.X+r.W,r.Y+r.H,_,s.2.2.2)).bind (gT w h cl [mvO 2 r.X r.Y])=_;rw[uw (.inl rfl) L _ s.2.2.2];show (opC w h cl (mvO 2 r.X r.Y) (r.X,r.Y+r.H,_,s.2.2.2)).bind (gT w h cl [])=_;rw[uw (.inl rfl) J _ s.2.2.2];show some (r.X,r.Y,_,s.2.2.2)=_;simp only[jD,KZ,List.cons_append,List.nil_append]
end
def oS (e:Edg):Int:=mi 720 (aB (Int.tdiv (aB ((aB ((aB (e.qaj-e.qaf))+e.qak))-e.qag)) 2))
def gD (e:Edg) (g:Int):Int×Int:=bU e.qaf e.qag e.qaj e.qak g
def qG (e:Edg) (g:Int):Seg:=⟨e.qaf,e.qag,(gD e g).1,(gD e g).2⟩
def zO (e:Edg) (g:Int):Seg:=⟨(gD e g).1,(gD e g).2,e.qaj,e.qak⟩
def eL (e:Edg) (b:Bool):List Seg×List Seg:=cond b (cond (oS e==0) ([qG e (oS e)],[]) ([qG e (oS e)],[zO e (oS e)])) ([qG e 0],[])
theorem aH1 (e:Edg) (b:Bool):edO e b=cond b (cond (oS e==0) ([mvO 1 e.qaf e.qag,mvO 2 (gD e (oS e)).1 (gD e (oS e)).2],[]) ([mvO 1 e.qaf e.qag,mvO 2 (gD e (oS e)).1 (gD e (oS e)).2],[mvO 1 (gD e (oS e)).1 (gD e (oS e)).2,mvO 4 e.qaj e.qak])) ([mvO 1 e.qaf e.qag,mvO 2 (gD e 0).1 (gD e 0).2],[]):=rfl
theorem fj {e:Edg} (h:okE e):0<=oS e/\oS e<(e.qaj-e.qaf)+(e.qak-e.qag):=by
 obtain⟨f,⟨S,O⟩,⟨L,J⟩,⟨I,G⟩,u,j⟩:=h;grind [oS,cN,miE]
theorem O1 {e:Edg} (h:okE e) {g:Int} (j:0<=g) (f:g<(e.qaj-e.qaf)+(e.qak-e.qag)):(e.qag=e.qak/\e.qaf<e.qaj/\(gD e g).1=e.qaj-g/\(gD e g).2=e.qak)\/(e.qaf=e.qaj/\e.qag<e.qak/\(gD e g).1=e.qaj/\(gD e g).2=e.qak-g):=by
 obtain⟨k,⟨V,S⟩,⟨O,L⟩,⟨J,I⟩,G,u⟩:=h;grind [gD,bU,cN]
theorem aTd {e:Edg} (h:okE e) (x y:Int):(cvV [qG e 0] x y↔cvV [iI e] x y)/\(cvH [qG e 0] x y↔cvH [iI e] x y):=by
 simp only[kz,lg];unfold iI qG;rcases O1 h (g:=0) KI (by have:=fj h;omega) with ⟨u,j,f,k4⟩|⟨u,j,f,k4⟩<;>rw[f,k4]<;>simp only[]<;>constructor<;>omega
theorem bA3 {e:Edg} (h:okE e) {g:Int} (j:0<=g) (f:g<(e.qaj-e.qaf)+(e.qak-e.qag)) (x y:Int):(cvV [qG e g] x y\/cvV [zO e g] x y↔cvV [iI e] x y)/\(cvH [qG e g] x y\/cvH [zO e g] x y↔cvH [iI e] x y):=by
 grind [kz,lg,iI,qG,zO,O1]
def K1 (C:List Seg->Prop):Prop:=(C []↔False)/\∀a b,C (a++b)↔C a\/C b
theorem aI8 (x y:Int):K1 fun l=>cvV l x y:=⟨⟨Zz x y,False.elim⟩,fun a b=>Hm a b x y⟩
theorem aI9 (x y:Int):K1 fun l=>cvH l x y:=⟨⟨A0 x y,False.elim⟩,fun a b=>Hn a b x y⟩
theorem aH5 {e:Edg} (h:okE e) (b:Bool) (x y:Int):(cvV (eL e b).1 x y\/cvV (eL e b).2 x y↔cvV [iI e] x y)/\(cvH (eL e b).1 x y\/cvH (eL e b).2 x y↔cvH [iI e] x y):=by
 obtain⟨G,u⟩:=fj h;have f:=(aI8 x y).1;have j:=(aI9 x y).1;grind [eL,aTd,bA3]
theorem bAo {ps:List Pce} {s t:Seg} (hb:Cc ps s) (h:(t.Y1=t.Y2/\t.X1<t.X2/\s.Y1=s.Y2/\t.Y1=s.Y1/\s.X1<=t.X1/\t.X2<=s.X2)\/(t.X1=t.X2/\t.Y1<t.Y2/\s.X1=s.X2/\t.X1=s.X1/\s.Y1<=t.Y1/\t.Y2<=s.Y2)):Cc ps t:=by
 rcases h with ⟨I,G,j,f,u,h6⟩|⟨I,G,j,f,u,h6⟩
 ·refine⟨fun _ x a b=>?_,fun q=>KI⟩;rw[f];exact hb.1 j x KI KI
 ·refine⟨fun q=>KI,fun _ x a b=>?_⟩;rw[f];exact hb.2 j x KI KI
theorem aYR {w h:Int} {cl:List aA} {ps:List Pce} (H:wW w h cl ps) (hcl:∀c∈cl,smR c) {e:Edg} (he:okE e) (J:jY w h (iI e)) (hb:Cc ps (iI e)) (b:Bool):∀s∈(eL e b).1++(eL e b).2,kT w h cl s:=by
 have f:=J.1;unfold iI at f;dsimp only at f;have q:∀t:Seg,(t.Y1=t.Y2/\t.X1<t.X2/\e.qag=e.qak/\t.Y1=e.qag/\e.qaf<=t.X1/\t.X2<=e.qaj)\/(t.X1=t.X2/\t.Y1<t.Y2/\e.qaf=e.qaj/\t.X1=e.qaf/\e.qag<=t.Y1/\t.Y2<=e.qak)->kT w h cl t:=fun t I=>aIL H hcl (by unfold jY;omega) (bAo hb I)
 have V:∀g:Int,0<=g->g<(e.qaj-e.qaf)+(e.qak-e.qag)->kT w h cl (qG e g)/\(g≠0->kT w h cl (zO e g)):=fun g S O=>by
  rcases O1 he S O with ⟨G,u,j,k4⟩|⟨G,u,j,k4⟩
  ·exact⟨q _ (.inl (show e.qag=(gD e g).2/\e.qaf<(gD e g).1/\e.qag=e.qak/\e.qag=e.qag/\e.qaf<=e.qaf/\(gD e g).1<=e.qaj from KI)),
    fun L=>q _ (.inl (show (gD e g).2=e.qak/\(gD e g).1<e.qaj/\e.qag=e.qak/\(gD e g).2=e.qag/\e.qaf<=(gD e g).1/\e.qaj<=e.qaj from KI))⟩
  ·exact⟨q _ (.inr (show e.qaf=(gD e g).1/\e.qag<(gD e g).2/\e.qaf=e.qaj/\e.qaf=e.qaf/\e.qag<=e.qag/\(gD e g).2<=e.qak from KI)),
    fun L=>q _ (.inr (show (gD e g).1=e.qaj/\(gD e g).2<e.qak/\e.qaf=e.qaj/\(gD e g).1=e.qaf/\e.qag<=(gD e g).2/\e.qak<=e.qak from KI))⟩
 obtain⟨g0,g1⟩:=fj he;intro s Z;grind [eL]
def oI (w h:Int) (cl:List aA) (o:List Opn) (L:List Seg):Prop:=∀s:CSt,∃x y,gT w h cl o s=some (x,y,s.2.2.1++L,s.2.2.2)
section
variable {w h:Int} {cl:List aA}
theorem Lb:oI w h cl [] []:=fun s=>⟨s.1,s.2.1,by rw[JP];rfl⟩
theorem Ae {a b:List Opn} {L M:List Seg} (f:oI w h cl a L) (hb:oI w h cl b M):oI w h cl (a++b) (L++M):=fun s=>by
 obtain⟨x,y,e⟩:=f s;obtain⟨u,j,G⟩:=hb (x,y,s.2.2.1++L,s.2.2.2);grind [xu]
theorem aOi {x y:Int} (j:0<=x/\x<=w) (f:0<=y/\y<=h):oI w h cl [mvO 1 x y] []:=fun s=>⟨x,y,by
 grind [gT,run_move]⟩
theorem vd {k:Int} (j:k=2\/k=4) {s:Seg} (f:kT w h cl s):oI w h cl [mvO 1 s.X1 s.Y1,mvO k s.X2 s.Y2] [s]:=fun t=>⟨s.X2,s.Y2,by
 have hb:=f.1.1;grind [gT,run_move,O8]⟩
theorem aOj {r:aA} (f:smR r) (j:∀s∈jD r,kT w h cl s):oI w h cl (Gs r) (jD r):=fun s=>⟨r.X,r.Y,aOd f j s⟩
theorem aOk {e:Edg} {b:Bool} (j:∀s∈(eL e b).1++(eL e b).2,kT w h cl s):oI w h cl (edO e b).1 (eL e b).1/\oI w h cl (edO e b).2 (eL e b).2:=by
 have m:∀g:Int,kT w h cl (qG e g)->oI w h cl [mvO 1 e.qaf e.qag,mvO 2 (gD e g).1 (gD e g).2] [qG e g]:=fun g f=>vd (s:=qG e g) (.inl rfl) f
 have k:∀g:Int,kT w h cl (zO e g)->oI w h cl [mvO 1 (gD e g).1 (gD e g).2,mvO 4 e.qaj e.qak] [zO e g]:=fun g f=>vd (s:=zO e g) (.inr rfl) f
 grind [aH1,eL,Lb]
end
theorem wQ {c:Bool} {e:Int} {X:gA} (h:(cond c (oT e) X).2.2.2.2.2=0) (he:e≠0):c=false/\X.2.2.2.2.2=0:=by
 cases c with
 |false=>grind
 |true=>exact absurd h he
theorem aHb {w h:Int} {cl:List aA} {ps:List Pce} {es:List Edg} {f:List Bool} {G:zzB} {J:List Bool} {u:zzI} {I:List Bool} {p k j x y:Int} (L:(doT w h cl ps es f G J u I p k j x y).2.2.2.2.2=0):
  doT w h cl ps es f G J u I p k j x y=lN es ps.length f G J u I p k j/\vZ w h cl ps es f p k x y=true:=by
 unfold doT at L ⊢;obtain⟨a1,S⟩:=wQ L (by decide);obtain⟨a2,O⟩:=wQ S (by decide);obtain⟨Z,V⟩:=wQ O (by decide);grind
theorem ko {w h:Int} {cl:List aA} {ps:List Pce} {es:List Edg} {f:List Bool} {G:zzB} {J:List Bool} {u:zzI} {I:List Bool} {p k j x y:Int} (L:(doS w h cl ps es f G J u I p k j x y).2.2.2.2.2=0):
  doS w h cl ps es f G J u I p k j x y=lN es ps.length f G J u I p k j/\vZ w h cl ps es f p k x y=true:=by
 unfold doS at L ⊢;obtain⟨a1,h1⟩:=wQ L (by decide);obtain⟨a2,Z⟩:=wQ h1 (by decide);obtain⟨a3,V⟩:=wQ Z (by decide);obtain⟨a4,S⟩:=wQ V (by decide);obtain⟨a5,O⟩:=wQ S (by decide);rw[a1,a2,a3,a4,a5];simp only[QK];cases c6:decide (0<=k) with
 |true=>
  rw[c6,QY] at O;obtain⟨a6,h6⟩:=wQ O (by decide);grind [aHb]
 |false=>
  grind [aHb]
theorem aM4 {l:List Bool} {i j:Nat}:(l.set i true).getD j default=true↔l.getD j default=true\/(i=j/\j<l.length):=by
 grind
theorem zy (es:List Edg) (p:Int) {j:Nat}:∀(l:List Nat) (f:List Bool),(l.foldl (yT es p) f).getD j default=true↔f.getD j default=true\/(j∈l/\j<f.length/\ofB (es.getD j default) p=true):=by
 intro l
 induction l with
 |nil=>grind
 |cons i l u=>
  intro f;rw[JY,u];grind [yT]
def fh (w h:Int) (cl:List aA) (e:Edg):Prop:=okE e/\∀b,∀s∈(eL e b).1++(eL e b).2,kT w h cl s
def gdC (es:List Edg) (C:List Seg->Prop):Prop:=K1 C/\∀e∈es,∀b,(C (eL e b).1\/C (eL e b).2↔C [iI e])
def vT (es:List Edg) (f:List Bool) (p:Int) (i:Nat):Bool:=!(f.getD i default)&&ofB (es.getD i default) p
theorem aH0 (es:List Edg) (f:List Bool) (p:Int) (s:o0) (i:Nat):oU es f p s i=cond (vT es f p i) (aB (s.1-1),s.2.1++(edO (es.getD i default) (decide (0<s.1))).1,s.2.2++(edO (es.getD i default) (decide (0<s.1))).2) s:=by
 grind [oU,vT,ofB,xX]
theorem aXr (e:Edg) (b:Bool):(edO e b).1.length+(edO e b).2.length<=4:=by
 grind [Zt]
section
variable {w h:Int} {cl:List aA} {es:List Edg} (hE:∀e∈es,fh w h cl e)
include hE
theorem aXn (f:List Bool) (p:Int):∀(l:List Nat),(∀i∈l,i<es.length)->∀s:o0,∃A B L M,(l.foldl (oU es f p) s).2.1=s.2.1++A/\(l.foldl (oU es f p) s).2.2=s.2.2++B/\oI w h cl A L/\oI w h cl B M/\(∀t∈L++M,kT w h cl t)/\A.length+B.length<=4*(l.filter (vT es f p)).length/\∀C,gdC es C->(C L\/C M↔∃i∈l,vT es f p i=true/\C [iI (es.getD i default)]):=by
 intro l
 induction l with
 |nil=>
  intro _ s;refine⟨[],[],[],[],(JP _).symm,(JP _).symm,Lb,Lb,fun t G=>(by cases G),XQ,fun C hC=>?_⟩;rw[hC.1.1];grind
 |cons i l V=>
  intro I s;have hi:=I i (QI ..);have u:∀j∈l,j<es.length:=fun j Z=>I j (QA _ Z)
  rw[JY,aH0];cases hb:vT es f p i with
  |false=>
   simp_all
  |true=>
   rw[QY];have he:=eF hi;have J:=aXr (es.getD i default) (decide (0<s.1));have hg:=(hE _ he).2 (decide (0<s.1));obtain⟨S,O⟩:=aOk hg;obtain⟨A,B,L,M,h1,h2,h3,h4,h5,h6,h7⟩:=V u (aB (s.1-1),s.2.1++(edO (es.getD i default) (decide (0<s.1))).1,s.2.2++(edO (es.getD i default) (decide (0<s.1))).2);refine⟨_,_,_,_,by grind,by grind,Ae S h3,Ae O h4,fun t G=>?_,?_,fun C hC=>?_⟩
   ·grind
   ·grind
   ·have q:=h7 C hC;have k:=hC.2 _ he (decide (0<s.1));rw[hC.1.2,hC.1.2];grind
end
theorem aOp {α:Type} [Inhabited α] {l:List α} {i j:Nat} {v:α} (h:i≠j):(l.set i v).getD j default=l.getD j default:=by
 grind
def edC (es:List Edg) (f:List Bool) (C:List Seg->Prop):Prop:=∃i,i<es.length/\f.getD i default=true/\C [iI (es.getD i default)]
def hoC (ps:List Pce) (f:zzB) (C:List Seg->Prop):Prop:=∃p,p<ps.length/\∃k,k<(ps.getD p default).Cuts.length/\(f.getD p default).getD k default=true/\C (jD ((ps.getD p default).Cuts.getD k default))
def Pr (es:List Edg) (f:List Bool):Nat:=((List.range' 0 es.length).filter fun i=>f.getD i default).length
theorem filter_or {α:Type} (f g:α->Bool):∀l:List α,(l.filter fun i=>f i||g i).length=(l.filter f).length+(l.filter fun i=>!f i&&g i).length:=by
 intro l
 induction l with
 |nil=>rfl
 |cons x l j=>
  grind
def Jf (w h:Int) (cl:List aA) (ps:List Pce) (es:List Edg) (S0:List Opn) (n:Nat) (t:Ic):Prop:=∃A L M,t.2.1=S0++A/\oI w h cl A L/\oI w h cl t.2.2 M/\(∀s∈L++M,kT w h cl s)/\A.length+t.2.2.length<=6*n+4*Pr es t.1.1/\∀C,gdC es C->(C L\/C M↔edC es t.1.1 C\/hoC ps t.1.2.1 C)
def Pj (ps:List Pce) (es:List Edg) (s:gA):Prop:=∀p,p<ps.length->s.2.2.1.getD p default=true->∀i,i<es.length->ofB (es.getD i default) p=true->s.1.getD i default=true
theorem aUI {w h:Int} {cl:List aA} {ps:List Pce} {es:List Edg} {J:List Bool} {p k x y:Int} (f:vZ w h cl ps es J p k x y=true) (G:0<=k->smR ((ps.getD p.toNat default).Cuts.getD k.toNat default)/\∀s∈jD ((ps.getD p.toNat default).Cuts.getD k.toNat default),kT w h cl s):(0<=x/\x<=w)/\0<=y/\y<=h:=by
 unfold vZ at f;cases u:decide (0<=k) with
 |true=>
  obtain⟨I,j⟩:=G (JU u);rw[u,QY] at f;generalize (ps.getD p.toNat default).Cuts.getD k.toNat default=r at I j f;have g:=(j ⟨r.X,r.Y,r.X+r.W,r.Y⟩ (by simp[jD])).1.1;have L:=(j ⟨r.X,r.Y+r.H,r.X+r.W,r.Y+r.H⟩ (by simp[jD])).1.1;grind [smR,aDF,cN]
 |false=>
  grind [ar]
section
variable {w h:Int} {cl:List aA} {ps:List Pce} {es:List Edg} (hE:∀e∈es,fh w h cl e) (hH:∀p∈ps,∀c∈p.Cuts,smR c/\∀s∈jD c,kT w h cl s)
include hE hH
theorem aUo {S0:List Opn} {n:Nat} {t:Ic} {x:Itm} (hz:(eP w h cl ps es t.1 x).2.2.2.2.2=0) (hi:Jf w h cl ps es S0 n t):Jf w h cl ps es S0 (n+1) (mM (eP w h cl ps es) ps es t x):=by
 obtain⟨hf,p1,p2,k1,k2,_,_⟩:=Zx hz;obtain⟨f1,f2,f3,f4,f5,f6⟩:=Pb hf;obtain⟨e0,I⟩:=ko hz;have f:eP w h cl ps es t.1 x=lN es ps.length t.1.1 t.1.2.1 t.1.2.2.1 t.1.2.2.2.1 t.1.2.2.2.2.1 x.Piece x.Hole x.Joints:=e0;have V:x.Piece.toNat<ps.length:=KI;have S:=eF V;have j:0<=x.Hole->smR ((ps.getD x.Piece.toNat default).Cuts.getD x.Hole.toNat default)/\∀s∈jD ((ps.getD x.Piece.toNat default).Cuts.getD x.Hole.toNat default),kT w h cl s:=fun u=>hH _ S _ (eF KI)
 obtain⟨o1,o2⟩:=aUI I j;have G:=aOi (cl:=cl) o1 o2;obtain⟨A,L,M,i1,i2,i3,i4,i5,i6⟩:=hi;unfold mM Jf;cases u:decide (0<=x.Hole) with
 |true=>
  have hk':=JU u;obtain⟨c1,c2⟩:=j hk';rw[QY];dsimp only;have J:(eP w h cl ps es t.1 x).1=t.1.1:=by rw[f];unfold lN;rw[u];rfl
  have O:(eP w h cl ps es t.1 x).2.1=t.1.2.1.set x.Piece.toNat ((t.1.2.1.getD x.Piece.toNat default).set x.Hole.toNat true):=by rw[f];unfold lN;rw[u];rfl
  rw[J,O];refine⟨_,_,_,by grind,Ae i2 (Ae G (aOj c1 c2)),i3,fun s hs=>?_,?_,fun C hC=>?_⟩
  ·grind
  ·grind [ez]
  ·have q:=i6 C hC;rw[hC.1.2,hC.1.2,hC.1.1,false_or];have hh:hoC ps (t.1.2.1.set x.Piece.toNat ((t.1.2.1.getD x.Piece.toNat default).set x.Hole.toNat true)) C↔hoC ps t.1.2.1 C\/C (jD ((ps.getD x.Piece.toNat default).Cuts.getD x.Hole.toNat default)):=by
    unfold hoC;constructor
    ·grind
    grind [aOp]
   grind
 |false=>
  rw[QK];dsimp only;have J:(eP w h cl ps es t.1 x).1=qF es x.Piece t.1.1:=by rw[f];unfold lN;rw[u];rfl
  have O:(eP w h cl ps es t.1 x).2.1=t.1.2.1:=by rw[f];unfold lN;rw[u];rfl
  rw[J,O];obtain⟨A',B',L',M',j1,j2,j3,j4,j5,j6,j7⟩:=aXn hE t.1.1 x.Piece (List.range' 0 es.length) (fun i hi=>by grind) (x.Joints,t.2.1++[mvO 1 x.Lead_X x.Lead_Y],t.2.2);unfold Pg;rw[j1,j2];dsimp only;have hct:∀i,i<es.length->((qF es x.Piece t.1.1).getD i default=true↔t.1.1.getD i default=true\/ofB (es.getD i default) x.Piece=true):=fun i hi=>by
   grind [qF,zy]
  refine⟨_,_,_,by grind,Ae i2 (Ae G j3),Ae i3 j4,fun s hs=>?_,?_,fun C hC=>?_⟩
  ·grind
  ·have hcnt:Pr es (qF es x.Piece t.1.1)=Pr es t.1.1+((List.range' 0 es.length).filter (vT es t.1.1 x.Piece)).length:=by
    unfold Pr;have Z:=filter_or (fun i=>t.1.1.getD i default) (fun i=>ofB (es.getD i default) x.Piece) (List.range' 0 es.length);refine QG ?_ Z;congr 1;refine List.filter_congr fun i hi=>?_
    grind
   grind
  ·have q:=i6 C hC;have q':=j7 C hC;have he:edC es (qF es x.Piece t.1.1) C↔edC es t.1.1 C\/∃i∈List.range' 0 es.length,vT es t.1.1 x.Piece i=true/\C [iI (es.getD i default)]:=by
    grind [edC,vT]
   rw[hC.1.2,hC.1.2,hC.1.2,hC.1.1,false_or,he];grind
omit hE hH in
theorem aUp {s:gA} {x:Itm} (I:(eP w h cl ps es s x).2.2.2.2.2=0) (hi:Pj ps es s):Pj ps es (eP w h cl ps es s x):=by
 obtain⟨hf,L,J,S,O,_,_⟩:=Zx I;obtain⟨f1,f2,f3,f4,f5,Z⟩:=Pb hf;have f:eP w h cl ps es s x=lN es ps.length s.1 s.2.1 s.2.2.1 s.2.2.2.1 s.2.2.2.2.1 x.Piece x.Hole x.Joints:=(ko I).1;rw[f];unfold lN;cases V:decide (0<=x.Hole) with
 |true=>exact hi
 |false=>
  rw[QK];intro p hp j i G u;show (qF es x.Piece s.1).getD i default=true;unfold qF;rw[zy];rcases aM4.1 (show (s.2.2.1.set x.Piece.toNat true).getD p default=true from j) with j|⟨e,_⟩
  ·exact .inl (hi p hp j i G u)
  grind
theorem aUn {S0:List Opn}:∀(l:List Itm) (n:Nat) (t:Ic),accept (eP w h cl ps es) l t.1->Jf w h cl ps es S0 n t->Pj ps es t.1->Jf w h cl ps es S0 (n+l.length) (l.foldl (mM (eP w h cl ps es) ps es) t)/\Pj ps es (l.foldl (eP w h cl ps es) t.1)/\(l.foldl (mM (eP w h cl ps es) ps es) t).1=l.foldl (eP w h cl ps es) t.1:=by
 intro l
 induction l with
 |nil=>grind
 |cons x l f=>
  intro n t j u I;obtain⟨G,J⟩:=j;have e:(mM (eP w h cl ps es) ps es t x).1=eP w h cl ps es t.1 x:=by
   grind [mM]
  have:=f (n+1) (mM (eP w h cl ps es) ps es t x) (by grind) (aUo hE hH G u) (by grind [aUp]);rw[e] at this;rw[JY,JY,QN,show n+(l.length+1)=n+1+l.length by omega];omega
end
theorem ve (D:gA->Itm->gA):∀(l:List Itm) (i:Nat) (s:gA),accept D l s->yD D l i s=vI (l.foldl D s) 0 0:=by
 intro l
 induction l with
 |nil=>intro i s _;rfl
 |cons x l f=>
  intro i s h;unfold yD;rw[h.1];exact f _ _ h.2
theorem yk {α:Type} [DecidableEq α]:∀(l m:List α),l.Pairwise (·≠·)->(∀x∈l,x∈m)->l.length<=m.length:=by
 intro l
 induction l with
 |nil=>grind
 |cons x l G=>
  intro m hp hm;obtain⟨u,j⟩:=List.pairwise_cons.1 hp;have I:=hm x (QI ..);have:=G (m.erase x) j fun y f=>(List.mem_erase_of_ne (fun e=>u y f e.symm)).2 (hm y (QA _ f))
  grind
def Hv (f:Int->Int×Int) (l:zzI) (b u v:Int):Prop:=u≠v/\∃j,j+1<l.length/\b=l.getD j default/\f (l.getD j default)=(u,v)/\(j=0\/f (l.getD (j-1) default)≠(u,v))
theorem aI4 (mk:Int->Int->Int->Int->Edg) (f:Int->Int×Int) (l:zzI):∀(k i:Nat) (b one j:Int),i+k=l.length->(i=0\/i=l.length\/f (l.getD (i-1) default)=(one,j))->(one≠j->Hv f l b one j)->∀e∈alF mk b one j ((gZ f l).drop i),∃O n' u v,e=mk O n' u v/\Hv f l O u v:=by
 intro k
 induction k with
 |zero=>
  intro i b one j hi _ _ e he;rw[show (gZ f l).drop i=[] by grind [Td]] at he;cases he
 |succ k S=>
  intro i b one j hi hp hb e he;have J:i<l.length:=KI;rw[L8 f l i J] at he;obtain⟨a,c,L⟩:∃a c,cond (decide (i+1<l.length)) (f (l.getD i default)) (-1, -1)=(a,c):=⟨_,_,rfl⟩;rw[L] at he;have G:i+1=0\/i+1=l.length\/f (l.getD (i+1-1) default)=(a,c):=by
   grind
  unfold alF at he;cases V:(a==one)&&(c==j) with
  |true=>
   grind
  |false=>
   rw[V,QK] at he;rcases QO.1 he with he|he
   ·grind
   ·refine S (i+1) _ a c KI G (fun I=>⟨I,i,?_,rfl,?_,?_⟩) e he
    ·grind
    ·grind
    grind
theorem aI3 {mk:Int->Int->Int->Int->Edg} {lo:Edg->Int} (G:∀b n u v,lo (mk b n u v)=b):∀(l:List (Int×Int×Int)) (b one f:Int),(l.Pairwise fun x y=>x.1<y.1)->(one=f\/∀x∈l,b<x.1)->(alF mk b one f l).Pairwise (fun e j=>lo e<lo j)/\∀e∈alF mk b one f l,(one≠f/\lo e=b)\/∃x∈l,lo e=x.1:=by
 intro l
 induction l with
 |nil=>exact fun b one f _ _=>⟨.nil,fun e he=>by cases he⟩
 |cons x l I=>
  grind [List.pairwise_cons,alF]
theorem aWc {α β:Type} (f:α->List β):∀(l:List α) (m:List β),l.foldl (fun m y=>m++f y) m=m++l.flatMap f:=by
 intro l
 induction l with
 |nil=>grind
 |cons x l j=>grind
theorem bBI {l:List aA} (h:l.Pairwise mV) {r s:aA} (j:r∈l) (f:s∈l) {x y:Int} (G:inq x y r) (u:inq x y s):r=s:=by
 grind [List.mem_iff_getElem,mV,inq,List.pairwise_iff_getElem]
def zF (ps:List Pce):List (Int×Int):=(ps.flatMap Pce.Rects).flatMap fun r=>[(r.X,r.Y),(r.X,r.Y+r.H),(r.X+r.W,r.Y),(r.X+r.W,r.Y+r.H)]
theorem aHm {ps:List Pce} {p:Pce} (hp:p∈ps) {r:aA} (u:r∈p.Rects) {x y:Int} (j:x=r.X\/x=r.X+r.W) (f:y=r.Y\/y=r.Y+r.H):(x,y)∈zF ps:=by
 grind [zF]
theorem Ba (ps:List Pce) (x y:Int):lab ps x y= -1\/∃i,i<ps.length/\lab ps x y=(i:Int):=by
 grind [aDU,lab]
section
variable {w h:Int} {cl:List aA} {ps:List Pce} (H:wW w h cl ps)
include H
theorem aGs {ax ay bx b_ cx cy dx dy:Int} (K:∀p∈ps,∀r∈p.Rects,(inq ax ay r->¬inq bx b_ r->inq cx cy r)/\(inq bx b_ r->¬inq ax ay r->inq dx dy r)/\(inq dx dy r->¬inq bx b_ r->inq cx cy r)/\(inq cx cy r->¬inq ax ay r->inq dx dy r)/\(inq ax ay r->inq dx dy r->inq bx b_ r)/\(inq bx b_ r->inq cx cy r->inq ax ay r)) (I:lab ps ax ay≠lab ps bx b_):lab ps ax ay=lab ps cx cy/\lab ps bx b_=lab ps dx dy:=by
 have J:∀{i:Nat} (hi:i<ps.length) {x y:Int},lab ps x y=(i:Int)->∃r∈(ps.getD i default).Rects,inq x y r:=@fun i hi x y e=>(sJ H hi x y).1 e
 have same:∀{i j:Nat} (hi:i<ps.length) (f:j<ps.length) {r s:aA},r∈(ps.getD i default).Rects->s∈(ps.getD j default).Rects->∀{x y:Int},inq x y r->inq x y s->r=s:=@fun i j hi f r s G u x y h1 h2=>by
  have e:=aw H hi f G u h1 h2;subst e;exact bBI (H.pc _ (eF hi)).ap G u h1 h2
 rcases Ba ps ax ay with L|⟨i,hi,L⟩
 ·rcases Ba ps bx b_ with hb|⟨j,f,hb⟩
  ·omega
  ·obtain⟨s,u,q⟩:=J f hb;have Z:¬inq ax ay s:=fun k=>I (((sJ H f ax ay).2 ⟨s,u,k⟩).trans hb.symm)
   have O:=(K _ (eF f) s u).2.1 q Z;have ed:=(sJ H f dx dy).2 ⟨s,u,O⟩;refine⟨?_,hb.trans ed.symm⟩;rcases Ba ps cx cy with S|⟨m,hm,S⟩
   ·omega
   grind [sJ]
 ·obtain⟨r,G,q⟩:=J hi L;have V:¬inq bx b_ r:=fun k=>I (L.trans ((sJ H hi bx b_).2 ⟨r,G,k⟩).symm)
  have S:=(K _ (eF hi) r G).1 q V;have ec:=(sJ H hi cx cy).2 ⟨r,G,S⟩;refine⟨L.trans ec.symm,?_⟩;rcases Ba ps bx b_ with hb|⟨j,f,hb⟩
  ·rcases Ba ps dx dy with O|⟨m,hm,O⟩
   ·omega
   grind [sJ]
  grind [sJ]
theorem aOz:(ps.flatMap Pce.Rects).length<=96:=by
 have f:∀l:List Pce,(∀p∈l,p.Rects.length<=12)->(l.flatMap Pce.Rects).length<=12*l.length:=by
  intro l
  induction l with
  |nil=>grind
  |cons p l j=>
   grind
 have:=f ps fun p hp=>(H.pc p hp).len.1
 have:=H.few;omega
theorem aHn:(zF ps).length<=384:=by
 have f:∀l:List aA,(l.flatMap fun r:aA=>[(r.X,r.Y),(r.X,r.Y+r.H),(r.X+r.W,r.Y),(r.X+r.W,r.Y+r.H)]).length=4*l.length:=by
  intro l
  induction l with
  |nil=>rfl
  |cons p l j=>grind
 grind [zF,aOz]
omit H in
theorem aTY {z b n u v p:Int} (h:u=p\/v=p):ofB (kM z b n u v) p=true:=by
 grind [ofB,kM,gH,xX]
omit H in
theorem aTX {z b n u v p:Int} (h:u=p\/v=p):ofB (kL z b n u v) p=true:=by
 grind [ofB,kL,gH,xX]
omit H in
theorem xj {x y j f:Int} {u v:Int} (I:(lab ps x y,lab ps j f)=(u,v)) (G:u≠v):∃p,p<ps.length/\(u=(p:Int)\/v=(p:Int)):=by
 grind [Ba]
theorem bAu {xs:zzI} (ax:asc xs) (V:∀p∈ps,∀r∈p.Rects,r.X∈xs/\aB (r.X+r.W)∈xs) {y:Int} (J:aB (y-1)=y-1) {b u v:Int} (hb:Hv (tV ps y) xs b u v):(b,y)∈zF ps:=by
 obtain⟨O,j,Z,rfl,G,f⟩:=hb;refine Classical.byContradiction fun hn=>?_
 unfold tV at G f;rw[J] at G f;obtain⟨e1,e2⟩:=Prod.mk.inj G;have I:(lab ps (xs.getD j default-1) y,lab ps (xs.getD j default-1) (y-1))≠(u,v):=by
  by_cases L:j=0
  ·grind [pW,aDR]
  ·have h1:=f.resolve_left L;have S:=mS ax (show j-1<j by omega) KI;have g:∀z,lab ps (xs.getD j default-1) z=lab ps (xs.getD (j-1) default) z:=fun z=>by
    grind [lab,uC,Vt]
   grind
 have K:=aGs H (ax:=xs.getD j default) (ay:=y) (bx:=xs.getD j default) (b_:=y-1) (cx:=xs.getD j default-1) (cy:=y) (dx:=xs.getD j default-1) (dy:=y-1) (fun p hp r hr=>by
  grind [aHm,inq]) KI
 grind
theorem bAt {ys:zzI} (ay:asc ys) (V:∀p∈ps,∀r∈p.Rects,r.Y∈ys/\aB (r.Y+r.H)∈ys) {x:Int} (J:aB (x-1)=x-1) {b u v:Int} (hb:Hv (tU ps x) ys b u v):(x,b)∈zF ps:=by
 obtain⟨O,j,Z,rfl,G,f⟩:=hb;refine Classical.byContradiction fun hn=>?_
 unfold tU at G f;rw[J] at G f;obtain⟨e1,e2⟩:=Prod.mk.inj G;have I:(lab ps x (ys.getD j default-1),lab ps (x-1) (ys.getD j default-1))≠(u,v):=by
  by_cases L:j=0
  ·grind [pW,aDQ]
  ·have h1:=f.resolve_left L;have S:=mS ay (show j-1<j by omega) KI;have g:∀z,lab ps z (ys.getD j default-1)=lab ps z (ys.getD (j-1) default):=fun z=>by
    grind [lab,uC,Vs]
   grind
 have K:=aGs H (ax:=x) (ay:=ys.getD j default) (bx:=x-1) (b_:=ys.getD j default) (cx:=x) (cy:=ys.getD j default-1) (dx:=x-1) (dy:=ys.getD j default-1) (fun p hp r hr=>by
  grind [aHm,inq]) KI
 grind
theorem aHW:(∀e∈eQ ps,∃p,p<ps.length/\ofB e (p:Int)=true)/\(eQ ps).length<=768:=by
 have hg:=Mr H;obtain⟨e1,e2⟩:=jy ps ([],[]);have O:∀x,x∈cY (ps.foldl gE ([],[])).1↔sdX (ps.flatMap Pce.Rects) x:=fun x=>by
  rw[xN,e1];simp
 have I:∀x,x∈cY (ps.foldl gE ([],[])).2↔sdY (ps.flatMap Pce.Rects) x:=fun x=>by
  rw[xN,e2];simp
 have ax:=xO (ps.foldl gE ([],[])).1;have Z:=xO (ps.foldl gE ([],[])).2;have hf:eQ ps=(cY (ps.foldl gE ([],[])).2).flatMap (fun y=>sR ps (cY (ps.foldl gE ([],[])).1) y)++(cY (ps.foldl gE ([],[])).1).flatMap (fun x=>qP ps (cY (ps.foldl gE ([],[])).2) x):=by
  grind [eQ,aWc]
 rw[hf];clear hf;generalize cY (ps.foldl gE ([],[])).1=xs at O ax ⊢;generalize cY (ps.foldl gE ([],[])).2=G at I Z ⊢;have mx:∀p∈ps,∀r∈p.Rects,r.X∈xs/\aB (r.X+r.W)∈xs:=fun p hp r f=>
  ⟨(O _).2 ⟨r,List.mem_flatMap.2 ⟨p,hp,f⟩,.inl rfl⟩,(O _).2 ⟨r,List.mem_flatMap.2 ⟨p,hp,f⟩,.inr rfl⟩⟩
 have my:∀p∈ps,∀r∈p.Rects,r.Y∈G/\aB (r.Y+r.H)∈G:=fun p hp r f=>
  ⟨(I _).2 ⟨r,List.mem_flatMap.2 ⟨p,hp,f⟩,.inl rfl⟩,(I _).2 ⟨r,List.mem_flatMap.2 ⟨p,hp,f⟩,.inr rfl⟩⟩
 have wx:∀x∈xs,aB (x-1)=x-1:=fun x J=>by
  obtain⟨r,f,hrx⟩:=(O x).1 J;obtain⟨p,hp,f⟩:=List.mem_flatMap.1 f;obtain⟨g1,g2,g3,g4,g5,g6,g7,g8⟩:=hg p hp r f;grind [cN]
 have wy:∀x∈G,aB (x-1)=x-1:=fun x J=>by
  obtain⟨r,f,hrx⟩:=(I x).1 J;obtain⟨p,hp,f⟩:=List.mem_flatMap.1 f;obtain⟨g1,g2,g3,g4,g5,g6,g7,g8⟩:=hg p hp r f;grind [cN]
 have bX:∀y,∀e∈sR ps xs y,∃b n u v,e=kM y b n u v/\Hv (tV ps y) xs b u v:=fun y e he=>
  aI4 (kM y) (tV ps y) xs xs.length 0 0 (-1) (-1) KI (.inl rfl) (fun q=>absurd rfl q) e (by assumption)
 have bY:∀x,∀e∈qP ps G x,∃b n u v,e=kL x b n u v/\Hv (tU ps x) G b u v:=fun x e he=>
  aI4 (kL x) (tU ps x) G G.length 0 0 (-1) (-1) KI (.inl rfl) (fun q=>absurd rfl q) e (by assumption)
 have lenX:(G.flatMap fun y=>sR ps xs y).length<=384:=by
  have:=yk ((G.flatMap fun y=>sR ps xs y).map fun e=>(e.qaf,e.qag)) (zF ps) (by
   rw[List.pairwise_map,List.pairwise_flatMap];refine⟨fun y I=>?_,Z.imp fun {y y'} hyy e he V he' q=>?_⟩
   ·refine((aI3 (mk:=kM y) (lo:=Edg.qaf) (fun b n u v=>(vX y b n u v).1) _ _ _ _ (L9 (tV ps y) ax) (.inl rfl)).1).imp fun {e V} k q=>?_
    grind
   grind [vX]) fun z hz=>by
   grind [vX,bAu]
  grind [aHn]
 have lenY:(xs.flatMap fun x=>qP ps G x).length<=384:=by
  have:=yk ((xs.flatMap fun y=>qP ps G y).map fun e=>(e.qaf,e.qag)) (zF ps) (by
   rw[List.pairwise_map,List.pairwise_flatMap];refine⟨fun y I=>?_,ax.imp fun {y y'} hyy e he V he' q=>?_⟩
   ·refine((aI3 (mk:=kL y) (lo:=Edg.qag) (fun b n u v=>(vW y b n u v).2.1) _ _ _ _ (L9 (tU ps y) Z) (.inl rfl)).1).imp fun {e V} k q=>?_
    grind
   grind [vW]) fun z hz=>by
   grind [vW,bAt]
  grind [aHn]
 refine⟨fun e he=>?_,by grind⟩;rcases QO.1 he with he|he
 ·obtain⟨y,I,he⟩:=List.mem_flatMap.1 he;obtain⟨b,n,u,v,rfl,L,j,_,_,S,_⟩:=bX y e he;obtain⟨p,hp,q⟩:=xj S L;grind [aTY]
 ·obtain⟨y,I,he⟩:=List.mem_flatMap.1 he;obtain⟨b,n,u,v,rfl,L,j,_,_,S,_⟩:=bY y e he;obtain⟨p,hp,q⟩:=xj S L;grind [aTX]
end
end
end Go.Proofs.YtgcpildegdgekaaGreatDoor
