/- Lemmas, walks and laws of this proof, part 4. Conditions: those that each names. -/
import Derived.Test.YtjjbojomlfgjlaaGreatDoorMK3
import Derived.Test.YtjjbojomlfgjlaaGreatDoorChecked
import Derived.Lib.IndexMore
import Derived.Test.YtjjbojomlfgjlaaGreatDoorMK1
import GoSem.Instr.Lookup
import GoSem.Instr.MapUpdate
import Derived.MapKept
import Derived.WalkKit
import Derived.WalkSmall
import Derived.Test.YtjjbojomlfgjlaaGreatDoorRows
import Derived.HandedShaped
import Derived.Handed
import Derived.LaidLaws
import Derived.LaidHandle
import Derived.LaidSub
import Derived.Stop.LaidErr
import Derived.Lib.LaidTab
import Derived.Lay
import Derived.MakeChecks
import Derived.ChangeMaps5
import Derived.Deep.DeepHandedRow
import Derived.Shelf.SlSortCmp.Insertion
import Derived.Lib.ItoaLen
import Derived.Lib.ItoaNum
set_option maxRecDepth 100000
namespace Go.Proofs.YtjjbojomlfgjlaaGreatDoor
open Go.Proofs.Tryz
abbrev zzB:=List (List Bool)
abbrev zzZ:=List (List Int)
abbrev zzI:=List Int
open Go.Vm Go.RowKit
set_option linter.unusedVariables false
section
variable {U:eW}
theorem mixed:prog.follows .mixedOrders=true:=Checked.mixed checked
def MN:Nat->Nat->Nat->Canon U:=fun _ _ _=>⟨[],[],[],[],[]⟩
def aC3 (w:World):Prop:=∃m,w.cell? ⟨2,0,none⟩=some (.int .i64 m)
theorem bOe (w w':World) (h:aC3 w) (hb:Below w.heap.size w w'):aC3 w':=by
 obtain⟨m,hm⟩:=h;refine⟨m,?_⟩;rw[hb.cell ?_,hm];show 2<w.heap.size;rcases Nat.lt_or_ge 2 w.heap.size with f|f
 ·exact f
 ·have r:w.heap[2]?=none:=by simp[f]
  simp[World.cell?,r] at hm
def aNl:Model U
 |[.str s,.str f]=>some ([s.size<4294967281],.bool (Lib.contains s.data.toList f.data.toList))
 |_=>none
theorem bIG {C:Cfg U} (S:aW C) (J:C.P=prog) (Z:∀w,C.inv w->aC3 w):aW (C.add 163 aNl):=by
 refine S.put ⟨fun f w=>by rw[J];exact kQ (fn:=f163) func163 XW rfl f w,?_⟩;intro N w f xs cs r G hN u hm V;unfold aNl at hm;split at hm
 ·rename_i s I;cases hm;obtain⟨m,O⟩:=Z w G;obtain⟨h1,L⟩:=u;have e0:=L 0 XU;have e1:=L 1 XU;obtain⟨l⟩:=f
  match l,h1 with
  |[a,b],_=>
   simp at e0 e1;cases e0;cases e1;rw[J];refine(strings_Contains s I m w V O).mono ?_
   rintro e w' ⟨rfl,rfl⟩
   exact⟨_,rfl,mY.of rfl rfl (.bool _),Below.refl _ _⟩
 ·cases hm
def chr (s:ByteArray) (i:Int):Int:=(s.data.toList.getD i.toNat 0).toNat
def okc (c:Int):Bool:=!((decide (c<97)||decide (122<c))&&(decide (c<48)||decide (57<c)))
def sT (s:ByteArray) (i:Nat):Bool:=(s.data.toList.drop i).all fun c=>okc c.toNat
def blank:ByteArray:=⟨#[32]⟩
noncomputable def words:ByteArray:=match f221.body with
 |some (.seq _ (.seq (.region _ ops _) _))=>match ops.toList with
  |[⟨_,.assign (.const (.string s)),_,_,_,_⟩]=>s
  |_=>⟨#[]⟩
 |_=>⟨#[]⟩
noncomputable def vn (s:ByteArray):Bool:=
 !((decide ((s.size:Int)<1)||decide (8<(s.size:Int))||decide (chr s 0<97)||decide (122<chr s 0))||!sT s 0||Lib.contains words.data.toList (blank++s++blank).data.toList)
noncomputable def bVN:Code:=(f107.body).getD .skip
noncomputable def lVN:Code:=(uO bVN).getD 0 .skip
def MVN:Nat->Nat->Nat->Canon U:=fun _ _ _=>⟨[0,2,24,25],[],[],[],[]⟩
def aBe (s:ByteArray) (i:Int):ASt U:=
 ⟨fun u=>cond (Nat.beq u 0) (.str s) (cond (Nat.beq u 2) (.bool false) (cond (Nat.beq u 24) (.int .i64 s.size) (cond (Nat.beq u 25) (.int .i64 i) .any))),fun _=>none⟩
theorem aRr {s:ByteArray} {i:Nat} (h:i<s.size):sT s i=(okc (chr s i)&&sT s (i+1)):=by
 unfold sT chr;have f:i<s.data.toList.length:=by simpa using h
 rw[List.drop_eq_getElem_cons f,List.all_cons];congr 1;rw[QG,QL (by simpa using f)];rfl
theorem wrapped {n:Int} (r: -9223372036854775808<=n) (f:n<=9223372036854775807):IntKind.i64.wrap n=n:=by
 rw[IntKind.wrap_i64];omega
theorem bNe {C:Cfg U} (hP:C.P=prog) (he:C.eff=fun _=>none) (J:C.off=0) (L:C.dep=0) (s:ByteArray) (hs:s.size<=9000) (F:Nat) (K:AEx->ASt U->Prop):∀(f r:Nat) (i:Nat),i<=s.size->s.size<f+i->(sT s i=true->K (.exit 0) (aBe s s.size))->(sT s i=false->∀j,K .ret (aBe s j))->
  iter (exec C 51 MVN F 0 lVN) (MVN 0 0) f r (aBe s i) K:=by
 obtain⟨P,E,elt,sum,eff,plain,plainOK,dp,inv,invOK,off,O,dep,dm,pu,inl,inlOK,frzOf,frzOK,opqOf,opqOK,hook,hookOK⟩:=C;obtain rfl:P=prog:=hP;obtain rfl:eff=fun _=>none:=he
 obtain rfl:off=0:=J;obtain rfl:dep=0:=L;intro f
 induction f with
 |zero=>intro r i hi hf;omega
 |succ f ih=>
  intro r i hi hf V S;refine back (q:=cond (decide ((i:Int)<s.size)) ((0<=(i:Int)/\(i:Int)<s.size)/\cond ((decide (chr s i<97)||decide (122<chr s i))&&(decide (chr s i<48)||decide (57<chr s i))) (K .ret (aBe s i)) (iter (exec ⟨prog,E,elt,sum,fun _=>none,plain,plainOK,dp,inv,invOK,0,O,0,dm,pu,inl,inlOK,frzOf,frzOK,opqOf,opqOK,hook,hookOK⟩ 51 MVN F 0 lVN) (MVN 0 0) f (r+1) (aBe s (IntKind.i64.wrap (i+1))) K)) (K (.exit 0) (aBe s i))) XW ?_
  by_cases h:i<s.size
  ·have I:decide ((i:Int)<s.size)=true:=by simpa using h
   rw[I];refine⟨XY,?_⟩;have u:=aRr h;cases Z:((decide (chr s i<97)||decide (122<chr s i))&&(decide (chr s i<48)||decide (57<chr s i)))
   case true=>
    have G:okc (chr s i)=false:=by
     unfold okc;rw[Z];rfl
    exact S (by rw[u,G];rfl) _
   case false=>
    have G:okc (chr s i)=true:=by
     unfold okc;rw[Z];rfl
    have h6:IntKind.i64.wrap ((i:Int)+1)=((i+1:Nat):Int):=by
     rw[wrapped XY XY];rfl
    rw[h6];rw[G] at u;exact ih (r+1) (i+1) XY XY (fun q=>V (by rw[u,q];rfl)) (fun q=>S (by rw[u,q];rfl))
  ·have I:decide ((i:Int)<s.size)=false:=by simpa using h
   have u:i=s.size:=XY;subst u;rw[I];refine V ?_;have G:s.data.toList.drop s.size=[]:=List.drop_of_length_le XU;simp[sT,G]
noncomputable def mVN:Model U
 |[.str s]=>some ([],.bool (vn s))
 |_=>none
def aPl (C:Cfg U):Cfg U:=C.add 163 aNl
noncomputable def bC4 (C:Cfg U):Cfg U:=(aPl C).add 107 mVN
theorem sVN {C:Cfg U} (Z:aW C) (L:C.P=prog) (he:C.eff=fun _=>none) (G:C.off=0) (I:C.dep=0) (hI:∀w,C.inv w->aC3 w):aW (bC4 C):=by
 have O:aW (aPl C):=bIG Z L hI;obtain⟨P,E,elt,sum,eff,plain,plainOK,dp,inv,invOK,off,J,dep,dm,S,inl,inlOK,frzOf,frzOK,opqOf,opqOK,hook,hookOK⟩:=C;obtain rfl:P=prog:=L;obtain rfl:eff=fun _=>none:=he
 obtain rfl:off=0:=G;obtain rfl:dep=0:=I;refine O.add mixed (fn:=f107) (c:=bVN) func107 XW rfl ?_;intro xs cs r h hcs;unfold mVN at h;split at h
 ·rename_i s;cases h;refine⟨XW,MVN,s.size+1,false,?_⟩
  conv=>whnf
  refine⟨⟨fun h=>?_,fun h=>?_⟩,?_⟩
  ·simp only[QC,QF] at h;exact⟨XY,XY⟩
  ·simp only[QC,QF] at h;exact⟨XY,XY⟩
  conv=>whnf
  cases f:(decide ((s.size:Int)<1)||decide (8<(s.size:Int))||decide (((s.data.toList.getD (Int.toNat 0) 0).toNat:Int)<97)||decide (122<((s.data.toList.getD (Int.toNat 0) 0).toNat:Int)))
  case true=>
   refine back (q:=aC.bool (U:=U) false=.bool (vn s)) XW ?_;unfold vn chr;rw[f];rfl
  case false=>
   have u:s.size<=9000:=by
    simp only[QC,QF] at f;omega
   conv=>whnf
   refine bNe (C:=aPl ⟨prog,E,elt,sum,fun _=>none,plain,plainOK,dp,inv,invOK,0,J,0,dm,S,inl,inlOK,frzOf,frzOK,opqOf,opqOK,hook,hookOK⟩) rfl rfl rfl rfl s u _ _ (s.size+1) 0 0 XY XY (fun q=>?_) (fun q j=>?_)
   ·refine back (q:=(((blank.size:Int)+s.size<=9223372036854775807)/\(((blank++s).size:Int)+blank.size<=9223372036854775807)/\words.size<4294967281)/\aC.bool (U:=U) (!Lib.contains words.data.toList (blank++s++blank).data.toList)=.bool (vn s)) XW ?_;have V:words.size<4294967281:=JC XW;have hb:blank.size=1:=rfl;refine⟨⟨XY,by rw[ByteArray.size_append];omega,V⟩,?_⟩;unfold vn chr;rw[f,q];rfl
   ·refine back (q:=aC.bool (U:=U) false=.bool (vn s)) XW ?_;unfold vn chr;rw[f,q];rfl
 ·cases h
noncomputable def aIq:Model U
 |[]=>some ([],.str words)
 |_=>none
def aIp:Model U
 |[.int .i64 x,.int .i64 a,.int .i64 b]=>some ([],.bool (decide (a<=x)&&decide (x<=b)))
 |_=>none
def aNj:Model U
 |[.str t,.str s]=>some ([t.size<=9000/\s.size<=9000],.bool (Lib.contains t.data.toList (blank++s++blank).data.toList))
 |_=>none
noncomputable def bVh:Code:=(f221.body).getD .skip
noncomputable def bVg:Code:=(Tryz.f219.body).getD .skip
noncomputable def bCM:Code:=(f220.body).getD .skip
noncomputable def aWM:Code:=(uO bCM).getD 0 .skip
noncomputable def bCL:Code:=(f181.body).getD .skip
noncomputable def aWL:Code:=(uO bCL).getD 0 .skip
def aGD:Nat->Nat->Nat->Canon U:=fun _ _ _=>⟨[0,2,3],[],[],[],[]⟩
def aBf (s:ByteArray) (i:Int):ASt U:=
 ⟨fun u=>cond (Nat.beq u 0) (.str s) (cond (Nat.beq u 2) (.bool false) (cond (Nat.beq u 3) (.int .i64 i) .any)),fun _=>none⟩
theorem bKa (c:Int):okc c=!(!(decide (97<=c)&&decide (c<=122))&&(decide (c<48)||decide (57<c))):=by
 unfold okc;congr 2;rw[Bool.not_and];congr 1
 ·rw[<- decide_not];exact decide_eq_decide.2 XY
 ·rw[<- decide_not];exact decide_eq_decide.2 XY
theorem bNf {C:Cfg U} (hP:C.P=prog) (he:C.eff=fun _=>none) (I:C.off=0) (J:C.dep=0) (s:ByteArray) (hs:s.size<=9000) (F:Nat) (K:AEx->ASt U->Prop):∀(f r:Nat) (i:Nat),i<=s.size->s.size<f+i->(sT s i=true->K (.exit 0) (aBf s s.size))->(sT s i=false->∀j,K .ret (aBf s j))->
  iter (exec C 53 aGD F 0 aWL) (aGD 0 0) f r (aBf s i) K:=by
 obtain⟨P,E,elt,sum,eff,plain,plainOK,dp,inv,invOK,off,L,dep,dm,Z,inl,inlOK,frzOf,frzOK,opqOf,opqOK,hook,hookOK⟩:=C;obtain rfl:P=prog:=hP;obtain rfl:eff=fun _=>none:=he
 obtain rfl:off=0:=I;obtain rfl:dep=0:=J;intro f
 induction f with
 |zero=>intro r i hi hf;omega
 |succ f ih=>
  intro r i hi hf V S
  conv=>whnf
  cases h:decide ((i:Int)<s.size)
  ·have u:i=s.size:=by
    have:¬(i:Int)<s.size:=by simpa using h
    omega
   subst u;refine back (q:=K (.exit 0) (aBf s s.size)) XW (V ?_);have G:s.data.toList.drop s.size=[]:=List.drop_of_length_le XU;simp[sT,G]
  ·have h0:i<s.size:=by
    have:(i:Int)<s.size:=by simpa using h
    omega
   have u:=aRr h0;have hb:0<=(i:Int)/\(i:Int)<s.size:=⟨XY,XY⟩
   conv=>whnf
   refine⟨⟨hb,fun _=>hb⟩,?_⟩
   conv=>whnf
   refine⟨fun _=>⟨hb,fun _=>hb⟩,?_⟩
   conv=>whnf
   have G:=bKa (chr s i);unfold chr at u G;cases O:(!(decide (97<=((s.data.toList.getD (i:Int).toNat 0).toNat:Int))&&decide (((s.data.toList.getD (i:Int).toNat 0).toNat:Int)<=122))&&(decide (((s.data.toList.getD (i:Int).toNat 0).toNat:Int)<48)||decide (57<((s.data.toList.getD (i:Int).toNat 0).toNat:Int))))
   ·rw[O] at G;rw[G] at u;refine back (q:=iter (exec ⟨prog,E,elt,sum,fun _=>none,plain,plainOK,dp,inv,invOK,0,L,0,dm,Z,inl,inlOK,frzOf,frzOK,opqOf,opqOK,hook,hookOK⟩ 53 aGD F 0 aWL) (aGD 0 0) f (r+1) (aBf s (IntKind.i64.wrap (i+1))) K) XW ?_;have h6:IntKind.i64.wrap ((i:Int)+1)=((i+1:Nat):Int):=by
     rw[wrapped XY XY];rfl
    rw[h6];exact ih (r+1) (i+1) XY XY (fun q=>V (by rw[u,q];rfl)) (fun q=>S (by rw[u,q];rfl))
   ·rw[O] at G;rw[G] at u;exact back (q:=K .ret (aBf s i)) XW (S (by rw[u];rfl) _)
def aGE:Nat->Nat->Nat->Canon U:=fun _ _ _=>⟨[0,1,4,5],[],[],[],[]⟩
def aBg (t s:ByteArray) (r:Bool) (i:Int):ASt U:=
 ⟨fun u=>cond (Nat.beq u 0) (.str t) (cond (Nat.beq u 1) (.str s) (cond (Nat.beq u 4) (.bool r) (cond (Nat.beq u 5) (.int .i64 i) .any))),fun _=>none⟩
theorem bQu (t p:ByteArray) (i:Nat) (h:i+p.size<=t.size):(t.extract i (i+p.size)==p)=Lib.occAt t.data.toList p.data.toList i:=by
 rw[beq_toListBytes,ByteArray.toList_eq,ByteArray.toList_eq,Bool.eq_iff_iff,KI];unfold Lib.occAt;rw[List.isPrefixOf_iff_prefix,List.prefix_iff_eq_take];have hp:p.data.toList.length=p.size:=XU;have e:(t.extract i (i+p.size)).data.toList=(t.data.toList.drop i).take p.size:=by
  simp[ByteArray.data_extract,List.extract_eq_take_drop]
 rw[hp,<- e];exact eq_comm
theorem bNg {C:Cfg U} (hP:C.P=prog) (he:C.eff=fun _=>none) (J:C.off=0) (L:C.dep=0) (t s:ByteArray) (ht:t.size<=9000) (hs:s.size<=9000) (F:Nat) (K:AEx->ASt U->Prop):∀(f r:Nat) (i:Nat),i<=t.size->t.size<f+i->Lib.NoOcc t.data.toList (blank++s++blank).data.toList i->
  (Lib.contains t.data.toList (blank++s++blank).data.toList=false->∀j,K (.exit 0) (aBg t s false j))->(Lib.contains t.data.toList (blank++s++blank).data.toList=true->∀j,K .ret (aBg t s true j))->
  iter (exec C 28 aGE F 0 aWM) (aGE 0 0) f r (aBg t s false i) K:=by
 obtain⟨P,E,elt,sum,eff,plain,plainOK,dp,inv,invOK,off,O,dep,dm,pu,inl,inlOK,frzOf,frzOK,opqOf,opqOK,hook,hookOK⟩:=C;obtain rfl:P=prog:=hP;obtain rfl:eff=fun _=>none:=he
 obtain rfl:off=0:=J;obtain rfl:dep=0:=L;intro f
 induction f with
 |zero=>intro r i hi hf;omega
 |succ f ih=>
  intro r i hi hf u Z V;have I:(IntKind.i64.wrap (IntKind.i64.wrap ((i:Int)+s.size)+2))=((i+(blank++s++blank).size:Nat):Int):=by
   rw[wrapped (n:=(i:Int)+s.size) XY XY,wrapped XY XY,ByteArray.size_append,ByteArray.size_append];have hb:blank.size=1:=rfl;omega
  refine back (q:=cond (decide ((IntKind.i64.wrap (IntKind.i64.wrap ((i:Int)+s.size)+2))<=(t.size:Int))) (((0<=(i:Int)/\(i:Int)<=(IntKind.i64.wrap (IntKind.i64.wrap ((i:Int)+s.size)+2))/\(IntKind.i64.wrap (IntKind.i64.wrap ((i:Int)+s.size)+2))<=t.size)/\((blank.size:Int)+s.size<=9223372036854775807)/\(((blank++s).size:Int)+blank.size<=9223372036854775807))/\
   cond (t.extract (i:Int).toNat (IntKind.i64.wrap (IntKind.i64.wrap ((i:Int)+s.size)+2)).toNat==blank++s++blank) (K .ret (aBg t s true i)) (iter (exec ⟨prog,E,elt,sum,fun _=>none,plain,plainOK,dp,inv,invOK,0,O,0,dm,pu,inl,inlOK,frzOf,frzOK,opqOf,opqOK,hook,hookOK⟩ 28 aGE F 0 aWM) (aGE 0 0) f (r+1) (aBg t s false (IntKind.i64.wrap (i+1))) K)) (K (.exit 0) (aBg t s false i))) XW ?_
  rw[I];have hsz:(blank++s++blank).size=s.size+2:=by
   rw[ByteArray.size_append,ByteArray.size_append];have hb:blank.size=1:=rfl;omega
  have hl:t.data.toList.length=t.size:=XU;generalize hp:blank++s++blank=p at*
  by_cases h:i+p.size<=t.size
  ·have G:decide (((i+p.size:Nat):Int)<=(t.size:Int))=true:=by
    simp only[JN];omega
   rw[G];refine⟨⟨⟨XY,XY,XY⟩,?_,?_⟩,?_⟩
   ·have hb:blank.size=1:=rfl;omega
   ·rw[ByteArray.size_append];have hb:blank.size=1:=rfl;omega
   ·show cond (t.extract i (i+p.size)==p) _ _;rw[bQu t p i h];cases ho:Lib.occAt t.data.toList p.data.toList i
    ·have h6:IntKind.i64.wrap ((i:Int)+1)=((i+1:Nat):Int):=by
      rw[wrapped XY XY];rfl
     show iter _ _ _ _ _ _;rw[h6];exact ih (r+1) (i+1) XY XY (u.succ ho) Z V
    ·refine V ?_ _;have:=Lib.index_first (s:=t.data.toList) (sub:=p.data.toList) (i:=i) XY ho u;unfold Lib.contains;rw[this];simp
  ·have G:decide (((i+p.size:Nat):Int)<=(t.size:Int))=false:=by
    simp only[QF];omega
   rw[G];refine Z ?_ _;unfold Lib.contains;rw[QF];intro h0;have hr:=Lib.index_room _ _ h0;rcases Lib.index_spec t.data.toList p.data.toList with ⟨q1,_⟩|⟨j,q1,q2,S,q4⟩
   ·omega
   ·have hpl:p.data.toList.length=p.size:=XU;have:j<i:=XY;rw[u j this] at S;cases S
noncomputable def bC5 (C:Cfg U):Cfg U:=(((C.add 221 aIq).add 219 aIp).add 220 aNj).add 181 mVN
theorem bID {C:Cfg U} (hs:aW C) (hP:C.P=prog) (he:C.eff=fun _=>none) (S:C.off=0) (V:C.dep=0):aW (bC5 C):=by
 obtain⟨P,E,elt,sum,eff,plain,plainOK,dp,inv,invOK,off,I,dep,dm,Z,inl,inlOK,frzOf,frzOK,opqOf,opqOK,hook,hookOK⟩:=C;obtain rfl:P=prog:=hP;obtain rfl:eff=fun _=>none:=he
 obtain rfl:off=0:=S;obtain rfl:dep=0:=V;refine(((hs.add mixed (fn:=f221) (c:=bVh) func221 XW rfl ?_).add mixed (fn:=Tryz.f219) (c:=bVg) func219 XW rfl ?_).add mixed (fn:=f220) (c:=bCM) func220 XW rfl ?_).add mixed (fn:=f181) (c:=bCL) func181 XW rfl ?_
 ·intro xs L r h f;unfold aIq at h;split at h
  ·cases h;exact⟨XW,MN,0,false,back (q:=aC.str (U:=U) words=.str words) XW rfl⟩
  ·cases h
 ·intro xs L r h f;unfold aIp at h;split at h
  ·rename_i x a b;cases h;exact⟨XW,MN,0,false,back (q:=aC.bool (U:=U) (decide (a<=x)&&decide (x<=b))=.bool (decide (a<=x)&&decide (x<=b))) XW rfl⟩
  ·cases h
 ·intro xs L r h f;unfold aNj at h;split at h
  ·rename_i t s;cases h;obtain⟨ht,O⟩:t.size<=9000/\s.size<=9000:=f;refine⟨XW,aGE,t.size+1,false,?_⟩
   conv=>whnf
   refine bNg (C:=((Cfg.add ⟨prog,E,elt,sum,fun _=>none,plain,plainOK,dp,inv,invOK,0,I,0,dm,Z,inl,inlOK,frzOf,frzOK,opqOf,opqOK,hook,hookOK⟩ 221 aIq).add 219 aIp)) rfl rfl rfl rfl t s ht O _ _ (t.size+1) 0 0 XY XY (Lib.NoOcc.zero _ _) (fun q j=>?_) (fun q j=>?_)
   ·refine back (q:=aC.bool (U:=U) false=.bool (Lib.contains t.data.toList (blank++s++blank).data.toList)) XW ?_;rw[q]
   ·refine back (q:=aC.bool (U:=U) true=.bool (Lib.contains t.data.toList (blank++s++blank).data.toList)) XW ?_;rw[q]
  ·cases h
 ·intro xs L r h f;unfold mVN at h;split at h
  ·rename_i s;cases h;refine⟨XW,aGD,s.size+1,false,?_⟩;have u:(decide ((s.size:Int)<1)||decide (8<(s.size:Int)))=!(decide (1<=(s.size:Int))&&decide ((s.size:Int)<=8)):=by
    rw[Bool.not_and];congr 1
    ·rw[<- decide_not];exact decide_eq_decide.2 XY
    ·rw[<- decide_not];exact decide_eq_decide.2 XY
   conv=>whnf
   refine⟨⟨fun h=>?_,fun h=>?_⟩,?_⟩
   ·rw[<- u] at h;simp only[QC,QF] at h;exact⟨XY,XY⟩
   ·rw[<- u] at h;simp only[QC,QF] at h;exact⟨XY,XY⟩
   conv=>whnf
   cases J:(!(decide (1<=(s.size:Int))&&decide ((s.size:Int)<=8))||decide (((s.data.toList.getD (Int.toNat 0) 0).toNat:Int)<97)||decide (122<((s.data.toList.getD (Int.toNat 0) 0).toNat:Int)))
   case true=>
    refine back (q:=aC.bool (U:=U) false=.bool (vn s)) XW ?_;unfold vn chr;rw[u,J];rfl
   case false=>
    have G:s.size<=9000:=by
     have h8:=J;rw[<- u] at h8;simp only[QC,QF] at h8;omega
    conv=>whnf
    refine bNf (C:=((Cfg.add (Cfg.add ⟨prog,E,elt,sum,fun _=>none,plain,plainOK,dp,inv,invOK,0,I,0,dm,Z,inl,inlOK,frzOf,frzOK,opqOf,opqOK,hook,hookOK⟩ 221 aIq) 219 aIp).add 220 aNj)) rfl rfl rfl rfl s G _ _ (s.size+1) 0 0 XY XY (fun q=>?_) (fun q j=>?_)
    ·refine back (q:=(words.size<=9000/\s.size<=9000)/\aC.bool (U:=U) (!Lib.contains words.data.toList (blank++s++blank).data.toList)=.bool (vn s)) XW ?_;have hw:words.size<=9000:=JC XW;refine⟨⟨hw,G⟩,?_⟩;unfold vn chr;rw[u,J,q];rfl
    ·refine back (q:=aC.bool (U:=U) false=.bool (vn s)) XW ?_;unfold vn chr;rw[u,J,q];rfl
  ·cases h
end
end Go.Proofs.YtjjbojomlfgjlaaGreatDoor
set_option linter.unusedVariables false
namespace Go.Proofs.YtjjbojomlfgjlaaGreatDoor
open Go.Proofs.Tryz
open Go.Vm Go.RowKit
def uF (s:ByteArray) (w:World) (base:Nat) (p:Option (Nat×Value)) (f:Nat->Option (Nat×Value)):Prop:=
 ∃b v,p=some (0,.pointer (some ⟨b,0,none⟩))/\aDB 110 5 base b v (Lib.strCells s) w/\(∀j,f (j+1)=none)/\(v=.slice none 0 0/\f 0=none\/∃g,f 0=some (g,v))
def aDi (w:World) (base:Nat) (p:Option (Nat×Value)) (f:Nat->Option (Nat×Value)):Prop:=
 (∃b,p=some (0,.pointer (some ⟨b,0,none⟩))/\base<=b/\b<w.heap.size)/\∀i g u,f i=some (g,u)->u.oneCell'=true/\∀b,blk u=some b->base<=b/\b<w.heap.size
theorem aKK {w:World} {base:Nat} {e:TypeId} {m k:Nat} {u:Value} {cs:List Value} (h:w.ownsRow base e m u k cs):∀a,u≠ .pointer a:=fun a=>by
 rcases h.2 with ⟨rfl,_⟩|⟨_,_,_,rfl,_⟩<;>intro e<;>cases e
theorem bI2 {s:ByteArray} {w:World} {base:Nat} {p:Option (Nat×Value)} {f:Nat->Option (Nat×Value)} (h:uF s w base p f):∃g u,p=some (g,u)/\u.oneCell'=true/\∀b,blk u=some b->base<=b/\b<w.heap.size:=by
 obtain⟨b,v,hp,⟨I,⟨q,_,G⟩,_⟩,_⟩:=h;refine⟨_,_,hp,rfl,fun J r=>?_⟩;simp only[blk,QQ] at r;subst r;exact⟨I,(JQ.1 G).1⟩
theorem bI0 {w:World} {base:Nat} {p:Option (Nat×Value)} {f:Nat->Option (Nat×Value)} (h:aDi w base p f):∃g u,p=some (g,u)/\u.oneCell'=true/\∀b,blk u=some b->base<=b/\b<w.heap.size:=by
 obtain⟨⟨b,hp,I,G⟩,_⟩:=h;refine⟨_,_,hp,rfl,fun J r=>?_⟩;simp only[blk,QQ] at r;subst r;exact⟨I,G⟩
theorem aR0 {s:ByteArray} {w:World} {base:Nat} {p:Option (Nat×Value)} {f:Nat->Option (Nat×Value)} {i g:Nat} {u:Value} (h:uF s w base p f) (r:f i=some (g,u)):u.oneCell'=true/\∀b,blk u=some b->base<=b/\b<w.heap.size:=by
 obtain⟨b,v,hp,⟨_,_,I,_⟩,J,G⟩:=h;cases i with
 |succ j=>rw[J] at r;cases r
 |zero=>
  rcases G with ⟨_,G⟩|⟨L,G⟩
  ·rw[G] at r;cases r
  ·rw[G] at r;cases r;exact rJ I (aKK I)
theorem bI3 {s:ByteArray} {w w':World} {base:Nat} {p:Option (Nat×Value)} {f:Nat->Option (Nat×Value)} (h:uF s w base p f) (h1:∀g u b,p=some (g,u)->blk u=some b->w'.heap[b]?=w.heap[b]?)
  (h2:∀i g u b,f i=some (g,u)->blk u=some b->w'.heap[b]?=w.heap[b]?):uF s w' base p f:=by
 obtain⟨b,v,hp,⟨Z,⟨q,V,S⟩,I,O,L⟩,h4,r⟩:=h;refine⟨b,v,hp,⟨Z,⟨q,V,by rw[h1 _ _ b hp rfl];exact S⟩,⟨I.1,?_⟩,O,L⟩,h4,r⟩;rcases I.2 with hn|⟨J,G,cur,rfl,hb,hg,rest⟩
 ·exact .inl hn
 ·rcases r with ⟨e,_⟩|⟨g,r⟩
  ·cases e
  ·exact .inr ⟨J,G,cur,rfl,hb,by rw[h2 0 g _ J r rfl];exact hg,rest⟩
theorem bI1 {w w':World} {base:Nat} {p:Option (Nat×Value)} {f:Nat->Option (Nat×Value)} (h:aDi w base p f) (O:∀g u b,p=some (g,u)->blk u=some b->w'.heap[b]?=w.heap[b]?)
  (L:∀i g u b,f i=some (g,u)->blk u=some b->w'.heap[b]?=w.heap[b]?):aDi w' base p f:=by
 obtain⟨⟨b,hp,J,I⟩,G⟩:=h;have lt:∀b,b<w.heap.size->w'.heap[b]?=w.heap[b]?->b<w'.heap.size:=fun b hb e=>by
  rw[Array.getElem?_eq_getElem hb] at e;exact(JQ.1 e).1
 refine⟨⟨b,hp,J,lt b I (O _ _ b hp rfl)⟩,fun i g u r=>⟨(G i g u r).1,fun b hb=>?_⟩⟩;have:=(G i g u r).2 b hb;exact⟨this.1,lt b this.2 (L i g u b r hb)⟩
def bBV (w:World):Prop:=w.cell? ⟨0,0,none⟩=some (.iface 271 (.agg #[.pointer (some ⟨5,114,none⟩)]))
def inv1 (w:World):Prop:=(aC3 w/\bBV w)/\Lib.TabIs prog w "internal/strconv.uint64pow10" .u64 Lib.pow10Tab
theorem bTo {w w':World} {g:Nat} {v:Value} (h:w.cell? ⟨g,0,none⟩=some v) (hb:Below w.heap.size w w'):w'.cell? ⟨g,0,none⟩=some v:=by
 rw[hb.cell ?_,h];show g<w.heap.size;rcases Nat.lt_or_ge g w.heap.size with f|f
 ·exact f
 ·have r:w.heap[g]?=none:=by simp[f]
  simp[World.cell?,r] at h
theorem bOc (w w':World) (h:inv1 w) (hb:Below w.heap.size w w'):inv1 w':=by
 obtain⟨⟨I,r⟩,f⟩:=h;refine⟨⟨bOe w w' I hb,bTo r hb⟩,?_⟩;unfold Lib.TabIs World.var? at*;cases u:prog.globalNamed "internal/strconv.uint64pow10" with
 |none=>rw[u] at f;cases f
 |some g=>
  rw[u] at f;simp only[Option.bind_some] at f ⊢;rcases Nat.lt_or_ge g w.heap.size with r|r
  ·rw[hb.block g r];exact f
  ·have G:w.heap[g]?=none:=by simp[r]
   rw[G] at f;cases f
theorem bV2 (w:World) (base:Nat) (h:base<=w.heap.size):∃w',(Instr.alloc 110 true (.tuple #[])).run prog w=.ok (.pointer (some ⟨w.heap.size,0,none⟩)) w'/\Below w.heap.size w w'/\
  uF ByteArray.empty w' base (some (0,.pointer (some ⟨w.heap.size,0,none⟩))) (fun _=>none):=by
 have f:(zeroValue 110).run prog w=.ok (.agg #[.pointer none,.slice none 0 0]) w:=zeroValue110 w;refine⟨w.alloc (.cells #[.pointer none,.slice none 0 0] 110),?_,⟨rfl,rfl,rfl,XU,fun k r=>heap_alloc_old w _ r⟩,w.heap.size,.slice none 0 0,rfl,⟨h,⟨.pointer none,.inl rfl,heap_alloc_new w _⟩,JE _ _ _ _,by simp[Value.ownBlock],by constructor<;>intro _<;>rfl⟩,fun _=>rfl,.inl ⟨rfl,rfl⟩⟩
 simp[Instr.alloc,f,newVar,newRow,Value.cells]
end Go.Proofs.YtjjbojomlfgjlaaGreatDoor
set_option linter.unusedVariables false
namespace Go.Proofs.YtjjbojomlfgjlaaGreatDoor
open Go.Proofs.Tryz
open Go.Vm Go.RowKit
def lO:List (Int×Value)->Nat->List MapEntry
 |[],_=>[]
 | (k,v)::l,c=>{key:=.int .i64 k,val:=v,born:=c}::lO l (c+1)
def uE (z:Value):List (Int×Value)->Int->Value
 |[],_=>z
 | (k,v)::l,n=>cond (n==k) v (uE z l n)
def lN:zzI->Int->Bool
 |[],_=>false
 |k::l,n=>cond (n==k) true (lN l n)
def kM:List (Int×ByteArray)->Int->ByteArray
 |[],_=>ByteArray.empty
 | (k,v)::l,n=>cond (n==k) v (kM l n)
def strs (l:List (Int×ByteArray)):List (Int×Value):=l.map fun p=>(p.1,.string p.2)
theorem aRI:∀(l:List (Int×ByteArray)) (n:Int),uE (.string ByteArray.empty) (strs l) n=.string (kM l n)
 |[],n=>rfl
 | (k,v)::l,n=>by
  have f:=aRI l n;unfold strs at f ⊢;simp only[List.map_cons,uE,kM];cases n==k
  ·exact f
  ·rfl
theorem aPT (n:Int) (z:Value):∀(l:List (Int×Value)) (c i:Nat),∃r,Instr.findNow (.int .i64) (.int .i64 n) (lO l c) i=some r/\
  ((lN (l.map (·.1)) n=false/\r=none/\uE z l n=z)\/(lN (l.map (·.1)) n=true/\∃j,r=some (j,uE z l n)))
 |[],c,i=>⟨none,rfl,.inl ⟨rfl,rfl,rfl⟩⟩
 | (k,v)::l,c,i=>by
  obtain⟨r,u,f⟩:=aPT n z l (c+1) (i+1);simp only[lO,Instr.findNow,Instr.sameNow,if_true,List.map_cons,lN,uE];cases hb:n==k with
  |true=>exact⟨some (i,v),rfl,.inr ⟨rfl,i,rfl⟩⟩
  |false=>exact⟨r,u,f⟩
theorem bBv {k:TypeId} (f:prog.underlying k=some (.int .i64)) {q:Bool} {n:Int} {w:World}:(Instr.checkKey q 10000 k (.int .i64 n)).run prog w=.ok () w:=by
 rw[show (10000:Nat)=9999+1 from rfl];unfold Instr.checkKey;simp only[QM,QR f,QP];rfl
theorem aVx {t k e:TypeId} (G:prog.underlying t=some (.map k e)) (I:prog.underlying k=some (.int .i64)) {z:Value} {w:World} (S:(zeroValue e).run prog w=.ok z w) {b f:Nat} {l:List (Int×Value)} (hb:w.heap[b]?=some (.map (lO l 0).toArray f)) (n:Int):
  (Instr.lookup t (.map (some b)) (.int .i64 n) true).run prog w=.ok (.tuple #[uE z l n,.bool (lN (l.map (·.1)) n)]) w:=by
 obtain⟨r,h1,Z⟩:=aPT n z l 0 0;have O:∀q,(Instr.checkKey q 10000 k (.int .i64 n)).run prog w=.ok () w:=fun q=>by
  rw[bBv I]
 have L:(Instr.findKey k (.int .i64 n) (lO l 0)).run prog w=.ok r w:=by
  unfold Instr.findKey;simp only[QM,QR I,QP,h1,JU]
 have J:=MapKept.run_getObj_map (P:=prog) hb;unfold Instr.lookup;rcases Z with ⟨u,rfl,V⟩|⟨u,j,rfl⟩
 ·simp only[QM,QR G,QP,J,O,L,S,JU];rw[u,V];rfl
 ·simp only[QM,QR G,QP,J,O,L,JU];rw[u];rfl
theorem bBX:∀(l:List (Int×Value)) (c:Nat) (n:Int) (v:Value),lO (l++[(n,v)]) c=lO l c++[{key:=.int .i64 n,val:=v,born:=c+l.length}]
 |[],c,n,v=>rfl
 | (k,x)::l,c,n,v=>by
  simp only[List.cons_append,lO,bBX l (c+1) n v,QT];rw[show c+1+l.length=c+(l.length+1) by omega]
theorem bOg {t k e:TypeId} (u:prog.underlying t=some (.map k e)) (f:prog.underlying k=some (.int .i64)) {w:World} {b:Nat} {l:List (Int×Value)} (hb:w.heap[b]?=some (.map (lO l 0).toArray l.length)) (n:Int) (v:Value) (J:lN (l.map (·.1)) n=false):
  (Instr.mapUpdate t (.map (some b)) (.int .i64 n) v).run prog w=.ok () {w with heap:=w.heap.setIfInBounds b (.map (lO (l++[(n,v)]) 0).toArray (l++[(n,v)]).length)}:=by
 obtain⟨r,V,S⟩:=aPT n (.map none) l 0 0;have I:r=none:=by
  rcases S with ⟨_,h,_⟩|⟨h,_⟩
  ·exact h
  ·rw[J] at h;cases h
 subst I;have O:(Instr.findKey k (.int .i64 n) (lO l 0)).run prog w=.ok none w:=by
  unfold Instr.findKey;simp only[QM,QR f,QP,V,JU]
 have L:=MapKept.run_getObj_map (P:=prog) hb;have G:=MapKept.run_setObj_map (P:=prog) (.map ((lO l 0).toArray.push {key:=.int .i64 n,val:=v,born:=l.length}) (l.length+1)) hb;unfold Instr.mapUpdate;simp only[QM,QR u,QP,L,bBv f,O,G];rw[bBX,QH,JW];have e:∀x:MapEntry,(lO l 0).toArray.push x=(lO l 0++[x]).toArray:=fun x=>XU
 rw[e];rfl
inductive Frz where
 |D
 |W1
 |W2
 |W3
def wl1:List (Int×ByteArray):=[(1,ByteArray.mk #[109,111,118,101]),(2,ByteArray.mk #[108,105,110,101]),(4,ByteArray.mk #[98,114,101,97,107]),(3,ByteArray.mk #[115,116,97,109,112])]
def pH:List (Int×ByteArray):=[(1,ByteArray.mk #[109]),(2,ByteArray.mk #[108]),(4,ByteArray.mk #[98]),(3,ByteArray.mk #[115])]
def wl3:List (Int×ByteArray):=[(5,ByteArray.mk #[109,111,117,110,116]),(6,ByteArray.mk #[98,101,110,100])]
def fv (f:Nat):Value:=.func (.func f) #[] #[]
def lD (v1 r f:Value):List (Int×Value):=[(1,.agg #[v1,fv 99,fv 101]),(2,.agg #[r,fv 100,fv 102]),(3,.agg #[f,fv 103,fv 104])]
def isMap (l:List (Int×Value)) (w:World) (st:Nat->Prop) (v:Value):Prop:=∃b,v=.map (some b)/\st b/\w.heap[b]?=some (.map (lO l 0).toArray l.length)
def aFM:Frz->World->(Nat->Prop)->Value->Prop
 | .W1,w,st,v=>isMap (strs wl1) w st v
 | .W2,w,st,v=>isMap (strs pH) w st v
 | .W3,w,st,v=>isMap (strs wl3) w st v
 | .D,w,st,v=>∃u r f,isMap (strs wl1) w st u/\isMap (strs pH) w st r/\isMap (strs wl3) w st f/\isMap (lD u r f) w st v
theorem aFB {l:List (Int×Value)} {w w':World} {st st':Nat->Prop} {v:Value} (h:isMap l w st v) (f:∀b,st b->st' b/\w'.heap[b]?=w.heap[b]?):isMap l w' st' v:=by
 obtain⟨b,rfl,r,u⟩:=h;exact⟨b,rfl,(f b r).1,(f b r).2.trans u⟩
theorem bQc:∀k w w' st r v,aFM k w st v->(∀b,st b->r b/\w'.heap[b]?=w.heap[b]?)->aFM k w' r v:=by
 intro k w w' st r v h f;cases k with
 |D=>
  obtain⟨I,G,u,S,O,L,J⟩:=h;exact⟨I,G,u,aFB S f,aFB O f,aFB L f,aFB J f⟩
 |_=>exact aFB h f
theorem bQd:∀k w st v,aFM k w st v->v.oneCell'=true:=by
 intro k w st v h;cases k with
 |D=>
  obtain⟨u,r,f,J,I,G,b,rfl,_⟩:=h;rfl
 |_=>
  obtain⟨b,rfl,_⟩:=h;rfl
end Go.Proofs.YtjjbojomlfgjlaaGreatDoor
set_option linter.unusedVariables false
namespace Go.Proofs.YtjjbojomlfgjlaaGreatDoor
open Go.Proofs.Tryz
open Go.Vm Go.RowKit
def M (l:List (Int×Value)):Obj:=.map (lO l 0).toArray l.length
def gr (w:World) (xs:List Obj):World:={w with heap:=w.heap++xs.toArray}
theorem bPT (w:World):w=gr w []:=by
 cases w;simp[gr]
theorem aFI (w:World) (xs:List Obj) (i:Nat):(gr w xs).heap[w.heap.size+i]?=xs[i]?:=by
 show (w.heap++xs.toArray)[w.heap.size+i]?=_;rw[Array.getElem?_append_right XY,Nat.add_sub_cancel_left];simp
theorem bPU (w:World) (xs:List Obj):Below w.heap.size w (gr w xs):=
 ⟨rfl,rfl,rfl,by simp[gr],fun k f=>by show (w.heap++xs.toArray)[k]?=_;rw[Array.getElem?_append_left f]⟩
theorem aIm (t:TypeId) (w:World) (xs:List Obj):(Instr.makeMap t none).run prog (gr w xs)=.ok (.map (some (w.heap.size+xs.length))) (gr w (xs++[M []])):=by
 have e:∀(w':World),(Instr.makeMap t none).run prog w'=.ok (.map (some w'.heap.size)) {w' with heap:=w'.heap.push (.map #[] 0)}:=fun w'=>rfl
 rw[e];have r:(gr w xs).heap.size=w.heap.size+xs.length:=by simp[gr]
 rw[r];have f:({gr w xs with heap:=(gr w xs).heap.push (.map #[] 0)}:World)=gr w (xs++[M []]):=by
  simp only[gr,M,lO,JZ,World.mk.injEq,and_true];rw[Array.push_eq_append,Array.append_assoc];simp
 rw[f]
theorem rM {t k e:TypeId} (r:prog.underlying t=some (.map k e)) (G:prog.underlying k=some (.int .i64)) (w:World) (xs f:List Obj) (i:Nat) (l:List (Int×Value)) (n:Int) (v:Value) (hx:xs[i]?=some (M l)) (u:lN (l.map (·.1)) n=false) (J:xs.set i (M (l++[(n,v)]))=f):
  (Instr.mapUpdate t (.map (some (w.heap.size+i))) (.int .i64 n) v).run prog (gr w xs)=.ok () (gr w f):=by
 have hb:(gr w xs).heap[w.heap.size+i]?=some (.map (lO l 0).toArray l.length):=(aFI w xs i).trans hx;rw[bOg r G hb n v u,<- J];have I:({gr w xs with heap:=(gr w xs).heap.setIfInBounds (w.heap.size+i) (.map (lO (l++[(n,v)]) 0).toArray (l++[(n,v)]).length)}:World)=gr w (xs.set i (M (l++[(n,v)]))):=by
  simp only[gr,M,World.mk.injEq,and_true];rw[Array.setIfInBounds_append_right XY,Nat.add_sub_cancel_left];simp
 rw[I]
theorem aOk {t k e:TypeId} (r:prog.underlying t=some (.map k e)) (G:prog.underlying k=some (.int .i64)) (w:World) (xs f:List Obj) (l:List (Int×Value)) (n:Int) (v:Value) (hx:xs[0]?=some (M l)) (u:lN (l.map (·.1)) n=false) (I:xs.set 0 (M (l++[(n,v)]))=f):
  (Instr.mapUpdate t (.map (some w.heap.size)) (.int .i64 n) v).run prog (gr w xs)=.ok () (gr w f):=
 rM r G w xs f 0 l n v hx u I
theorem bTO (w:World):Calls prog 44 #[] w fun e w'=>e=.returned (.map (some w.heap.size))/\
  w'=gr w [M (lD (.map (some (w.heap.size+1))) (.map (some (w.heap.size+2))) (.map (some (w.heap.size+3)))),M (strs wl1),M (strs pH),M (strs wl3)]:=by
 have f:Calls prog 44 #[] (gr w []) fun e w'=>e=.returned (.map (some w.heap.size))/\
   w'=gr w [M (lD (.map (some (w.heap.size+1))) (.map (some (w.heap.size+2))) (.map (some (w.heap.size+3)))),M (strs wl1),M (strs pH),M (strs wl3)]:=by
  go_enter func44,ntmps44
  go_wp2
  rw[aIm]
  go_wp2
  rw[aIm]
  go_wp2
  rw[rM underlying99 underlying3 w _ [M [],M [(1,.string (ByteArray.mk #[109,111,118,101]))]] 1 [] 1 (.string (ByteArray.mk #[109,111,118,101])) rfl rfl rfl]
  go_wp2
  rw[rM underlying99 underlying3 w _ [M [],M [(1,.string (ByteArray.mk #[109,111,118,101])),(2,.string (ByteArray.mk #[108,105,110,101]))]] 1 [(1,.string (ByteArray.mk #[109,111,118,101]))] 2 (.string (ByteArray.mk #[108,105,110,101])) rfl rfl rfl]
  go_wp2
  rw[rM underlying99 underlying3 w _ [M [],M [(1,.string (ByteArray.mk #[109,111,118,101])),(2,.string (ByteArray.mk #[108,105,110,101])),(4,.string (ByteArray.mk #[98,114,101,97,107]))]] 1 [(1,.string (ByteArray.mk #[109,111,118,101])),(2,.string (ByteArray.mk #[108,105,110,101]))] 4 (.string (ByteArray.mk #[98,114,101,97,107])) rfl rfl rfl]
  go_wp2
  rw[rM underlying99 underlying3 w _ [M [],M [(1,.string (ByteArray.mk #[109,111,118,101])),(2,.string (ByteArray.mk #[108,105,110,101])),(4,.string (ByteArray.mk #[98,114,101,97,107])),(3,.string (ByteArray.mk #[115,116,97,109,112]))]] 1 [(1,.string (ByteArray.mk #[109,111,118,101])),(2,.string (ByteArray.mk #[108,105,110,101])),(4,.string (ByteArray.mk #[98,114,101,97,107]))] 3 (.string (ByteArray.mk #[115,116,97,109,112])) rfl rfl rfl]
  go_wp2
  rw[aOk underlying105 underlying3 w _ [M [(1,.agg #[.map (some (w.heap.size+1)),Value.func (Fn.func 99) #[] #[],Value.func (Fn.func 101) #[] #[]])],M [(1,.string (ByteArray.mk #[109,111,118,101])),(2,.string (ByteArray.mk #[108,105,110,101])),(4,.string (ByteArray.mk #[98,114,101,97,107])),(3,.string (ByteArray.mk #[115,116,97,109,112]))]] [] 1 (.agg #[.map (some (w.heap.size+1)),Value.func (Fn.func 99) #[] #[],Value.func (Fn.func 101) #[] #[]]) rfl rfl rfl]
  go_wp2
  rw[aIm]
  go_wp2
  rw[rM underlying99 underlying3 w _ [M [(1,.agg #[.map (some (w.heap.size+1)),Value.func (Fn.func 99) #[] #[],Value.func (Fn.func 101) #[] #[]])],M [(1,.string (ByteArray.mk #[109,111,118,101])),(2,.string (ByteArray.mk #[108,105,110,101])),(4,.string (ByteArray.mk #[98,114,101,97,107])),(3,.string (ByteArray.mk #[115,116,97,109,112]))],M [(1,.string (ByteArray.mk #[109]))]] 2 [] 1 (.string (ByteArray.mk #[109])) rfl rfl rfl]
  go_wp2
  rw[rM underlying99 underlying3 w _ [M [(1,.agg #[.map (some (w.heap.size+1)),Value.func (Fn.func 99) #[] #[],Value.func (Fn.func 101) #[] #[]])],M [(1,.string (ByteArray.mk #[109,111,118,101])),(2,.string (ByteArray.mk #[108,105,110,101])),(4,.string (ByteArray.mk #[98,114,101,97,107])),(3,.string (ByteArray.mk #[115,116,97,109,112]))],M [(1,.string (ByteArray.mk #[109])),(2,.string (ByteArray.mk #[108]))]] 2 [(1,.string (ByteArray.mk #[109]))] 2 (.string (ByteArray.mk #[108])) rfl rfl rfl]
  go_wp2
  rw[rM underlying99 underlying3 w _ [M [(1,.agg #[.map (some (w.heap.size+1)),Value.func (Fn.func 99) #[] #[],Value.func (Fn.func 101) #[] #[]])],M [(1,.string (ByteArray.mk #[109,111,118,101])),(2,.string (ByteArray.mk #[108,105,110,101])),(4,.string (ByteArray.mk #[98,114,101,97,107])),(3,.string (ByteArray.mk #[115,116,97,109,112]))],M [(1,.string (ByteArray.mk #[109])),(2,.string (ByteArray.mk #[108])),(4,.string (ByteArray.mk #[98]))]] 2 [(1,.string (ByteArray.mk #[109])),(2,.string (ByteArray.mk #[108]))] 4 (.string (ByteArray.mk #[98])) rfl rfl rfl]
  go_wp2
  rw[rM underlying99 underlying3 w _ [M [(1,.agg #[.map (some (w.heap.size+1)),Value.func (Fn.func 99) #[] #[],Value.func (Fn.func 101) #[] #[]])],M [(1,.string (ByteArray.mk #[109,111,118,101])),(2,.string (ByteArray.mk #[108,105,110,101])),(4,.string (ByteArray.mk #[98,114,101,97,107])),(3,.string (ByteArray.mk #[115,116,97,109,112]))],M [(1,.string (ByteArray.mk #[109])),(2,.string (ByteArray.mk #[108])),(4,.string (ByteArray.mk #[98])),(3,.string (ByteArray.mk #[115]))]] 2 [(1,.string (ByteArray.mk #[109])),(2,.string (ByteArray.mk #[108])),(4,.string (ByteArray.mk #[98]))] 3 (.string (ByteArray.mk #[115])) rfl rfl rfl]
  go_wp2
  rw[aOk underlying105 underlying3 w _ [M [(1,.agg #[.map (some (w.heap.size+1)),Value.func (Fn.func 99) #[] #[],Value.func (Fn.func 101) #[] #[]]),(2,.agg #[.map (some (w.heap.size+2)),Value.func (Fn.func 100) #[] #[],Value.func (Fn.func 102) #[] #[]])],M [(1,.string (ByteArray.mk #[109,111,118,101])),(2,.string (ByteArray.mk #[108,105,110,101])),(4,.string (ByteArray.mk #[98,114,101,97,107])),(3,.string (ByteArray.mk #[115,116,97,109,112]))],M [(1,.string (ByteArray.mk #[109])),(2,.string (ByteArray.mk #[108])),(4,.string (ByteArray.mk #[98])),(3,.string (ByteArray.mk #[115]))]] [(1,.agg #[.map (some (w.heap.size+1)),Value.func (Fn.func 99) #[] #[],Value.func (Fn.func 101) #[] #[]])] 2 (.agg #[.map (some (w.heap.size+2)),Value.func (Fn.func 100) #[] #[],Value.func (Fn.func 102) #[] #[]]) rfl rfl rfl]
  go_wp2
  rw[aIm]
  go_wp2
  rw[rM underlying99 underlying3 w _ [M [(1,.agg #[.map (some (w.heap.size+1)),Value.func (Fn.func 99) #[] #[],Value.func (Fn.func 101) #[] #[]]),(2,.agg #[.map (some (w.heap.size+2)),Value.func (Fn.func 100) #[] #[],Value.func (Fn.func 102) #[] #[]])],M [(1,.string (ByteArray.mk #[109,111,118,101])),(2,.string (ByteArray.mk #[108,105,110,101])),(4,.string (ByteArray.mk #[98,114,101,97,107])),(3,.string (ByteArray.mk #[115,116,97,109,112]))],M [(1,.string (ByteArray.mk #[109])),(2,.string (ByteArray.mk #[108])),(4,.string (ByteArray.mk #[98])),(3,.string (ByteArray.mk #[115]))],M [(5,.string (ByteArray.mk #[109,111,117,110,116]))]] 3 [] 5 (.string (ByteArray.mk #[109,111,117,110,116])) rfl rfl rfl]
  go_wp2
  rw[rM underlying99 underlying3 w _ [M [(1,.agg #[.map (some (w.heap.size+1)),Value.func (Fn.func 99) #[] #[],Value.func (Fn.func 101) #[] #[]]),(2,.agg #[.map (some (w.heap.size+2)),Value.func (Fn.func 100) #[] #[],Value.func (Fn.func 102) #[] #[]])],M [(1,.string (ByteArray.mk #[109,111,118,101])),(2,.string (ByteArray.mk #[108,105,110,101])),(4,.string (ByteArray.mk #[98,114,101,97,107])),(3,.string (ByteArray.mk #[115,116,97,109,112]))],M [(1,.string (ByteArray.mk #[109])),(2,.string (ByteArray.mk #[108])),(4,.string (ByteArray.mk #[98])),(3,.string (ByteArray.mk #[115]))],M [(5,.string (ByteArray.mk #[109,111,117,110,116])),(6,.string (ByteArray.mk #[98,101,110,100]))]] 3 [(5,.string (ByteArray.mk #[109,111,117,110,116]))] 6 (.string (ByteArray.mk #[98,101,110,100])) rfl rfl rfl]
  go_wp2
  rw[aOk underlying105 underlying3 w _ [M [(1,.agg #[.map (some (w.heap.size+1)),Value.func (Fn.func 99) #[] #[],Value.func (Fn.func 101) #[] #[]]),(2,.agg #[.map (some (w.heap.size+2)),Value.func (Fn.func 100) #[] #[],Value.func (Fn.func 102) #[] #[]]),(3,.agg #[.map (some (w.heap.size+3)),Value.func (Fn.func 103) #[] #[],Value.func (Fn.func 104) #[] #[]])],M [(1,.string (ByteArray.mk #[109,111,118,101])),(2,.string (ByteArray.mk #[108,105,110,101])),(4,.string (ByteArray.mk #[98,114,101,97,107])),(3,.string (ByteArray.mk #[115,116,97,109,112]))],M [(1,.string (ByteArray.mk #[109])),(2,.string (ByteArray.mk #[108])),(4,.string (ByteArray.mk #[98])),(3,.string (ByteArray.mk #[115]))],M [(5,.string (ByteArray.mk #[109,111,117,110,116])),(6,.string (ByteArray.mk #[98,101,110,100]))]] [(1,.agg #[.map (some (w.heap.size+1)),Value.func (Fn.func 99) #[] #[],Value.func (Fn.func 101) #[] #[]]),(2,.agg #[.map (some (w.heap.size+2)),Value.func (Fn.func 100) #[] #[],Value.func (Fn.func 102) #[] #[]])] 3 (.agg #[.map (some (w.heap.size+3)),Value.func (Fn.func 103) #[] #[],Value.func (Fn.func 104) #[] #[]]) rfl rfl rfl]
  go_wp2
  go_ret
  exact⟨rfl,rfl⟩
 rw[<- bPT w] at f;exact f
end Go.Proofs.YtjjbojomlfgjlaaGreatDoor
namespace Go.Proofs.YtjjbojomlfgjlaaGreatDoor
open Go.Proofs.Tryz
open Go.Vm Go.RowKit
set_option linter.unusedVariables false
structure Seg where
 X1:Int
 Y1:Int
 X2:Int
 Y2:Int
instance:Inhabited Seg:=⟨⟨default,default,default,default⟩⟩
structure aA where
 X:Int
 Y:Int
 W:Int
 H:Int
instance:Inhabited aA:=⟨⟨default,default,default,default⟩⟩
structure Opn where
 Kind:Int
 X:Int
 Y:Int
 W:Int
 H:Int
 N:Int
instance:Inhabited Opn:=⟨⟨default,default,default,default,default,default⟩⟩
structure Cel where
 i:Int
 j:Int
instance:Inhabited Cel:=⟨⟨default,default⟩⟩
structure Par where
 e0:Int
 e1:Int
instance:Inhabited Par:=⟨⟨default,default⟩⟩
structure Pce where
 Name:ByteArray
 Material:ByteArray
 Gauge:Int
 Grain:Int
 Rects:List aA
 Cuts:List aA
 Forms:List aA
instance:Inhabited Pce:=⟨⟨default,default,default,default,default,default,default⟩⟩
structure Edg where
 qaq:Int
 qau:Int
 qar:Int
 qav:Int
 A:Int
 B:Int
instance:Inhabited Edg:=⟨⟨default,default,default,default,default,default⟩⟩
structure Itm where
 Piece:Int
 Hole:Int
 Joints:Int
 Lead_X:Int
 Lead_Y:Int
instance:Inhabited Itm:=⟨⟨default,default,default,default,default⟩⟩
structure Lin where
 At_X1:Int
 At_Y1:Int
 At_X2:Int
 At_Y2:Int
 Low:Int
 High:Int
instance:Inhabited Lin:=⟨⟨default,default,default,default,default,default⟩⟩
structure Sta where
 Cut:List Bool
 Holes:zzB
 sA:List Bool
 Joints:zzI
 Fallen:List Bool
instance:Inhabited Sta:=⟨⟨default,default,default,default,default⟩⟩
inductive Knd where
 |seg
 |rect
 |op
 |int
 |str
 |rects
 |bool
 |bools
 |ints
 |cell
 |par
 |pc
 |edge
 |item
 |lin
 |st
def Knd.num:Knd->Nat
 | .seg=>0
 | .rect=>1
 | .op=>2
 | .int=>3
 | .str=>4
 | .rects=>5
 | .bool=>6
 | .bools=>7
 | .ints=>8
 | .cell=>9
 | .par=>10
 | .pc=>11
 | .edge=>12
 | .item=>13
 | .lin=>14
 | .st=>15
theorem Knd.bLc:∀{a b:Knd},a.num=b.num->a=b:=by
 intro a b h;cases a<;>cases b<;>first|rfl|cases h
def Knd.deq (a b:Knd):Decidable (a=b):=if h:a.num=b.num then .isTrue (Knd.bLc h) else .isFalse fun e=>h (by rw[e])
inductive Opq where
 |bld
 |dead
abbrev UU:eW where
 τ:=Knd
 deq:=Knd.deq
 T:=fun k=>match k with
  | .seg=>Seg
  | .rect=>aA
  | .op=>Opn
  | .int=>Int
  | .str=>ByteArray
  | .rects=>List aA
  | .bool=>Bool
  | .bools=>List Bool
  | .ints=>zzI
  | .cell=>Cel
  | .par=>Par
  | .pc=>Pce
  | .edge=>Edg
  | .item=>Itm
  | .lin=>Lin
  | .st=>Sta
 ety:=fun k=>match k with
  | .seg=>63
  | .rect=>53
  | .op=>55
  | .int=>3
  | .str=>9
  | .rects=>22
  | .bool=>4
  | .bools=>43
  | .ints=>45
  | .cell=>208
  | .par=>254
  | .pc=>51
  | .edge=>65
  | .item=>59
  | .lin=>177
  | .st=>95
 size:=fun k=>match k with
  | .seg=>4
  | .rect=>4
  | .op=>6
  | .int=>1
  | .str=>1
  | .rects=>1
  | .bool=>1
  | .bools=>1
  | .ints=>1
  | .cell=>2
  | .par=>2
  | .pc=>7
  | .edge=>6
  | .item=>5
  | .lin=>6
  | .st=>5
 unsl:=fun t f=>match t,f with
  | .rects,.rect=>fun ys=>some ys
  | .bools,.bool=>fun ys=>some ys
  | .ints,.int=>fun ys=>some ys
  |_,_=>fun _=>none
 κ:=Opq
 K:=fun k=>match k with
  | .bld=>ByteArray
  | .dead=>Unit
 φ:=Frz
def aAT:(t:Knd)->UU.T t->List (aC UU)
 | .seg,x=>[.int .i64 (Seg.X1 x),.int .i64 (Seg.Y1 x),.int .i64 (Seg.X2 x),.int .i64 (Seg.Y2 x)]
 | .rect,x=>[.int .i64 (aA.X x),.int .i64 (aA.Y x),.int .i64 (aA.W x),.int .i64 (aA.H x)]
 | .op,x=>[.int .i64 (Opn.Kind x),.int .i64 (Opn.X x),.int .i64 (Opn.Y x),.int .i64 (Opn.W x),.int .i64 (Opn.H x),.int .i64 (Opn.N x)]
 | .int,x=>[.int .i64 x]
 | .str,x=>[.str x]
 | .rects,x=>[.sl .rect x]
 | .bool,x=>[.bool x]
 | .bools,x=>[.sl .bool x]
 | .ints,x=>[.sl .int x]
 | .cell,x=>[.int .i64 (Cel.i x),.int .i64 (Cel.j x)]
 | .par,x=>[.int .i64 (Par.e0 x),.int .i64 (Par.e1 x)]
 | .pc,x=>[.str (Pce.Name x),.str (Pce.Material x),.int .i64 (Pce.Gauge x),.int .i64 (Pce.Grain x),.sl .rect (Pce.Rects x),.sl .rect (Pce.Cuts x),.sl .rect (Pce.Forms x)]
 | .edge,x=>[.int .i64 (Edg.qaq x),.int .i64 (Edg.qau x),.int .i64 (Edg.qar x),.int .i64 (Edg.qav x),.int .i64 (Edg.A x),.int .i64 (Edg.B x)]
 | .item,x=>[.int .i64 (Itm.Piece x),.int .i64 (Itm.Hole x),.int .i64 (Itm.Joints x),.int .i64 (Itm.Lead_X x),.int .i64 (Itm.Lead_Y x)]
 | .lin,x=>[.int .i64 (Lin.At_X1 x),.int .i64 (Lin.At_Y1 x),.int .i64 (Lin.At_X2 x),.int .i64 (Lin.At_Y2 x),.int .i64 (Lin.Low x),.int .i64 (Lin.High x)]
 | .st,x=>[.sl .bool (Sta.Cut x),.sl .bools (Sta.Holes x),.sl .bool (Sta.sA x),.sl .int (Sta.Joints x),.sl .bool (Sta.Fallen x)]
def pP (t:Knd):aC UU->Option (List (UU.T t))
 | .sl f ys=>rV (U:=UU) t f ys
 | .nils=>some []
 |_=>none
theorem rD {t:Knd} {y:aC UU} {f:List (UU.T t)} (h:pP t y=some f):y=.sl t f\/(y=.nils/\f=[]):=by
 unfold pP at h;split at h
 ·rename_i r ys;obtain⟨rfl,rfl⟩:=tC h;exact .inl rfl
 ·cases h;exact .inr ⟨rfl,rfl⟩
 ·cases h
def aFW:(t:Knd)->List (aC UU)->Option (UU.T t)
 | .seg,[.int .i64 f,.int .i64 r,.int .i64 G,.int .i64 u]=>some ⟨f,r,G,u⟩
 | .rect,[.int .i64 f,.int .i64 r,.int .i64 G,.int .i64 u]=>some ⟨f,r,G,u⟩
 | .op,[.int .i64 f,.int .i64 r,.int .i64 G,.int .i64 u,.int .i64 L,.int .i64 O]=>some ⟨f,r,G,u,L,O⟩
 | .int,[.int .i64 f]=>some f
 | .str,[.str f]=>some f
 | .rects,[J]=>(pP .rect J).bind fun I=>some I
 | .bool,[.bool f]=>some f
 | .bools,[J]=>(pP .bool J).bind fun I=>some I
 | .ints,[J]=>(pP .int J).bind fun I=>some I
 | .cell,[.int .i64 f,.int .i64 r]=>some ⟨f,r⟩
 | .par,[.int .i64 f,.int .i64 r]=>some ⟨f,r⟩
 | .pc,[.str f,.str r,.int .i64 G,.int .i64 u,V,y5,y6]=>(pP .rect V).bind fun S=>(pP .rect y5).bind fun z5=>(pP .rect y6).bind fun Z=>some ⟨f,r,G,u,S,z5,Z⟩
 | .edge,[.int .i64 f,.int .i64 r,.int .i64 G,.int .i64 u,.int .i64 L,.int .i64 O]=>some ⟨f,r,G,u,L,O⟩
 | .item,[.int .i64 f,.int .i64 r,.int .i64 G,.int .i64 u,.int .i64 L]=>some ⟨f,r,G,u,L⟩
 | .lin,[.int .i64 f,.int .i64 r,.int .i64 G,.int .i64 u,.int .i64 L,.int .i64 O]=>some ⟨f,r,G,u,L,O⟩
 | .st,[J,y1,y2,y3,V]=>(pP .bool J).bind fun I=>(pP .bools y1).bind fun z1=>(pP .bool y2).bind fun z2=>(pP .int y3).bind fun z3=>(pP .bool V).bind fun S=>some ⟨I,z1,z2,z3,S⟩
 |_,_=>none
theorem bTQ:∀t l x,aFW t l=some x->l.length=UU.size t:=by
 intro t l x h;unfold aFW at h;split at h<;>first|rfl|cases h
theorem bSI:∀t x,∀c∈aAT t x,c.flat=true/\c.aFC=true:=by
 intro t x c f;cases t<;>(unfold aAT at f;simp only[List.mem_cons,List.not_mem_nil,or_false] at f;first| (rcases f with rfl|f<;>first|exact⟨rfl,rfl⟩|skip)| (subst f;exact⟨rfl,rfl⟩))
 all_goals (repeat (first| (subst f;exact⟨rfl,rfl⟩)| (rcases f with rfl|f;exact⟨rfl,rfl⟩)))
theorem bTR:∀t l x,aFW t l=some x->∀k,k<UU.size t->(l.getD k .any=(aAT t x).getD k .any\/(l.getD k .any=.nils/\∃t',(aAT t x).getD k .any=.sl t' [])):=by
 intro t l x h k G;unfold aFW at h;split at h
 ·cases h;exact .inl rfl
 ·cases h;exact .inl rfl
 ·cases h;exact .inl rfl
 ·cases h;exact .inl rfl
 ·cases h;exact .inl rfl
 ·simp only[Option.bind_eq_some_iff] at h;obtain⟨I,u,h⟩:=h;cases h;rcases Nat.lt_or_ge k 1 with f|f
  ·have r:k=0:=XY;rcases r with rfl
   ·rcases rD u with rfl|⟨rfl,rfl⟩
    ·exact .inl rfl
    ·exact .inr ⟨rfl,_,rfl⟩
  ·exact absurd G (Nat.not_lt.2 f)
 ·cases h;exact .inl rfl
 ·simp only[Option.bind_eq_some_iff] at h;obtain⟨I,u,h⟩:=h;cases h;rcases Nat.lt_or_ge k 1 with f|f
  ·have r:k=0:=XY;rcases r with rfl
   ·rcases rD u with rfl|⟨rfl,rfl⟩
    ·exact .inl rfl
    ·exact .inr ⟨rfl,_,rfl⟩
  ·exact absurd G (Nat.not_lt.2 f)
 ·simp only[Option.bind_eq_some_iff] at h;obtain⟨I,u,h⟩:=h;cases h;rcases Nat.lt_or_ge k 1 with f|f
  ·have r:k=0:=XY;rcases r with rfl
   ·rcases rD u with rfl|⟨rfl,rfl⟩
    ·exact .inl rfl
    ·exact .inr ⟨rfl,_,rfl⟩
  ·exact absurd G (Nat.not_lt.2 f)
 ·cases h;exact .inl rfl
 ·cases h;exact .inl rfl
 ·simp only[Option.bind_eq_some_iff] at h;obtain⟨L,J,z5,O,z6,h6,h⟩:=h;cases h;rcases Nat.lt_or_ge k 7 with f|f
  ·have r:k=0\/k=1\/k=2\/k=3\/k=4\/k=5\/k=6:=XY;rcases r with rfl|rfl|rfl|rfl|rfl|rfl|rfl
   ·exact .inl rfl
   ·exact .inl rfl
   ·exact .inl rfl
   ·exact .inl rfl
   ·rcases rD J with rfl|⟨rfl,rfl⟩
    ·exact .inl rfl
    ·exact .inr ⟨rfl,_,rfl⟩
   ·rcases rD O with rfl|⟨rfl,rfl⟩
    ·exact .inl rfl
    ·exact .inr ⟨rfl,_,rfl⟩
   ·rcases rD h6 with rfl|⟨rfl,rfl⟩
    ·exact .inl rfl
    ·exact .inr ⟨rfl,_,rfl⟩
  ·exact absurd G (Nat.not_lt.2 f)
 ·cases h;exact .inl rfl
 ·cases h;exact .inl rfl
 ·cases h;exact .inl rfl
 ·simp only[Option.bind_eq_some_iff] at h;obtain⟨I,u,z1,Z,z2,V,z3,S,L,J,h⟩:=h;cases h;rcases Nat.lt_or_ge k 5 with f|f
  ·have r:k=0\/k=1\/k=2\/k=3\/k=4:=XY;rcases r with rfl|rfl|rfl|rfl|rfl
   ·rcases rD u with rfl|⟨rfl,rfl⟩
    ·exact .inl rfl
    ·exact .inr ⟨rfl,_,rfl⟩
   ·rcases rD Z with rfl|⟨rfl,rfl⟩
    ·exact .inl rfl
    ·exact .inr ⟨rfl,_,rfl⟩
   ·rcases rD V with rfl|⟨rfl,rfl⟩
    ·exact .inl rfl
    ·exact .inr ⟨rfl,_,rfl⟩
   ·rcases rD S with rfl|⟨rfl,rfl⟩
    ·exact .inl rfl
    ·exact .inr ⟨rfl,_,rfl⟩
   ·rcases rD J with rfl|⟨rfl,rfl⟩
    ·exact .inl rfl
    ·exact .inr ⟨rfl,_,rfl⟩
  ·exact absurd G (Nat.not_lt.2 f)
 ·cases h
def bTP:(t:Knd)->UU.T t
 | .seg=>(default:Seg)
 | .rect=>(default:aA)
 | .op=>(default:Opn)
 | .int=>(default:Int)
 | .str=>(default:ByteArray)
 | .rects=>(default:List aA)
 | .bool=>(default:Bool)
 | .bools=>(default:List Bool)
 | .ints=>(default:zzI)
 | .cell=>(default:Cel)
 | .par=>(default:Par)
 | .pc=>(default:Pce)
 | .edge=>(default:Edg)
 | .item=>(default:Itm)
 | .lin=>(default:Lin)
 | .st=>(default:Sta)
def aRg:Knd->Bool
 | .seg=>true
 | .rect=>true
 | .op=>true
 | .int=>true
 | .str=>true
 | .rects=>false
 | .bool=>true
 | .bools=>false
 | .ints=>false
 | .cell=>true
 | .par=>true
 | .pc=>false
 | .edge=>true
 | .item=>true
 | .lin=>true
 | .st=>false
theorem bJr:∀t x,aRg t=true->∀c∈aAT t x,c.pure=true:=by
 intro t x h c f;cases t<;>(first| (cases h;done)|skip)<;>(unfold aAT at f;simp only[List.mem_cons,List.not_mem_nil,or_false] at f)
 all_goals (repeat (first| (subst f;rfl)| (rcases f with rfl|f;rfl)))
def bOi:Knd->Option Knd
 | .seg=>none
 | .rect=>none
 | .op=>none
 | .int=>none
 | .str=>none
 | .rects=>some .rect
 | .bool=>none
 | .bools=>some .bool
 | .ints=>some .int
 | .cell=>none
 | .par=>none
 | .pc=>none
 | .edge=>none
 | .item=>none
 | .lin=>none
 | .st=>none
def EE:Enc UU where
 enc:=aAT
 dec:=aFW
 dflt:=bTP
 enc_len:=fun t x=>by cases t<;>rfl
 enc_flat:=bSI
 dec_len:=bTQ
 dec_enc:=bTR
 pos:=fun t=>by cases t<;>decide
 plain:=aRg
 plain_ok:=bJr
 unsl_ok:=fun t r ys y h=>by cases t<;>cases r<;>first| (cases h;done)| (cases h;rfl)
 inner:=bOi
 inner_ok:=fun t r h x=>by cases t<;>first| (cases h;done)| (cases h;exact⟨_,rfl⟩)
 rep:=fun k=>match k with
  | .bld=>uF
  | .dead=>fun _=>aDi
 rep_val:=fun k d w base p f h=>by
  cases k with
  |bld=>exact bI2 h
  |dead=>exact bI0 h
 rep_mem:=fun k d w base p f i g u h G=>by
  cases k with
  |bld=>exact aR0 h G
  |dead=>exact h.2 i g u G
 rep_mono:=fun k d w w' base p f h J I=>by
  cases k with
  |bld=>exact bI3 h J I
  |dead=>exact bI1 h J I
 frep:=aFM
 frep_mono:=bQc
 frep_cell:=bQd
def bBY (t:TypeId):Option Knd:=
 cond (Nat.beq t 63) (some .seg) (cond (Nat.beq t 53) (some .rect) (cond (Nat.beq t 55) (some .op) (cond (Nat.beq t 3) (some .int) (cond (Nat.beq t 9) (some .str) (cond (Nat.beq t 22) (some .rects) (cond (Nat.beq t 4) (some .bool) (cond (Nat.beq t 43) (some .bools) (cond (Nat.beq t 45) (some .ints) (cond (Nat.beq t 208) (some .cell) (cond (Nat.beq t 254) (some .par) (cond (Nat.beq t 51) (some .pc) (cond (Nat.beq t 65) (some .edge) (cond (Nat.beq t 59) (some .item) (cond (Nat.beq t 177) (some .lin) (cond (Nat.beq t 95) (some .st) (none))))))))))))))))
def aHx (t:TypeId):Bool:=Nat.beq t 53||Nat.beq t 55||Nat.beq t 63
theorem aRf:∀t,aHx t=true->bD9 prog t:=by
 intro t h;unfold aHx at h
 try simp only[Bool.or_eq_true] at h
 rcases h with (h|h)|h
 all_goals (obtain rfl:=QZ h;exact⟨XW,XW,XW⟩)
def aMy (t:TypeId):Option ((k:UU.κ)×UU.K k):=cond (Nat.beq t 110) (some ⟨.bld,ByteArray.empty⟩) none
theorem bKS:∀t x,aMy t=some x->∀(w:World) (base:Nat),base<=w.heap.size->∃w',(Instr.alloc t true (.tuple #[])).run prog w=.ok (.pointer (some ⟨w.heap.size,0,none⟩)) w'/\Below w.heap.size w w'/\
  EE.rep x.1 x.2 w' base (some (0,.pointer (some ⟨w.heap.size,0,none⟩))) (fun _=>none):=by
 intro t x h w base hb;unfold aMy at h;cases f:Nat.beq t 110 with
 |false=>rw[f] at h;cases h
 |true=>
  rw[f] at h;cases h;obtain rfl:=QZ f;exact bV2 w base hb
def aFV (n:Int):aC UU:=cond (n==1) (.agg [.frz .W1,.fn 99 [],.fn 101 []]) (cond (n==2) (.agg [.frz .W2,.fn 100 [],.fn 102 []]) (cond (n==3) (.agg [.frz .W3,.fn 103 [],.fn 104 []]) (.agg [.raw (Value.map none),.raw Value.nilFunc,.raw Value.nilFunc])))
def bBC:Frz->TypeId->Option (Int->aC UU×aC UU)
 | .W1,t=>cond (Nat.beq t 99) (some fun n=>(.str (kM wl1 n),.bool (lN [1,2,4,3] n))) none
 | .W2,t=>cond (Nat.beq t 99) (some fun n=>(.str (kM pH n),.bool (lN [1,2,4,3] n))) none
 | .W3,t=>cond (Nat.beq t 99) (some fun n=>(.str (kM wl3 n),.bool (lN [5,6] n))) none
 | .D,t=>cond (Nat.beq t 105) (some fun n=>(aFV n,.bool (lN [1,2,3] n))) none
theorem aPO {l:List (Int×ByteArray)} {w:World} {st:Nat->Prop} {v:Value} (n:Int) (h:isMap (strs l) w st v):(Instr.lookup 99 v (.int .i64 n) true).run prog w=.ok (.tuple #[.string (kM l n),.bool (lN ((strs l).map (·.1)) n)]) w:=by
 obtain⟨b,rfl,_,hb⟩:=h;have f:(zeroValue 9).run prog w=.ok (.string ByteArray.empty) w:=zeroValue9 w;rw[aVx underlying99 underlying3 f hb n,aRI]
theorem fn0 {w:World} {st:Nat->Prop} (f:Nat):Rel EE w (fun _=>none) st (.fn f []:aC UU) (fv f):=.fn f [] #[] rfl (fun k r=>absurd r XU)
theorem aH8 {w:World} {st:Nat->Prop} {v:Value} (k:Frz) (h:aFM k w st v):Rel EE w (fun _=>none) st (.frz k:aC UU) v:=Rel.frz (U:=UU) (E:=EE) k v h
theorem aLa {w:World} {ρ:Own} {st:Nat->Prop} {x y z:aC UU} {a b c:Value} (hx:Rel EE w ρ st x a) (hy:Rel EE w ρ st y b) (f:Rel EE w ρ st z c):Rel EE w ρ st (.agg [x,y,z]) (.agg #[a,b,c]):=
 .agg _ _ rfl fun k r=>match k,r with
  |0,_=>hx
  |1,_=>hy
  |2,_=>f
theorem bQb:∀k t f,bBC k t=some f->∀(w:World) (st:Nat->Prop) (v:Value) (n:Int),EE.frep k w st v->∃u b,(Instr.lookup t v (.int .i64 n) true).run prog w=.ok (.tuple #[u,b]) w/\Rel EE w (fun _=>none) st (f n).1 u/\Rel EE w (fun _=>none) st (f n).2 b/\(f n).1.yP=true/\(f n).2.flat=true:=by
 intro k t f h w st v n hv;cases k with
 |D=>
  obtain⟨r,h⟩:=cM h;obtain rfl:=QZ r;cases h;obtain⟨J,I,G,V,S,O,b,rfl,_,hb⟩:=hv;have L:(zeroValue 103).run prog w=.ok (.agg #[.map none,.nilFunc,.nilFunc]) w:=zeroValue103 w;refine⟨_,_,aVx underlying105 underlying3 L hb n,?_,.bool _,?_,rfl⟩
  ·show Rel EE w _ st (aFV n) (uE _ (lD J I G) n);unfold aFV lD;simp only[uE];cases n==1
   ·cases n==2
    ·cases n==3
     ·exact aLa (.raw _) (.raw _) (.raw _)
     ·exact aLa (aH8 .W3 O) (fn0 _) (fn0 _)
    ·exact aLa (aH8 .W2 S) (fn0 _) (fn0 _)
   ·exact aLa (aH8 .W1 V) (fn0 _) (fn0 _)
  ·show (aFV n).yP=true;unfold aFV;cases n==1<;>cases n==2<;>cases n==3<;>rfl
 |W1=>
  obtain⟨r,h⟩:=cM h;obtain rfl:=QZ r;cases h;exact⟨_,_,aPO n hv,.str _,.bool _,rfl,rfl⟩
 |W2=>
  obtain⟨r,h⟩:=cM h;obtain rfl:=QZ r;cases h;exact⟨_,_,aPO n hv,.str _,.bool _,rfl,rfl⟩
 |W3=>
  obtain⟨r,h⟩:=cM h;obtain rfl:=QZ r;cases h;exact⟨_,_,aPO n hv,.str _,.bool _,rfl,rfl⟩
def dP (v:Value):Prop:=(∃n:Int,v=.iface 219 (.int .i64 n))\/v=.iface 215 (.agg #[])
def fS:Value->Value->Bool
 | .iface 219 (.int .i64 a),.iface 219 (.int .i64 b)=>a==b
 | .iface 215 _,.iface 215 _=>true
 |_,_=>false
def iV:Value->Bool
 | .iface 219 _=>true
 |_=>false
def aD3:Value->Int
 | .iface 219 (.int .i64 n)=>n
 |_=>0
noncomputable def aOm (o:Oper) (xs:List (aC UU)):Option (List Prop×aC UU):=
 match o.op with
 | .binOp .eql 159 _ _ _=>match xs with
  |[.raw a,.raw b]=>some ([dP a/\dP b],.bool (fS a b))
  |_=>none
 | .binOp .neq 159 _ _ _=>match xs with
  |[.raw a,.raw b]=>some ([dP a/\dP b],.bool !(fS a b))
  |_=>none
 | .call c=>match c.callee,xs with
  | .invoke _ m,[.raw a]=>cond (Nat.beq c.args.size 0) (some ([dP a/\m= "sheetmetal/cut.solid"],.bool (iV a))) none
  |_,_=>none
 | .makeInterface 219 _=>match xs with
  |[.int .i64 n]=>some ([],.raw (.iface 219 (.int .i64 n)))
  |_=>none
 | .typeAssert _ 159 219 true=>match xs with
  |[.raw a]=>some ([dP a],.tup [.int .i64 (aD3 a),.bool (iV a)])
  |_=>none
 |_=>none
theorem aRs {p q:Prop} (e:p=q) (h:q):p:=e▸h
noncomputable def aPy:Cfg UU:={P:=prog,E:=EE,elt:=bBY,sum:=fun _=>none,plain:=aHx,plainOK:=aRf,deep:=false,inv:=fun _=>True,invOK:=fun _ _ _ _=>trivial}
theorem aRL:aW aPy:=⟨fun f m h=>(by cases h),fun f m h=>(by cases h)⟩
def aNh:Model UU
 |[.agg []]=>some ([],.bool false)
 |_=>none
def aNg:Model UU
 |[.int .i64 _]=>some ([],.bool true)
 |_=>none
theorem bHT:aW (aPy.add 289 aNh):=aRL.aCv (c:=bo f289) mixed func289 XW XW fun xs f r h _=>by
 unfold aNh at h;split at h
 ·cases h;exact⟨XW,fun _ _ _=>⟨[],[],[],[],[]⟩,0,false,⟨aRs (q:=aC.bool (U:=UU) false=aC.bool false) XW rfl⟩⟩
 ·cases h
theorem bGo:aW (aPy.add 290 aNg):=aRL.aCv (c:=bo f290) mixed func290 XW XW fun xs f r h _=>by
 unfold aNg at h;split at h
 ·cases h;exact⟨XW,fun _ _ _=>⟨[],[],[],[],[]⟩,0,false,⟨aRs (q:=aC.bool (U:=UU) true=aC.bool true) XW rfl⟩⟩
 ·cases h
theorem bOb (x:Value) (w:World):(invoke (.fn (.method "sheetmetal/cut.solid") #[]) #[.iface 215 x]).run prog w=.ok (.enter 289 #[x]) w:=XW
theorem bOa (x:Value) (w:World):(invoke (.fn (.method "sheetmetal/cut.solid") #[]) #[.iface 219 x]).run prog w=.ok (.enter 290 #[x]) w:=XW
theorem bFO {a b:Value} (f:dP a) (hb:dP b) (X Y:Operand) (w:World):(do eqGuard .eql 159 X Y a b;binOp .eql 159 a b:Sem Value).run prog w=.ok (.bool (fS a b)) w:=by
 rcases f with ⟨n,rfl⟩|rfl<;>rcases hb with ⟨m,rfl⟩|rfl<;>kernel_rfl
theorem bFM {a b:Value} (f:dP a) (hb:dP b) (X Y:Operand) (w:World):(do eqGuard .neq 159 X Y a b;binOp .neq 159 a b:Sem Value).run prog w=.ok (.bool !(fS a b)) w:=by
 rcases f with ⟨n,rfl⟩|rfl<;>rcases hb with ⟨m,rfl⟩|rfl<;>kernel_rfl
theorem bFQ {a:Value} (f:dP a) (w:World):(Instr.typeAssert a 159 219 true).run prog w=.ok (.tuple #[.int .i64 (aD3 a),.bool (iV a)]) w:=by
 rcases f with ⟨n,rfl⟩|rfl<;>kernel_rfl
theorem bFN (x:Value) (w:World):(Instr.makeInterface 219 x).run prog w=.ok (.iface 219 x) w:=XW
theorem bFP {a:Value} (G:dP a) (w:World):∃f r,(invoke (.fn (.method "sheetmetal/cut.solid") #[]) #[a]).run prog w=.ok (.enter f r) w/\Calls prog f r w fun e w'=>e=.returned (.bool (iV a))/\Below w.heap.size w w':=by
 rcases G with ⟨n,rfl⟩|rfl
 ·refine⟨290,_,bOa _ w,((bGo.1 290 aNg rfl).2 (fun _=>False) w #[.int .i64 n] [.int .i64 n] [] _ trivial (fun _ h=>h.elim) ⟨rfl,fun k u=>?_⟩ rfl trivial).mono ?_⟩
  ·obtain rfl:k=0:=by simpa using u
   exact .int _ _
  ·rintro e w' ⟨v,rfl,⟨ρ,h,_⟩,hb⟩
   cases h;exact⟨rfl,hb⟩
 ·refine⟨289,_,bOb _ w,((bHT.1 289 aNh rfl).2 (fun _=>False) w #[.agg #[]] [.agg []] [] _ trivial (fun _ h=>h.elim) ⟨rfl,fun k u=>?_⟩ rfl trivial).mono ?_⟩
  ·obtain rfl:k=0:=by simpa using u
   exact .agg _ _ rfl (fun k u=>by simp at u)
  ·rintro e w' ⟨v,rfl,⟨ρ,h,_⟩,hb⟩
   cases h;exact⟨rfl,hb⟩
set_option maxRecDepth 20000 in
theorem bOp:∀o xs cs r,aOm o xs=some (cs,r)->eQ cs->∀(a:Act) (w:World),(∀k:Nat,∀v,xs[k]?=some (.raw v)->((o.op.operands.toList.map a.eval)[k]?=some v))->(∀k:Nat,∀kd n,xs[k]?=some (.int kd n)->(o.op.operands.toList.map a.eval)[k]?=some (.int kd n))->
  ∃u,(∀w' ρ st,Rel EE w' ρ st r u)/\∀(K:Act->World->Prop) (Q:Exit->Act->World->Prop),(∀w',Below w.heap.size w w'->K (a.put o.dst u) w')->o.wp prog a w K Q:=by
 intro o xs cs r h Z a w G L;obtain⟨dst,op,ty,pos,after,guard⟩:=o;unfold aOm at h;simp only at h G L;split at h
 ·rename_i X Y zt;split at h
  ·rename_i p q;cases h;have e0:=G 0 p rfl;have e1:=G 1 q rfl;simp[Op.operands] at e0 e1;obtain⟨hp,hq⟩:=Z;refine⟨.bool (fS p q),fun _ _ _=>.bool _,fun K Q I=>lP (w':=w) ?_ (I w (Below.refl _ _))⟩;have:=bFO hp hq X Y w;show ((do pure (Next.value (<- (do eqGuard .eql 159 X Y (a.eval X) (a.eval Y);binOp .eql 159 (a.eval X) (a.eval Y):Sem Value))):Sem Next)).run prog w=_;rw[e0,e1];simp only[QM,JU] at this ⊢;rw[this];rfl
  ·cases h
 ·rename_i X Y zt;split at h
  ·rename_i p q;cases h;have e0:=G 0 p rfl;have e1:=G 1 q rfl;simp[Op.operands] at e0 e1;obtain⟨hp,hq⟩:=Z;refine⟨.bool (!fS p q),fun _ _ _=>.bool _,fun K Q I=>lP (w':=w) ?_ (I w (Below.refl _ _))⟩;have:=bFM hp hq X Y w;show ((do pure (Next.value (<- (do eqGuard .neq 159 X Y (a.eval X) (a.eval Y);binOp .neq 159 (a.eval X) (a.eval Y):Sem Value))):Sem Next)).run prog w=_;rw[e0,e1];simp only[QM,JU] at this ⊢;rw[this];rfl
  ·cases h
 ·rename_i c;obtain⟨callee,S,ts⟩:=c;split at h
  ·rename_i X m p O;simp only at O;subst O;obtain⟨hz,h⟩:=cM h;obtain rfl:S=#[]:=Array.eq_empty_of_size_eq_zero (QZ hz);cases h;have e0:=G 0 p rfl;simp[Op.operands,Call.operands] at e0;obtain⟨hp,rfl⟩:=Z;obtain⟨f,args,V,J⟩:=bFP hp w;refine⟨.bool (iV p),fun _ _ _=>.bool _,fun K Q I=>aGJ (f:=f) (args:=args) ?_ (J.mono ?_)⟩
   ·simp[execOp,resolve,e0,V]
   ·rintro e w' ⟨rfl,hb⟩
    exact⟨_,rfl,I w' hb⟩
  ·cases h
 ·rename_i X;split at h
  ·rename_i n;cases h;have e0:=L 0 .i64 n rfl;simp[Op.operands] at e0;refine⟨.iface 219 (.int .i64 n),fun _ _ _=>.raw _,fun K Q I=>lP (w':=w) ?_ (I w (Below.refl _ _))⟩;simp[execOp,e0,bFN]
  ·cases h
 ·rename_i X;split at h
  ·rename_i p;cases h;have e0:=G 0 p rfl;simp[Op.operands] at e0;have hp:dP p:=Z;refine⟨.tuple #[.int .i64 (aD3 p),.bool (iV p)],fun _ _ _=>.tup _ _ rfl (fun k hk=>?_),fun K Q I=>lP (w':=w) ?_ (I w (Below.refl _ _))⟩
   ·match k,hk with
    |0,_=>exact .int _ _
    |1,_=>exact .bool _
   ·simp[execOp,e0,bFQ hp]
  ·cases h
 ·cases h
noncomputable def fY:Cfg UU:={P:=prog,E:=EE,elt:=bBY,sum:=fun _=>none,plain:=aHx,plainOK:=aRf,deep:=false,inv:=inv1,invOK:=bOc,frzOf:=bBC,frzOK:=bQb,opqOf:=aMy,opqOK:=bKS,hook:=aOm,hookOK:=bOp}
theorem bIB:aW fY:=⟨fun f m h=>(by cases h),fun f m h=>(by cases h)⟩
abbrev zK:=AEx->ASt UU->Prop
def cS4 (c:Code):Code:=cS (cS (cS (cS c)))
def tmL:List (Nat×aC UU)->Nat->aC UU
 |[],_=>.any
 | (k,v)::l,u=>cond (Nat.beq u k) v (tmL l u)
def obL:List (Nat×bK UU)->Nat->Option (bK UU)
 |[],_=>none
 | (k,v)::l,u=>cond (Nat.beq u k) (some v) (obL l u)
def M0:Nat->Nat->Nat->Canon UU:=fun _ _ _=>⟨[],[],[],[],[]⟩
theorem of_eq {p q:Prop} (e:p=q) (h:q):p:=e▸h
theorem kF {α:Type} {p:Prop} (T S:α->Prop) (Q:α) (e:p=T Q) (h:∀Q,S Q->T Q) (f:S Q):p:=e▸h Q f
theorem cV {C:Cfg UU} (J:aW C) (u:C.P.follows .mixedOrders=true) {f:FuncId} {m:Model UU} {fn:Func} (O:C.P.funcs[f]?=some fn) (L:(fn.name== "runtime.NumGoroutine")=false) (hb:fn.body=some (bo fn))
  (hx:∀xs G r,m xs=some (G,r)->eQ G->(Nat.ble xs.length fn.ntmps&&Nat.ble fn.ntmps 1000000)=true/\∃M fuel S,sA (exec C fn.ntmps M fuel 0 (bo fn) (dD xs) (bJ C S fn fun I=>I=r))):aW (C.add f m):=J.aCv u O L hb hx
theorem tin {C:Cfg UU} (J:aW C) (u:C.P.follows .mixedOrders=true) {f:FuncId} {m:Model UU} {fn:Func} (O:C.P.funcs[f]?=some fn) (L:(fn.name== "runtime.NumGoroutine")=false) (hb:fn.body=some (bo fn)) (fr:Bool)
  (hx:∀xs G r,m xs=some (G,r)->(Nat.ble xs.length fn.ntmps&&Nat.ble fn.ntmps 1000000)=true/\exec C fn.ntmps M0 0 0 (bo fn) (dD xs) (bJ C fr fn fun I=>I=r)=(r=r)):aW (C.add f m):=
 J.aCv u O L hb fun xs G r h _=>⟨(hx xs G r h).1,M0,0,fr,⟨of_eq (hx xs G r h).2 rfl⟩⟩
noncomputable def bEU:Cfg UU:=bC5 (bC4 fY)
theorem bHY:aW bEU:=bID (sVN bIB rfl rfl rfl rfl fun _ h=>h.1.1) rfl rfl rfl rfl
end Go.Proofs.YtjjbojomlfgjlaaGreatDoor
set_option linter.unusedVariables false
namespace Go.Proofs
open Go.Proofs.Tryz
open Go.Shelf Go.RowKit
theorem bCI:(prog.info? 110).map (·.size)=some 2:=XW
theorem bV3:liesAt prog prog.depth 110 (2 / prog.cellsOf 110) 0 110 1=true:=XW
theorem bV7:(prog.info? 5).map (fun i=>(i.zero,i.size,i.bytes))=some (some (.int .u8 0),1,1):=XW
set_option maxHeartbeats 2000000 in
theorem bV5 (b:Nat) (w:World) (r:w.cell? ⟨b,0,none⟩=some (.pointer (some ⟨b,0,none⟩))):
  Calls prog 105 #[.pointer (some ⟨b,0,none⟩)] w fun e w'=>e=.returned (.tuple #[])/\w'=w:=by
 obtain⟨j,f,_⟩:=Option.map_eq_some_iff.1 bCI
 go_enter func105,ntmps105
 go_wp2
 rw[Lib.run_neq_ptr_same w _ underlying107 f]
 go_wp2
 go_end0
 exact⟨rfl,rfl⟩
set_option maxHeartbeats 2000000 in
theorem bV4 (b:Nat) (w:World) (I:w.cell? ⟨b,0,none⟩=some (.pointer none)) (f:w.shape? b=some (110,2)) (G:w.frozen? ⟨b,0,none⟩=false):
  Calls prog 105 #[.pointer (some ⟨b,0,none⟩)] w fun e w'=>e=.returned (.tuple #[])/\w'=w.setCell ⟨b,0,none⟩ (.pointer (some ⟨b,0,none⟩)):=by
 obtain⟨j,u,r⟩:=Option.map_eq_some_iff.1 bCI
 go_enter func105,ntmps105
 go_wp2
 rw[Lib.run_to_unsafe w ⟨b,0,none⟩ underlying107 underlying229 u (by rw[r];decide) f (Nat.zero_lt_succ 1)];simp only[Result.andThen];rw[Oper.upon_value]
 go_wp2
 rw[run_callFunc_extern func161 XW XW XW (e:=Extern.AbiNoEscape.same) XW];rw[Lib.run_noEscape];simp only[Result.andThen];rw[Oper.upon_value]
 go_wp2
 rw[Lib.run_from_unsafe w ⟨b,0,none⟩ underlying229 underlying107 u f bV3];simp only[Result.andThen];rw[Oper.upon_value]
 go_wp2
 go_end0
 exact⟨rfl,rfl⟩
theorem bV6 (B b:Nat) (v:Value) (O:List Value) (w:World) (h:aDB 110 5 B b v O w):
  Calls prog 105 #[.pointer (some ⟨b,0,none⟩)] w fun e w'=>e=.returned (.tuple #[])/\aDB 110 5 B b v O w'/\Below B w w'/\w'.heap.size=w.heap.size/\∀k,k≠b->w'.heap[k]?=w.heap[k]?:=by
 obtain⟨I,⟨q,S,hb⟩,f,u,r⟩:=h;have L:w.cell? ⟨b,0,none⟩=some q:=by rw[Lib.cell_of_heap hb];rfl
 rcases S with rfl|rfl
 ·refine(bV4 b w L (by simp[World.shape?,hb]) (Lib.frozen_of_heap hb 0)).mono ?_
  rintro e w' ⟨rfl,rfl⟩
  have G:∀k,k≠b->(w.setCell ⟨b,0,none⟩ (.pointer (some ⟨b,0,none⟩))).heap[k]?=w.heap[k]?:=fun k G=>Below.heap_setCell _ _ _ _ G
  refine⟨rfl,⟨I,⟨_,.inr rfl,?_⟩,?_,u,r⟩,(Below.refl B w).setCell (p:=⟨b,0,none⟩) I _,by simp[World.setCell],G⟩
  ·simp[World.setCell,Array.getElem?_modify,hb]
  ·refine f.kept (row:=some b) ⟨rfl,rfl,rfl,by simp[World.setCell],fun k _ J=>G k (fun e=>J (by rw[e]))⟩ (Or.inr u)
 ·refine(bV5 b w L).mono ?_
  rintro e w' ⟨rfl,rfl⟩
  exact⟨rfl,⟨I,⟨_,.inr rfl,hb⟩,f,u,r⟩,Below.refl B _,rfl,fun _ _=>rfl⟩
set_option maxHeartbeats 2000000 in
theorem bVZ (B b:Nat) (v:Value) (bs:List Value) (s:ByteArray) (w:World) (h:aDB 110 5 B b v bs w) (hs:1<=s.size) (hlen:bs.length+s.size<=140737488355328) (hBw:B<=w.heap.size):
  Calls prog 47 #[.pointer (some ⟨b,0,none⟩),.string s] w fun e w'=>e=.returned (.tuple #[.int .i64 s.size,.nilIface])/\
   ∃v',aDB 110 5 B b v' (bs++Lib.strCells s) w'/\Below B w w'/\(∀k,k<w.heap.size->k≠b->v.ownBlock≠some k->w'.heap[k]?=w.heap[k]?)/\
    ∀k,v'.ownBlock=some k->v.ownBlock=some k\/w.heap.size<=k:=by
 obtain⟨i0,hi,qA,mO,qS⟩:=info_parts bV7
 go_enter func47,ntmps47
 go_wp2_with (go_at_call 105;refine(bV6 B b v bs _ h).mono ?_)
 rintro e w1 ⟨rfl,V,cQ,hsz1,rP⟩
 obtain⟨hB,⟨q,hq,G⟩,I,hne,hnil⟩:=V;have c0:w1.cell? ⟨b,0,none⟩=some q:=by rw[Lib.cell_of_heap G];rfl
 have c1:w1.cell? ⟨b,1,none⟩=some v:=by rw[Lib.cell_of_heap G];rfl
 go_wp2_with (at_builtin;refine bV0 rfl _ _ 108 9 rfl B 5 i0 underlying108 underlying9 hi qA mO qS _ _ _ rfl I s rfl ?c4 ?c5 ?_)
 case c4=>omega
 case c5=>omega
 intro v' L f r O hnew;have hlt:b<w1.heap.size:=(JQ.1 G).1;have Z:L.heap[b]?=some (.cells #[q,v] 110 (0,0)):=by
  rw[r.block b hlt (fun e=>hne e.symm)];exact G
 have d0:L.cell? ⟨b,0,none⟩=some q:=by rw[Lib.cell_of_heap Z];rfl
 have d1:L.cell? ⟨b,1,none⟩=some v:=by rw[Lib.cell_of_heap Z];rfl
 have f1:L.frozen? ⟨b,1,none⟩=false:=Lib.frozen_of_heap Z 1;obtain⟨ao,n',u,rfl⟩:∃ao n' u,v'=.slice ao n' u:=by
  rcases f.2 with ⟨hv,_⟩|⟨g,u,cur,hv,_⟩
  ·exact⟨_,_,_,hv⟩
  ·exact⟨_,_,_,hv⟩
 go_wp2
 go_ret2
 have hs0:Lib.strCells s≠[]:=fun e=>by
  have:=Lib.strCells_length s;rw[e,JZ] at this;omega
 have fC:∀(x:Value) k,k≠b->(L.setCell ⟨b,1,none⟩ x).heap[k]?=L.heap[k]?:=fun x k S=>Below.heap_setCell _ _ _ _ S
 have J:Value.ownBlock (.slice ao n' u)≠some b:=Lib.ownBlock_ne f Z (by decide);refine⟨rfl,.slice ao n' u,⟨hB,⟨q,hq,?_⟩,?_,J,?_⟩,?_,fun k S hkb hkv=>?_,fun k S=>?_⟩
 ·simp[World.setCell,Array.getElem?_modify,Z]
 ·refine World.ownsRow.kept (row:=some b) (w:=L) (by simpa[Lib.strCells_length] using f) ⟨rfl,rfl,rfl,by simp[World.setCell],fun k _ hk'=>fC _ k (fun e=>hk' (by rw[e]))⟩ (Or.inr J)
 ·constructor
  ·intro e;have V:s=ByteArray.empty:=(O.1 e).2;rw[V] at hs;exact absurd hs (by decide)
  ·intro e;exact absurd (List.append_eq_nil_iff.1 e).2 hs0
 ·exact(cQ.grown r (by rw[hsz1];exact hBw) (fun k S=>(I.lt k S).1)).setCell (p:=⟨b,1,none⟩) hB _
 ·rw[fC _ k hkb,r.block k XY (fun e=>hkv e.symm)];exact rP k hkb
 ·rcases hnew k S with V|V
  ·exact .inl V
  ·exact .inr XY
end Go.Proofs
namespace Go.Proofs.YtjjbojomlfgjlaaGreatDoor
open Go.Proofs.Tryz
open Go.Vm Go.RowKit
set_option linter.unusedVariables false
noncomputable section
def nV (n:Int):ByteArray:=⟨(Lib.itoa n).toArray⟩
open Go.Sort in
theorem bVc {B:Nat} {w0 w:World} {os:Array Obj} (h:Below B w0 w) (r:B<=w.heap.size):Below B w0 (grow w os):=
 ⟨h.os,h.tape,h.output,by show w0.heap.size<=(w.heap++os).size;have:=h.size;simp;omega,fun k f=>by
  show (w.heap++os)[k]?=_;rw[Array.getElem?_append_left XY];exact h.block k f⟩
theorem aCs {E:Enc UU} {w:World} {N:Nat->Prop} {x:aC UU} {args:Array Value} (h:aAr E w N [x] args):∃a,args=#[a]/\Rel E w cW (fB N w) x a:=by
 obtain⟨r,f⟩:=h;have e0:=f 0 XU;obtain⟨l⟩:=args
 match l,r with
 |[a],_=>exact⟨a,rfl,e0⟩
theorem bFB {E:Enc UU} {w:World} {ρ:Own} {st:Nat->Prop} {x y:aC UU} {a b:Value} (hx:Rel E w ρ st x a) (hy:Rel E w ρ st y b):Rel E w ρ st (.tup [x,y]) (.tuple #[a,b]):=
 .tup _ _ rfl fun k f=>match k,f with
  |0,_=>hx
  |1,_=>hy
def aNi:Model UU
 |[.int .i64 n]=>some ([-9223372036854775808<=n/\n<=9223372036854775807],.str (nV n))
 |_=>none
theorem bIE {C:Cfg UU} (L:aW C) (J:C.P=prog) (S:∀w,C.inv w->inv1 w):aW (C.add 48 aNi):=by
 refine L.put ⟨fun f w=>by rw[J];exact kQ (fn:=Tryz.f48) func48 XW rfl f w,?_⟩;intro N w f xs cs r G Z u hm I;unfold aNi at hm;split at hm
 ·rename_i n;cases hm;obtain⟨a,rfl,O⟩:=aCs u;cases O;rw[J];refine(strconv_Itoa n I.1 I.2 w (S w G).2).mono ?_
  rintro e w' ⟨rfl,k,V,rfl⟩
  exact⟨_,rfl,mY.of rfl rfl (.str _),bVc (below_drewN (Below.refl _ _) k) (JX _)⟩
 ·cases hm
def aP2:vJ UU
 |[.ptr 0 0,.str s],.opq .bld b=>some ([1<=s.size/\b.size+s.size<=140737488355328],.tup [.int .i64 s.size,.raw .nilIface],.opq .bld (b++s))
 |_,_=>none
def aP3:vJ UU
 |[.ptr 0 0],.opq .bld b=>some ([],.str b,.opq .dead ())
 |_,_=>none
theorem bFU (b s:ByteArray):Lib.strCells (b++s)=Lib.strCells b++Lib.strCells s:=by
 unfold Lib.strCells;rw[ByteArray.data_append,Array.toList_append,List.map_append]
def aCn (p:Nat×Value) (m:Option (Nat×Value)):Own:=fun nm=>match nm with
 | .ob i=>if i=0 then some p else none
 | .mem i j=>if i=0/\j=0 then m else none
theorem bSN {C:Cfg UU} (hP:C.P=prog) (hE:C.E=EE) (w0:World):vI C 47 aP2 w0:=by
 refine⟨fun S w=>by rw[hP];exact kQ (fn:=Tryz.f47) func47 XW rfl S w,fun st ρ w S k0 xs ob ob' cs r hb hst hdom hsep hob hsz L nE hm hc kH hpr hown=>?_⟩;unfold aP2 at hm;split at hm
 ·rename_i s b;cases hm;obtain rfl:0=k0:=by cases hown;rfl
  obtain⟨h1,h2⟩:1<=s.size/\b.size+s.size<=140737488355328:=hc;rw[hE] at hob L ⊢;obtain⟨Z,v,hp,hbld,hf1,rR⟩:uF b w w0.heap.size (ρ (.ob 0)) (fun j=>ρ (.mem 0 j)):=hob;have e0:=L 0 XU;have e1:=L 1 XU;obtain⟨l⟩:=S
  match l,hsz with
  |[x,y],_=>
   simp at e0 e1;cases e1;have hx:x=.pointer (some ⟨Z,0,none⟩):=by
    cases e0 with
    |ptr _ _ q hq=>
     rw[hp] at hq;cases hq;rfl
   subst hx;rw[hP];have hbase:w0.heap.size<=w.heap.size:=hb.size;refine(bVZ w0.heap.size Z v (Lib.strCells b) s w hbld h1 (by rw[Lib.strCells_length];exact h2) hbase).mono ?_
   rintro e w' ⟨rfl,I,G,hbel,hsame,hnew⟩
   have hnp:∀a,I≠ .pointer a:=aKK G.2.2.1;have O:∀a,v≠ .pointer a:=aKK hbld.2.2.1
   let g:Nat:=match ρ (.mem 0 0) with
    |some q=>q.1+1
    |none=>0
   have nm1:∀(nm:Name) q u,aCn (0,.pointer (some ⟨Z,0,none⟩)) (some (g,I)) nm=some (q,u)->(nm=.ob 0/\(q,u)=(0,.pointer (some ⟨Z,0,none⟩)))\/(nm=.mem 0 0/\(q,u)=(g,I)):=fun nm q u h=>by
    cases nm with
    |ob i=>
     simp only[aCn] at h;split at h
     ·rename_i e;subst e;cases h;exact .inl ⟨rfl,rfl⟩
     ·cases h
    |mem i j=>
     simp only[aCn] at h;split at h
     ·rename_i e;obtain⟨rfl,rfl⟩:=e;cases h;exact .inr ⟨rfl,rfl⟩
     ·cases h
   have hblk:∀k,I.ownBlock=some k->blk I=some k:=fun k h=>by rw[<- pT hnp];exact h
   have hold:∀k,v.ownBlock=some k->∃q,ρ (.mem 0 0)=some (q,v):=fun k h=>by
    rcases rR with ⟨rfl,_⟩|⟨q,V⟩
    ·cases h
    ·exact⟨q,V⟩
   refine⟨_,aCn (0,.pointer (some ⟨Z,0,none⟩)) (some (g,I)),rfl,⟨fun _=>bFB (.int _ _) (.raw _),fun h=>by cases h⟩,?_,fun nm q u h=>?_,⟨fun nm hn=>?_,fun nm q u hn h=>?_,hbel,fun k hk J=>?_,fun nm q u k hn h f=>?_,fun nm nm' q q' u u' k hn hn' h h' J f=>?_⟩⟩
   ·refine(show uF (b++s) w' w0.heap.size (aCn (0,.pointer (some ⟨Z,0,none⟩)) (some (g,I)) (.ob 0)) (fun j=>aCn (0,.pointer (some ⟨Z,0,none⟩)) (some (g,I)) (.mem 0 j)) from ?_);exact⟨Z,I,rfl,by rw[bFU];exact G,fun j=>rfl,.inr ⟨g,rfl⟩⟩
   ·refine⟨?_,fun h=>by cases h⟩;rcases nm1 nm q u h with ⟨rfl,_⟩|⟨rfl,_⟩<;>rfl
   ·cases h:ρ nm with
    |some p=>exact absurd (hdom nm p.1 p.2 h).1 hn
    |none=>
     cases nm with
     |ob i=>exact JK hn
     |mem i j=>exact JK (fun e=>hn e.1)
   ·cases nm with
    |ob i=>
     obtain rfl:i=0:=hn;rw[hp] at h;cases h;exact .inl rfl
    |mem i j=>
     obtain rfl:i=0:=hn;cases j with
     |succ j=>rw[show ρ (.mem 0 (j+1))=none from hf1 j] at h;cases h
     |zero=>
      refine .inr ⟨?_,g,I,rfl,?_⟩
      ·rcases rR with ⟨_,V⟩|⟨q0,V⟩
       ·rw[show ρ (.mem 0 0)=none from V] at h;cases h
       ·rw[show ρ (.mem 0 0)=some (q0,v) from V] at h;cases h;exact O
      ·show q<match ρ (.mem 0 0) with
        |some q=>q.1+1
        |none=>0
       rw[h];exact Nat.lt_succ_self q
   ·refine hsame k hk (fun e=>?_) (fun e=>?_)
    ·subst e;exact J (.ob 0) _ _ rfl hp rfl
    ·obtain⟨q,V⟩:=hold k e;exact J (.mem 0 0) _ _ rfl V (by rw[<- pT O];exact e)
   ·rcases nm1 nm q u h with ⟨rfl,h3⟩|⟨rfl,h3⟩
    ·cases h3;exact .inl ⟨.ob 0,0,_,rfl,hp,f⟩
    ·cases h3;rcases hnew k (by rw[pT hnp];exact f) with h4|h4
     ·obtain⟨q,V⟩:=hold k h4;exact .inl ⟨.mem 0 0,q,v,rfl,V,by rw[<- pT O];exact h4⟩
     ·exact .inr h4
   ·have hd:I.ownBlock≠some Z:=G.2.2.2.1;rcases nm1 nm q u h with ⟨rfl,h3⟩|⟨rfl,h3⟩<;>rcases nm1 nm' q' u' h' with ⟨rfl,h4⟩|⟨rfl,h4⟩
    ·exact absurd rfl J
    ·cases h3;cases h4;simp only[blk,QQ] at f;subst f;rw[<- pT hnp];exact hd
    ·cases h3;cases h4;rw[<- pT hnp] at f;intro e;simp only[blk,QQ] at e;subst e;exact hd f
    ·exact absurd rfl J
 ·cases hm
theorem bSO {C:Cfg UU} (hP:C.P=prog) (hE:C.E=EE) (w0:World):vI C 50 aP3 w0:=by
 refine⟨fun I w=>by rw[hP];exact kQ (fn:=Tryz.f50) func50 XW rfl I w,fun st ρ w I k0 xs ob ob' cs r hb hst hdom hsep Z hsz J nE hm hc kH hpr hown=>?_⟩;unfold aP3 at hm;split at hm
 ·rename_i b;cases hm;obtain rfl:0=k0:=by cases hown;rfl
  rw[hE] at Z J ⊢;obtain⟨V,v,hp,G,hf1,rR⟩:uF b w w0.heap.size (ρ (.ob 0)) (fun j=>ρ (.mem 0 j)):=Z;have e0:=J 0 XU;obtain⟨l⟩:=I
  match l,hsz with
  |[x],_=>
   simp at e0;have hx:x=.pointer (some ⟨V,0,none⟩):=by
    cases e0 with
    |ptr _ _ q hq=>
     rw[hp] at hq;cases hq;rfl
   subst hx;rw[hP];have hnp0:∀a,v≠ .pointer a:=aKK G.2.2.1;have call:Calls prog 50 #[.pointer (some ⟨V,0,none⟩)] w fun e w'=>e=.returned (.string ⟨b.data.toList.toArray⟩)/\Below w0.heap.size w w'/\w'.heap.size=w.heap.size/\∀k,k<w.heap.size->v.ownBlock≠some k->w'.heap[k]?=w.heap[k]?:=
    bV1 bOC bW5 w0.heap.size V v b.data.toList w G
   refine call.mono ?_
   rintro e w' ⟨rfl,hbel,hsz',S⟩
   have hv:(⟨b.data.toList.toArray⟩:ByteArray)=b:=XU;rw[hv];refine⟨_,ρ,rfl,⟨fun _=>.str _,fun h=>by cases h⟩,?_,fun nm q u h=>⟨(hdom nm q u h).1,fun h=>by cases h⟩,⟨fun _ _=>rfl,fun _ _ _ _ h=>.inl h,hbel,fun k hk L=>S k hk (fun e=>?_),fun nm q u k hn h O=>.inl ⟨nm,q,u,hn,h,O⟩,fun nm nm' q q' u u' k _ _ h h' L O=>hsep _ _ _ _ _ _ k h h' L O⟩⟩
   ·refine(show aDi w' w0.heap.size (ρ (.ob 0)) (fun j=>ρ (.mem 0 j)) from ⟨⟨V,hp,G.1,?_⟩,fun i g u hu=>?_⟩)
    ·obtain⟨q,_,h2⟩:=G.2.1;have:=(JQ.1 h2).1;omega
    ·have:=aR0 (s:=b) (w:=w) (base:=w0.heap.size) (p:=ρ (.ob 0)) (f:=fun j=>ρ (.mem 0 j)) ⟨V,v,hp,G,hf1,rR⟩ hu;refine⟨this.1,fun k hk=>?_⟩;have:=this.2 k hk;omega
   ·rcases rR with ⟨rfl,_⟩|⟨q,h0⟩
    ·cases e
    ·exact L (.mem 0 0) q v rfl h0 (by rw[<- pT hnp0];exact e)
 ·cases hm
def bEV:Cfg UU:=((bEU.add 48 aNi).vD 47 aP2).vD 50 aP3
theorem bH0:aW bEV:=by
 have f:=bIE bHY rfl fun _ h=>h
 exact(f.aDn fun w0 _=>bSN rfl rfl w0).aDn fun w0 _=>bSO rfl rfl w0
end
end Go.Proofs.YtjjbojomlfgjlaaGreatDoor
namespace Go.Vm
open Go.RowKit Go.ChangeShapes Go.WideShapes Go.ChangeAt Go.Deep
set_option linter.unusedVariables false
section
variable {P:Program} {H:Type} {enc:TypeId×Value->H} {w:World} {U:eW} {C:Cfg U} {p:(τ:U.τ)->U.T τ->Prop}
abbrev bk (d:DataW H):Nat:=Go.Proofs.YtjjbojomlfgjlaaGreatDoor.Rows.uptoBulk d
theorem bVa (d:DataW H):1<=bk d:=by
 cases d with
 |lit l=>cases l<;>simp[bk,Go.Proofs.YtjjbojomlfgjlaaGreatDoor.Rows.uptoBulk]
 |nil=>simp[bk,Go.Proofs.YtjjbojomlfgjlaaGreatDoor.Rows.uptoBulk]
 |ptr d=>simp[bk,Go.Proofs.YtjjbojomlfgjlaaGreatDoor.Rows.uptoBulk]
 |slice G r=>simp[bk,Go.Proofs.YtjjbojomlfgjlaaGreatDoor.Rows.uptoBulk]
 |agg u=>simp[bk,Go.Proofs.YtjjbojomlfgjlaaGreatDoor.Rows.uptoBulk]
 |iface t d=>simp[bk,Go.Proofs.YtjjbojomlfgjlaaGreatDoor.Rows.uptoBulk]
 |map f=>simp[bk,Go.Proofs.YtjjbojomlfgjlaaGreatDoor.Rows.uptoBulk]
 |held h=>simp[bk,Go.Proofs.YtjjbojomlfgjlaaGreatDoor.Rows.uptoBulk]
theorem aKL:∀(l:List (DataW H)),l.length<=Go.Proofs.YtjjbojomlfgjlaaGreatDoor.Rows.uptoBulkAll l/\∀d∈l,bk d<=Go.Proofs.YtjjbojomlfgjlaaGreatDoor.Rows.uptoBulkAll l
 |[]=>⟨XU,fun d h=>by cases h⟩
 |x::l=>by
  obtain⟨u,f⟩:=aKL l;have r:1<=Go.Proofs.YtjjbojomlfgjlaaGreatDoor.Rows.uptoBulk x:=bVa x;refine⟨by simp only[Go.Proofs.YtjjbojomlfgjlaaGreatDoor.Rows.uptoBulkAll,QT];omega,fun d h=>?_⟩;show bk d<=Go.Proofs.YtjjbojomlfgjlaaGreatDoor.Rows.uptoBulk x+Go.Proofs.YtjjbojomlfgjlaaGreatDoor.Rows.uptoBulkAll l;rcases List.mem_cons.1 h with rfl|h
  ·exact Nat.le_add_right _ _
  ·exact KU (f d h) (Nat.le_add_left _ _)
theorem bVb {l:List (DataW H)} {d:DataW H} (h:d∈l):bk d<=bk (.agg l):=by
 have:=(aKL l).2 d h;simp only[bk,Go.Proofs.YtjjbojomlfgjlaaGreatDoor.Rows.uptoBulk] at this ⊢;omega
theorem bV9 (l r:List (DataW H)):l.length<=bk (.slice l r)/\∀d∈l,bk d<=bk (.slice l r):=by
 obtain⟨u,f⟩:=aKL l;refine⟨by simp only[bk,Go.Proofs.YtjjbojomlfgjlaaGreatDoor.Rows.uptoBulk];omega,fun d h=>?_⟩;have:=f d h;simp only[bk,Go.Proofs.YtjjbojomlfgjlaaGreatDoor.Rows.uptoBulk] at this ⊢;omega
theorem bN7 {α β:Type} {f:α->Option β}:∀{l:List α} {ys:List β},l.mapM f=some ys->∀a∈l,∃y∈ys,f a=some y:=by
 intro l
 induction l with
 |nil=>intro ys _ a r;cases r
 |cons x l I=>
  intro ys h a r;rw[List.mapM_cons] at h;obtain⟨y,hy,h⟩:=Option.bind_eq_some_iff.1 h;obtain⟨O,u,h⟩:=Option.bind_eq_some_iff.1 h;cases h;rcases List.mem_cons.1 r with rfl|r
  ·exact⟨y,JJ ..,hy⟩
  ·obtain⟨G,L,J⟩:=I u a r;exact⟨G,QE _ L,J⟩
section
variable {base:Nat} {sp:Nat->Bool} {held:Bool}
theorem bFF {d fuel:Nat} {cs:List Value} {L M:Nat} (hlen:cs.length=L)
  (ih:∀(t:TypeId) (cs:List Value) (x:DataW H×List MemPlace),oU P d t=true->DataW.trod enc P w base sp held fuel t cs=some x->
   cs.length=(dN P d t).length/\∀i (h:i<(dN P d t).length),∃r y,DataW.trod enc P w base sp held r ((dN P d t)[i]) [cs.getD i undef]=some y/\bk y.1<=bk x.1):
  ∀(G:List Field) (off:Nat),yS P (oU P d) (fun t=>(dN P d t).length) G off L=true->
   (∀f∈G,∃y,DataW.trod enc P w base sp held fuel f.type ((cs.drop f.offset).take (P.cellsOf f.type))=some y/\bk y.1<=M)->
   off+(G.flatMap fun f=>dN P d f.type).length=L/\∀i (h:i<(G.flatMap fun f=>dN P d f.type).length),∃r y,DataW.trod enc P w base sp held r ((G.flatMap fun f=>dN P d f.type)[i]) [cs.getD (off+i) undef]=some y/\bk y.1<=M:=by
 intro G
 induction G with
 |nil=>
  intro off I _;exact⟨by simpa[yS] using I,fun i h=>absurd h XU⟩
 |cons f G ihf=>
  intro off I J;simp only[yS,QU] at I;obtain⟨⟨⟨h1,h2⟩,h3⟩,h4⟩:=I;have h1':=QZ h1;have h2':=QZ h2;obtain⟨y,hy,hyM⟩:=J f XU;obtain⟨e1,e2⟩:=ih f.type _ y h3 hy;obtain⟨e3,e4⟩:=ihf (off+P.cellsOf f.type) h4 (fun g V=>J g (by simp[V]));simp only[List.flatMap_cons,QH];refine⟨XY,fun i hi=>?_⟩
  by_cases O:i<(dN P d f.type).length
  ·obtain⟨Z,S,u,hb⟩:=e2 i O;refine⟨Z,S,?_,KU hb hyM⟩;have V:((cs.drop f.offset).take (P.cellsOf f.type)).getD i undef=cs.getD (off+i) undef:=by
    simp only[QG,JH,KT];rw[JV XY,h1']
   rw[V] at u;rw[JO O];exact u
  ·have hr:i-(dN P d f.type).length<(G.flatMap fun f=>dN P d f.type).length:=by
    omega
   obtain⟨Z,S,u,hb⟩:=e4 _ hr;refine⟨Z,S,?_,hb⟩;rw[List.getElem_append_right XY];have e:off+P.cellsOf f.type+(i-(dN P d f.type).length)=off+i:=XY;rw[e] at u;exact u
theorem bFC:∀(d:Nat) (t:TypeId) (fuel:Nat) (cs:List Value) (x:DataW H×List MemPlace),oU P d t=true->DataW.trod enc P w base sp held fuel t cs=some x->
  cs.length=(dN P d t).length/\∀i (h:i<(dN P d t).length),∃u y,DataW.trod enc P w base sp held u ((dN P d t)[i]) [cs.getD i undef]=some y/\bk y.1<=bk x.1:=by
 have I:∀{t:TypeId} {fuel:Nat} {cs:List Value} {x:DataW H×List MemPlace} {l:List TypeId},l=[t]->mL P t=true->DataW.trod enc P w base sp held fuel t cs=some x->
   cs.length=l.length/\∀i (h:i<l.length),∃u y,DataW.trod enc P w base sp held u (l[i]) [cs.getD i undef]=some y/\bk y.1<=bk x.1:=fun {t fuel cs x l} O hk h=>by
  subst O;obtain⟨h1,_⟩:=aQs hk h;refine⟨h1,fun i hi=>?_⟩;have:i=0:=by simpa using hi
  subst this
  match cs,h1 with
  |[c],_=>exact⟨fuel,x,h,JX _⟩
 intro d
 induction d with
 |zero=>
  intro t fuel cs x r h;exact I rfl r h
 |succ d ih=>
  intro t fuel cs x r h;unfold oU at r;split at r
  ·rename_i G J;have O:dN P (d+1) t=G.toList.flatMap fun f=>dN P d f.type:=by
    simp only[dN,J]
   rw[O];cases fuel with
   |zero=>cases h
   |succ fuel=>
    simp only[DataW.trod,J] at h;split at h
    ·rename_i L;obtain⟨ys,S,hx⟩:=Option.map_eq_some_iff.1 h;have:=bFF (cs:=cs) (M:=bk x.1) L (fun t cs x=>ih t fuel cs x) G.toList 0 r (fun f hf=>by
      obtain⟨y,hy,e⟩:=bN7 S f hf;refine⟨y,e,?_⟩;rw[<- hx];exact bVb (KY.2 ⟨y,hy,rfl⟩))
     refine⟨XY,fun i hi=>?_⟩;have:=this.2 i hi;rwa [JW] at this
    ·cases h
  ·cases r
  ·rename_i V Z;refine I ?_ r h;unfold dN;split
   ·rename_i fs J;exact absurd J (V fs)
   ·rename_i m e J;exact absurd J (Z m e)
   ·rfl
end
def qZ (C:Cfg U) (p:(τ:U.τ)->U.T τ->Prop) (B:Nat) (u:TypeId) (a:aC U):Prop:=
 match C.P.underlying u with
 |some (.int k)=>∃n,a=.int k n/\k.has n
 |some .bool=>∃b,a=.bool b
 |some .string=>∃s,a=.str s/\(s.size:Int)<=9223372036854775807
 |some (.slice e)=>∃τ xs,C.elt e=some τ/\a=.sl τ xs/\xs.length<=B/\∀x∈xs,p τ x
 |_=>False
def tF (C:Cfg U) (p:(τ:U.τ)->U.T τ->Prop) (B:Nat) (enc:TypeId×Value->H) (w:World) (e:TypeId) (τ:U.τ):Prop:=
 C.P.cellsOf e=U.size τ/\∀n f y,DataW.trod enc C.P w 0 (fun _=>true) true n e f=some y->bk y.1<=B->∃z:U.T τ,p τ z/\∀k (r:k<(C.E.enc τ z).length),Rel C.E w cW (fB (fun _=>False) w) (C.E.enc τ z)[k] (f.getD k undef)
variable {B:Nat}
theorem bNr {u:TypeId} {v:Value} {fuel:Nat} {y:DataW H×List MemPlace} (hE:∀e,C.P.underlying u=some (.slice e)->∃τ,C.elt e=some τ/\tF C p B enc w e τ)
  (I:mL C.P u=true) (h:DataW.trod enc C.P w 0 (fun _=>true) true fuel u [v]=some y) (hB:bk y.1<=B):
  ∃a,qZ C p B u a/\Rel C.E w cW (fB (fun _=>False) w) a v:=by
 unfold mL at I;unfold qZ;split at I
 ·rename_i k J;simp only[J];obtain⟨n,L,_,h2⟩:=DataW.trod_int J h;cases L;exact⟨.int k n,⟨_,rfl,(by simpa[Lit.wf] using h2:k.min<=n/\n<=k.max)⟩,.int _ _⟩
 ·rename_i J;simp only[J];obtain⟨b,L,_⟩:=DataW.trod_bool J h;cases L;exact⟨.bool b,⟨_,rfl⟩,.bool _⟩
 ·rename_i J;simp only[J];obtain⟨s,L,_,h2⟩:=DataW.trod_string J h;cases L;refine⟨.str s,⟨_,rfl,?_⟩,.str _⟩;unfold maxLen at h2;omega
 ·rename_i e J;simp only[J];obtain⟨τ,hτ,hs,hel⟩:=hE e J;rcases open_slice J h with ⟨L,_⟩|⟨a,len,cap,m,n,D,Pl,L,hb,hl,hm,hmm,hx,hall⟩
  ·simp only[List.cons.injEq,and_true] at L;subst L;exact⟨.sl τ [],⟨τ,[],hτ,rfl,XU,XU⟩,.lJ τ⟩
  ·simp only[List.cons.injEq,and_true] at L;subst L;have hmc:m=cap:=by simpa using hmm
   subst hmc;have hbs:=bV9 ((List.range len).map D) ((List.range (m-len)).map fun j=>D (len+j));rw[hx] at hB;have hlB:len<=B:=by
    have:=hbs.1;simp only[KO,List.length_range] at this;exact KU this hB
   have hDB:∀i,i<len->bk (D i)<=B:=fun i hi=>KU (hbs.2 _ (KY.2 ⟨i,JD.2 hi,rfl⟩)) hB
   have r:=C.E.pos τ;rcases Nat.eq_zero_or_pos m with h0|hmp
   ·subst h0;have rO:len=0:=XY;subst rO;exact⟨.sl τ [],⟨τ,[],hτ,rfl,XU,XU⟩,.sle τ a⟩
   have G:a.block<w.heap.size/\a.spot=none:=by
    obtain⟨cs',h3,_⟩:=hall 0 hmp;obtain⟨_,V,f⟩:=World.cells?_some h3;have h5:=f 0 (by rw[hs];exact r);rw[QL (by rw[V,hs];exact r),Nat.zero_mul,add_add] at h5;unfold World.cell? at h5;split at h5
    ·rename_i hh;split at h5
     ·cases h5
     ·rename_i hsp;have dE:(a.add (0+0)).block=a.block:=by simp[Addr.add]
      have uU:(a.add (0+0)).spot=a.spot:=by simp[Addr.add]
      rw[dE] at hh;rw[uU] at hsp;exact⟨(JQ.1 hh).1,by simpa using hsp⟩
    ·cases h5
   obtain⟨G,hspot⟩:=G;obtain⟨b,o,spot⟩:=a;simp only at hspot G;subst hspot;obtain⟨Z,hZ⟩:=choose_lt (α:=Option (U.T τ)×List Value) (n:=len) (p:=fun i z=>∃q,z.1=some q/\p τ q/\w.cells? 0 (Addr.add ⟨b,o,none⟩ (i*C.P.cellsOf e)) (C.P.cellsOf e)=some z.2/\∀k (I:k<(C.E.enc τ q).length),Rel C.E w cW (fB (fun _=>False) w) (C.E.enc τ q)[k] (z.2.getD k undef)) (fun i hi=>by
    obtain⟨cs',h3,h4⟩:=hall i XY;obtain⟨z,hp,hz⟩:=hel n cs' _ h4 (hDB i hi);exact⟨(some z,cs'),z,rfl,hp,h3,hz⟩)
   have hxs:∃xs:List (U.T τ),xs.length=len/\∀i (h:i<xs.length),(Z i).1=some xs[i]:=by
    have:∀j,j<=len->∃xs:List (U.T τ),xs.length=j/\∀i (h:i<xs.length),(Z i).1=some xs[i]:=by
     intro j
     induction j with
     |zero=>intro _;exact⟨[],rfl,fun i h=>absurd h XU⟩
     |succ j ihj=>
      intro hj;obtain⟨xs,e1,e2⟩:=ihj XY;obtain⟨q,hq,_⟩:=hZ j XY;refine⟨xs++[q],by simp[e1],fun i hi=>?_⟩
      by_cases hij:i<xs.length
      ·rw[JO hij];exact e2 i hij
      ·have:i=j:=by simp at hi;omega
       subst this;simp[e1,hq]
    exact this len (JX _)
   obtain⟨xs,e1,e2⟩:=hxs;have S:∀i (h:i<xs.length),p τ xs[i]/\∀k (I:k<(C.E.enc τ xs[i]).length),w.cell? ⟨b,o+(i*U.size τ+k),none⟩=some ((Z i).2.getD k undef)/\Rel C.E w cW (fB (fun _=>False) w) (C.E.enc τ xs[i])[k] ((Z i).2.getD k undef):=by
    intro i hi;obtain⟨q,hq,hp,h3,h4⟩:=hZ i XY;have hqx:q=xs[i]:=by
     have:=e2 i hi;rw[hq] at this;exact QW this
    subst hqx;refine⟨hp,fun k I=>⟨?_,h4 k I⟩⟩;obtain⟨_,V,f⟩:=World.cells?_some h3;have O:k<U.size τ:=by rw[C.E.enc_len] at I;exact I
    have:=f k (by rw[hs];exact O);rw[Addr.rX,Addr.rX,hs] at this;rw[<- JP];rw[this];have hkl:k<(Z i).2.length:=by rw[V,hs];exact O
    simp[hkl]
   refine⟨.sl τ xs,⟨τ,xs,hτ,rfl,?_,fun x hx=>?_⟩,?_⟩
   ·omega
   ·obtain⟨i,hi,rfl⟩:=List.mem_iff_getElem.1 hx;exact(S i hi).1
   ·have:=Rel.sl (E:=C.E) (w:=w) (ρ:=cW) (st:=fB (fun _=>False) w) τ xs b o m (fun j=>(Z (j / U.size τ)).2.getD (j % U.size τ) undef) ⟨G,fun h=>h⟩ XY (fun j hj=>by
     have h5:j / U.size τ<xs.length:=Nat.div_lt_of_lt_mul (by rw[Nat.mul_comm];exact hj);have h6:j % U.size τ<U.size τ:=Nat.mod_lt _ r;have:=((S (j / U.size τ) h5).2 (j % U.size τ) (by rw[C.E.enc_len];exact h6)).1;have h7:j / U.size τ*U.size τ+j % U.size τ=j:=by rw[Nat.mul_comm];exact Nat.div_add_mod j _
     rw[h7] at this;exact this) (fun i hi k I=>by
     have O:k<U.size τ:=by rw[C.E.enc_len] at I;exact I
     have h7:(i*U.size τ+k) / U.size τ=i:=by
      rw[Nat.mul_comm,Nat.mul_add_div r,Nat.div_eq_of_lt O,JL]
     have h8:(i*U.size τ+k) % U.size τ=k:=by
      rw[Nat.mul_comm,Nat.mul_add_mod,Nat.mod_eq_of_lt O]
     simp only[h7,h8];exact((S i hi).2 k I).2)
    rw[e1] at this;exact this
 ·cases I
theorem aWB {t:TypeId} {d fuel:Nat} {cs:List Value} {x:DataW H×List MemPlace}
  (hE:∀u∈dN C.P d t,mL C.P u=true/\∀e,C.P.underlying u=some (.slice e)->∃τ,C.elt e=some τ/\tF C p B enc w e τ) (G:oU C.P d t=true)
  (h:DataW.trod enc C.P w 0 (fun _=>true) true fuel t cs=some x) (hB:bk x.1<=B):
  ∃f:List (aC U),f.length=(dN C.P d t).length/\cs.length=f.length/\∀i (h:i<f.length) (h':i<(dN C.P d t).length),qZ C p B (dN C.P d t)[i] f[i]/\Rel C.E w cW (fB (fun _=>False) w) f[i] (cs.getD i undef):=by
 obtain⟨hlen,r⟩:=bFC d t fuel _ _ G h;have O:∀j,j<=cs.length->∃f:List (aC U),f.length=j/\∀i (h:i<f.length) (h':i<(dN C.P d t).length),qZ C p B (dN C.P d t)[i] f[i]/\Rel C.E w cW (fB (fun _=>False) w) f[i] (cs.getD i undef):=by
  intro j
  induction j with
  |zero=>intro _;exact⟨[],rfl,fun i h=>absurd h XU⟩
  |succ j ih=>
   intro hj;obtain⟨f,e1,L⟩:=ih XY;have I:j<(dN C.P d t).length:=XY;obtain⟨f',y,hy,V⟩:=r j I;obtain⟨hk,Z⟩:=hE _ (QN I);obtain⟨a,ha,hr⟩:=bNr Z hk hy (KU V hB);refine⟨f++[a],by simp[e1],fun i hi S=>?_⟩
   by_cases J:i<f.length
   ·rw[JO J];exact L i J S
   ·have:i=j:=by simp at hi;omega
    subst this;simp[e1];exact⟨ha,by simpa using hr⟩
 obtain⟨f,e1,L⟩:=O cs.length (JX _);exact⟨f,XY,XY,L⟩
theorem aRo {e:TypeId} {τ:U.τ} (d:Nat) (L:C.P.cellsOf e=U.size τ) (S:∀u∈dN C.P d e,mL C.P u=true/\∀e,C.P.underlying u=some (.slice e)->∃τ,C.elt e=some τ/\tF C p B enc w e τ) (r:oU C.P d e=true)
  (J:∀f:List (aC U),f.length=(dN C.P d e).length->(∀i (h:i<f.length) (I:i<(dN C.P d e).length),qZ C p B (dN C.P d e)[i] f[i])->∃z,p τ z/\C.E.enc τ z=f):tF C p B enc w e τ:=by
 refine⟨L,fun n cs y h V=>?_⟩;obtain⟨f,Z,h2,G⟩:=aWB S r h V;obtain⟨z,hp,rfl⟩:=J f Z (fun i h I=>(G i h I).1);exact⟨z,hp,fun k O=>(G k O XY).2⟩
theorem bWI {t:TypeId} {v:Value} {b0 d:Nat} {x:DataW H} {ps:List MemPlace}
  (hE:∀u∈dN C.P d t,mL C.P u=true/\∀e,C.P.underlying u=some (.slice e)->∃τ,C.elt e=some τ/\tF C p B enc w e τ) (L:uT C.P t=true) (I:oU C.P d t=true)
  (r:Value.okWide C.P w .any b0 t v) (h:DataW.Trod enc C.P w 0 (fun _=>true) true t v x ps) (hB:bk x<=B):
  ∃f:List (aC U),f.length=(dN C.P d t).length/\(∀i (h:i<f.length) (S:i<(dN C.P d t).length),qZ C p B (dN C.P d t)[i] f[i])/\Rel C.E w cW (fB (fun _=>False) w) (.agg f) v:=by
 have hv:∃G,v=.agg G:=by
  unfold uT at L;unfold Value.okWide at r;split at L
  ·rename_i fs J;rw[J] at r;obtain⟨G,rfl,_⟩:=r;exact⟨G,rfl⟩
  ·rename_i n e J;rw[J] at r;obtain⟨G,rfl,_⟩:=r;exact⟨G,rfl⟩
  ·cases L
 obtain⟨G,rfl⟩:=hv;obtain⟨fuel,Z⟩:=h;obtain⟨f,h1,h2,O⟩:=aWB hE I Z hB;refine⟨f,h1,fun i h S=>(O i h S).1,.agg f G (by simpa[Value.cells] using h2) (fun k V=>?_)⟩;simpa[Value.cells] using (O k V XY).2
end
end Go.Vm
namespace Go.Proofs.YtjjbojomlfgjlaaGreatDoor
open Go.Proofs.Tryz
open Go.Vm Go.ChangeShapes Go.WideShapes Go.ChangeAt Go.RowKit Go.Joins
set_option linter.unusedVariables false
set_option maxRecDepth 100000
noncomputable section
theorem own:ownKnob prog.godebug=none:=XW
theorem laidOut:laidOutB prog=true:=XW
theorem bOf {W:World} (h:W.ShapedOpen prog):aC3 W:=bOB.s1_3 W h
theorem bPV:prog.globalNamed "errors.errorType"=some 0:=XW
theorem bIP:(prog.cutTypes.find? (·.1== "internal/reflectlite.rtype")).map (·.2)=some 271:=XW
theorem bK7:((List.range 359).filter fun t=>prog.rowNamed t [101,114,114,111,114])=[114]:=XW
theorem bFo:prog.types.size=359:=XW
theorem bJp:(Rows.laid_internal_strconv_uint64pow10:DataW Unit)=Lib.tabData .u64 Lib.pow10Tab:=XW
theorem bSB {W:World} {l:List (String×DataW Unit)} (h:handlesMet prog l W) (hm:("errors.errorType",Rows.laid_errors_errorType)∈l):bBV W:=by
 obtain⟨f,u,G,e1,S,O,L,r⟩:=h _ hm;have J:f=[101,114,114,111,114]:=(QW e1).symm;subst J;obtain rfl:=QW (bIP.symm.trans S);have hm:G∈(List.range 359).filter fun t=>prog.rowNamed t [101,114,114,111,114]:=List.mem_filter.2 ⟨JD.2 (by rw[<- bFo];exact O),L⟩
 rw[bK7] at hm;obtain rfl:=JB.1 hm;have I:typeHandle prog 114=.pointer (some ⟨5,114,none⟩):=XW;rw[I] at r;show W.cell? ⟨0,0,none⟩=_;simpa using World.var?_cell bPV r 0
theorem bKX {H:Type} {C:Cfg UU} {enc:TypeId×Value->H} {W:World} {t:TypeId} {v:Value} {b0:Nat} {x:DataW H} {ps:List MemPlace} (J:∀e,C.P.underlying t=some (.slice e)->∃τ,C.elt e=some τ/\aLh C enc W e τ)
  (I:mL C.P t=true) (r:uT C.P t=false) (f:Value.okWide C.P W .any b0 t v) (h:DataW.Trod enc C.P W 0 (fun _=>true) true t v x ps) (hv:v.cells=#[v]):
  ∃a,Fits C t a/\Rel C.E W cW (fB (fun _=>False) W) a v:=by
 obtain⟨fuel,G⟩:=h;rw[hv] at G;refine bNq J I (b0:=b0) ?_ G;unfold uT at r;unfold Value.okWide at f;split at f
 ·rename_i u;rw[u] at r;cases r
 ·rename_i u;rw[u] at r;cases r
 ·exact f
theorem bTn {P:Program} {W:World} {b0:Nat} {t:TypeId} {v:Value} {e:TypeId} (r:P.underlying t=some (.slice e)) (f:Value.okWide P W .any b0 t v):v.cells=#[v]:=by
 unfold Value.okWide at f;rw[r] at f;simp only at f;unfold Cell.okWide Cell.ok at f;rw[r] at f;cases v<;>first|rfl| (simp at f)
theorem bO4 (f:zzI) (h:f.length=UU.size .item):∃z:UU.T .item,EE.enc .item z=f.map (aC.int .i64):=by
 match f,h with
 |[a,b,c,d,e],_=>exact⟨Itm.mk a b c d e,rfl⟩
theorem bKT {H:Type} {enc:TypeId×Value->H} {W:World}:aLh fY enc W 59 .item:=bKU 5 XW XW XW XW bO4
theorem bQq {t e:TypeId} {τ:Knd} {a:aC UU} (r:prog.underlying t=some (.slice e)) (he:fY.elt e=some τ) (h:Fits fY t a):∃xs:List (UU.T τ),a=.sl τ xs:=by
 unfold Fits at h;rw[show fY.P.underlying t=_ from r] at h;obtain⟨G,xs,f,u,_⟩:=h;rw[he] at f;cases f;exact⟨xs,u⟩
theorem bKZ {H:Type} {enc:TypeId×Value->H} {W:World} {base:Nat} {v:Value} {x:DataW H} {ps:List MemPlace} (f:Value.okWide prog W .any base 28 v) (h:DataW.Trod enc prog W 0 (fun _=>true) true 28 v x ps):
  ∃l:List Itm,Rel EE W cW (fB (fun _=>False) W) (aC.sl .item l:aC UU) v:=by
 obtain⟨a,u,r⟩:=bKX (C:=fY) (t:=28) (fun e he=>by
  rw[show fY.P.underlying 28=_ from underlying28] at he;cases he;exact⟨.item,XW,bKT⟩) XW XW f h (bTn underlying28 f)
 obtain⟨l,rfl⟩:=bQq underlying28 (τ:=.item) XW u;exact⟨l,r⟩
def pQ (B:Nat):(τ:UU.τ)->UU.T τ->Prop:=fun τ=>match τ with
 | .pc=>fun p=>p.Rects.length<=B/\p.Cuts.length<=B/\p.Forms.length<=B
 |_=>fun _=>True
section
variable {H:Type} {enc:TypeId×Value->H} {W:World} {B:Nat}
theorem aCc {t e:TypeId} {τ:Knd} {a:aC UU} (r:prog.underlying t=some (.slice e)) (he:fY.elt e=some τ) (h:qZ fY (pQ B) B t a):∃xs:List (UU.T τ),a=.sl τ xs/\xs.length<=B/\∀x∈xs,pQ B τ x:=by
 unfold qZ at h;rw[show fY.P.underlying t=_ from r] at h;obtain⟨J,xs,f,I,G,u⟩:=h;rw[he] at f;cases f;exact⟨xs,I,G,u⟩
theorem tB {t:TypeId} {a:aC UU} (f:prog.underlying t=some (.int .i64)) (h:qZ fY (pQ B) B t a):∃n,a=.int .i64 n:=by
 unfold qZ at h;rw[show fY.P.underlying t=_ from f] at h;obtain⟨n,r,_⟩:=h;exact⟨n,r⟩
theorem aJ7 {t:TypeId} {a:aC UU} (f:prog.underlying t=some .string) (h:qZ fY (pQ B) B t a):∃s,a=.str s:=by
 unfold qZ at h;rw[show fY.P.underlying t=_ from f] at h;obtain⟨s,r,_⟩:=h;exact⟨s,r⟩
theorem aWC:mL fY.P 9=true/\∀e,fY.P.underlying 9=some (.slice e)->∃τ,fY.elt e=some τ/\tF fY (pQ B) B enc W e τ:=
 ⟨XW,fun e he=>by rw[show fY.P.underlying 9=_ from underlying9] at he;cases he⟩
theorem aNv:mL fY.P 3=true/\∀e,fY.P.underlying 3=some (.slice e)->∃τ,fY.elt e=some τ/\tF fY (pQ B) B enc W e τ:=
 ⟨XW,fun e he=>by rw[show fY.P.underlying 3=_ from underlying3] at he;cases he⟩
theorem bKV:tF fY (pQ B) B enc W 53 .rect:=by
 have I:dN fY.P 5 53=[3,3,3,3]:=XW;refine aRo 5 XW (fun u r=>?_) XW (fun G J f=>?_)
 ·rw[I] at r;simp only[List.mem_cons,List.not_mem_nil,or_false,or_self] at r;subst r;exact aNv
 ·simp only[I] at J f
  match G,J with
  |[a0,a1,a2,Z],_=>
   obtain⟨V,rfl⟩:=tB underlying3 (f 0 XU XU);obtain⟨S,rfl⟩:=tB underlying3 (f 1 XU XU);obtain⟨O,rfl⟩:=tB underlying3 (f 2 XU XU);obtain⟨L,rfl⟩:=tB underlying3 (f 3 XU XU);exact⟨aA.mk V S O L,trivial,rfl⟩
theorem aWD:mL fY.P 22=true/\∀e,fY.P.underlying 22=some (.slice e)->∃τ,fY.elt e=some τ/\tF fY (pQ B) B enc W e τ:=
 ⟨XW,fun e he=>by
  rw[show fY.P.underlying 22=_ from underlying22] at he;cases he;exact⟨.rect,XW,bKV⟩⟩
theorem bKW:tF fY (pQ B) B enc W 51 .pc:=by
 have J:dN fY.P 5 51=[9,9,3,3,22,22,22]:=XW;refine aRo 5 XW (fun u r=>?_) XW (fun G L f=>?_)
 ·rw[J] at r;have I:u=9\/u=3\/u=22:=by
   simp only[List.mem_cons,List.not_mem_nil,or_false] at r;rcases r with h|h|h|h|h|h|h<;>simp[h]
  rcases I with rfl|rfl|rfl
  ·exact aWC
  ·exact aNv
  ·exact aWD
 ·simp only[J] at L f
  match G,L with
  |[a0,a1,a2,a3,a4,a5,a6],_=>
   obtain⟨n0,rfl⟩:=aJ7 underlying9 (f 0 XU XU);obtain⟨n1,rfl⟩:=aJ7 underlying9 (f 1 XU XU);obtain⟨n2,rfl⟩:=tB underlying3 (f 2 XU XU);obtain⟨Z,rfl⟩:=tB underlying3 (f 3 XU XU);obtain⟨V,rfl,l4,_⟩:=aCc underlying22 (τ:=.rect) XW (f 4 XU XU);obtain⟨S,rfl,l5,_⟩:=aCc underlying22 (τ:=.rect) XW (f 5 XU XU);obtain⟨O,rfl,l6,_⟩:=aCc underlying22 (τ:=.rect) XW (f 6 XU XU);exact⟨Pce.mk n0 n1 n2 Z V S O,⟨l4,l5,l6⟩,rfl⟩
theorem bKY {base:Nat} {v:Value} {x:DataW H} {ps:List MemPlace} (I:Value.okWide prog W .any base 27 v) (h:DataW.Trod enc prog W 0 (fun _=>true) true 27 v x ps) (hB:bk x<=B):
  ∃(nm mt:ByteArray) (g gr S ht:Int) (cl us:List aA) (pc:List Pce),(cl.length<=B/\us.length<=B/\∀p∈pc,p.Rects.length<=B/\p.Cuts.length<=B/\p.Forms.length<=B)/\
   Rel EE W cW (fB (fun _=>False) W) (aC.agg [.str nm,.str mt,.int .i64 g,.int .i64 gr,.int .i64 S,.int .i64 ht,.sl .rect cl,.sl .rect us,.sl .pc pc]:aC UU) v:=by
 have J:dN fY.P 5 27=[9,9,3,3,3,3,22,22,25]:=XW;obtain⟨O,L,f,h3⟩:=bWI (C:=fY) (p:=pQ B) (d:=5) (t:=27) (fun u r=>by
  rw[J] at r;have G:u=9\/u=3\/u=22\/u=25:=by
   simp only[List.mem_cons,List.not_mem_nil,or_false] at r;rcases r with h|h|h|h|h|h|h|h|h<;>simp[h]
  rcases G with rfl|rfl|rfl|rfl
  ·exact aWC
  ·exact aNv
  ·exact aWD
  ·refine⟨XW,fun e he=>?_⟩;rw[show fY.P.underlying 25=_ from underlying25] at he;cases he;exact⟨.pc,XW,bKW⟩) XW XW I h hB
 simp only[J] at L f
 match O,L with
 |[a0,a1,a2,a3,a4,a5,a6,a7,a8],_=>
  obtain⟨n0,rfl⟩:=aJ7 underlying9 (f 0 XU XU);obtain⟨n1,rfl⟩:=aJ7 underlying9 (f 1 XU XU);obtain⟨n2,rfl⟩:=tB underlying3 (f 2 XU XU);obtain⟨n3,rfl⟩:=tB underlying3 (f 3 XU XU);obtain⟨n4,rfl⟩:=tB underlying3 (f 4 XU XU);obtain⟨n5,rfl⟩:=tB underlying3 (f 5 XU XU);obtain⟨n6,rfl,l6,_⟩:=aCc underlying22 (τ:=.rect) XW (f 6 XU XU);obtain⟨Z,rfl,l7,_⟩:=aCc underlying22 (τ:=.rect) XW (f 7 XU XU);obtain⟨V,rfl,_,l8⟩:=aCc underlying25 (τ:=.pc) XW (f 8 XU XU);exact⟨n0,n1,n2,n3,n4,n5,n6,Z,V,⟨l6,l7,l8⟩,h3⟩
end
noncomputable def bEm (os:Os):World:=
 let w0:=World.holding prog os ⟨#[],#[],[]⟩
 {w0 with heap:=w0.heap.modify 0 fun
   | .cells _ t f=>.cells #[.iface 271 (.agg #[.pointer (some ⟨5,114,none⟩)])] t f
   |o=>o}
theorem bOH (P:Program) (w:World) (l:List (String×DataW Unit)):(w.layVars P l).os=w.os:=World.layVars_os _ _ _
theorem bOM {w0:World} {f:List (String×DataW Unit)} (args:Array Value) (r:w0.layFits prog f []=true) (hi:w0.layIfaces prog f (w0.layVars prog f)=true):
  laidMet prog f ((w0.layVars prog f).forCall (fun _ _=>0) ⟨#[],args,[]⟩).memory:=by
 have e1:(f.filter fun x=>(f.map (·.1)).contains x.1)=f:=List.filter_eq_self.2 fun x hx=>List.contains_iff_mem.2 (KY.2 ⟨x,hx,rfl⟩)
 have u:(f.filter fun x=>!(f.map (·.1)).contains x.1)=[]:=List.filter_eq_nil_iff.2 fun x hx=>by rw[List.contains_iff_mem.2 (KY.2 ⟨x,hx,rfl⟩)];simp
 have h:laidMet prog f (w0.layVars prog f):=laidMet_layVars (w0:=w0) (f.map (·.1)) [] (by rw[e1]) (by rw[e1];exact r) (by rw[e1];exact hi) (by rw[u];exact LaidIn.none);exact h.of_heap (by simp[World.memory,World.forCall,Input.heap])
end
end Go.Proofs.YtjjbojomlfgjlaaGreatDoor
namespace Go.Proofs.YtjjbojomlfgjlaaGreatDoor
open Go.Proofs.Tryz
open Go.Vm Go.RowKit
set_option linter.unusedVariables false
noncomputable section
def aME (r f:Int):Bool:=((decide ((aB (0-f))<=r))&&(decide (r<=f)))
def pL (f:Int):Bool:=((decide ((-1048576)<=f))&&(decide (f<=1048576)))
def pN (f u r:Int):Bool:=((decide (u<=f))&&(decide (f<=r)))
def aBq (V S:ByteArray) (O L G u:Int) (J I:List aA) (r f:Int):Bool:=((((decide (0<=r))&&(decide (r<=G)))&&(decide (0<=f)))&&(decide (f<=u)))
def jF (G u r f:Int):Int×Int×Int×Int:=(mi G r,mi u f,ma G r,ma u f)
def aHS (G f O I r u L J:Int):Bool:=cond (f==I) (((((decide (u<f))&&(decide (f<(aB (u+J)))))&&(decide (G<(aB (r+L)))))&&(decide (r<O)))) (((((decide (r<G))&&(decide (G<(aB (r+L)))))&&(decide (f<(aB (u+J)))))&&(decide (u<I))))
def n9 (f G I L O J r u:Int):Int×Int:=cond (f==3) ((r,u)) ((G,I))
def aDa (f J I G r u:Int):Bool:=cond (f==1) ((((G==0)&&(r==0))&&(u==0))) (cond (f==2) ((((G==0)&&(r==0))&&(u==0))) (cond (f==4) ((((G==0)&&(r==0))&&(u==0))) (cond (f==3) (u==0) (cond (f==5) ((((I==0)&&(G==0))&&(r==0))) (cond (f==6) (r==0) (false))))))
def aHY (r f:Int):Bool:=((((aME r 1048576)&&(decide (0<f)))&&(decide (f<=2097152)))&&(decide ((aB (r+f))<=1048576)))
def kL (u G f r:Int):Bool:=((aHY u f)&&(aHY G r))
def sK (u G L O f r J I:Int):Bool:=((((((kL u G L O)&&(kL f r J I))&&(decide (f<=u)))&&(decide ((aB (u+L))<=(aB (f+J)))))&&(decide (r<=G)))&&(decide ((aB (G+O))<=(aB (r+I)))))
def pM (r f:Int):Bool:=((pN r 1 60)&&(pN f 0 2))
def aBr (S O:ByteArray) (L J u r:Int) (I G:List aA) (f:Int):Int×Int×Int×Int×Bool:=(f,f,aB (u-(aB (2*f))),aB (r-(aB (2*f))),(kL f f (aB (u-(aB (2*f)))) (aB (r-(aB (2*f))))))
def jE (u G f r:Int):Bool:=cond ((((((!(pL u))||(!(pL G)))||(decide (f<1)))||(decide (r<1)))||(decide (2097152<f)))||(decide (2097152<r))) (false) (((pL (aB (u+f)))&&(pL (aB (G+r)))))
def oJ (u G L O f r J I:Int):Bool:=((((((jE u G L O)&&(jE f r J I))&&(decide (f<=u)))&&(decide (r<=G)))&&(decide ((aB (u+L))<=(aB (f+J)))))&&(decide ((aB (G+O))<=(aB (r+I)))))
def aBN:Nat->Nat->Nat->Canon UU:=fun o b r=>cond (Nat.beq b 0) ⟨[2,5,6,7],[],[],[],[]⟩ (⟨[],[],[],[],[]⟩)
def bAC (f:List aA) (Q:Bool->Prop) (r:Bool->List aA->Int->Int->Prop):Prop:=r false f (f.length:Int) 0
def bAB (G:Bool->List aA->Int->Int->Prop) (L:Bool->List aA->Int->Int->Prop) (J:Bool->List aA->Int->Int->Prop) (I:Bool) (r:List aA) (u f:Int):Prop:=cond (decide (f<u)) ((let e0:=(r.getD f.toNat default);((0<=f/\f<r.length)/\cond (!(kL e0.X e0.Y e0.W e0.H)) (L false r u f) (G I r u (aB (f+1)))))) (J I r u f)
def bQM (Q:Bool->Prop) (f:Bool) (G:List aA) (u r:Int):Prop:=Q f
def bQL (Q:Bool->Prop) (G:Bool) (u:List aA) (r f:Int):Prop:=Q true
def aDU (F:Nat) (r:Bool->List aA->Int->Int->Prop) (f:Bool->List aA->Int->Int->Prop):Nat->Bool->List aA->Int->Int->Prop
 |0,_,_,_,_=>False
 |n+1,J,I,G,u=>bAB (aDU F r f n) r f J I G u
def aSG (F:Nat) (Q:Bool->Prop) (G:Bool) (u:List aA) (r f:Int):Prop:=aDU F (fun G u r f=>bQM Q G u r f) (fun G u r f=>bQL Q G u r f) F G u r f
def aQ7 (F:Nat) (f:List aA) (Q:Bool->Prop):Prop:=bAC f Q (aSG F Q)
theorem mX {α:Type} [Inhabited α] (l:List α) (i:Nat) (h:i<l.length):l.drop i=l.getD i default::l.drop (i+1):=by
 rw[List.drop_eq_getElem_cons h];simp[h]
theorem dW {n:Int} (r: -9223372036854775808<=n) (f:n<=9223372036854775807):aB n=n:=wrapped r f
theorem cO {i n:Nat} (h:i<n) (f:n<=1000000000):aB ((i:Int)+1)=((i+1:Nat):Int):=by
 rw[dW XY XY];rfl
theorem bN {p:Prop} [Decidable p] (h:p):decide p=true:=KS h
theorem bV {p:Prop} [Decidable p] (h:¬p):decide p=false:=KG h
theorem bWD {α:Type} [Inhabited α] (l:List α) (p:α->Bool) (L:l.length<=2000000) (W:Nat->Int->Prop) (X Y:Int->Prop)
  (G:∀n i,W (n+1) i=cond (decide (i<(l.length:Int))) ((0<=i/\i<(l.length:Int))/\cond (!(p (l.getD i.toNat default))) (X i) (W n (aB (i+1)))) (Y i)):∀(n i:Nat),i<=l.length->l.length<n+i->
  ((l.drop i).all p=false->∀j,X j)->((l.drop i).all p=true->Y l.length)->W n i:=by
 intro n
 induction n with
 |zero=>intro i J I;omega
 |succ n u=>
  intro i J I f r;rw[G]
  by_cases h:i<l.length
  ·rw[bN (show (i:Int)<l.length by omega),QX];refine⟨⟨XY,XY⟩,?_⟩;rw[mX l i h,List.all_cons] at f r;rw[QV,cO h XY];cases hp:p (l.getD i default) with
   |false=>
    rw[hp] at f;exact f rfl _
   |true=>
    rw[hp,KA] at f r;exact u (i+1) XY XY f r
  ·have e:i=l.length:=XY;subst e;rw[bV XY,QJ];exact r (by rw[KX];rfl)
theorem aA4 {α:Type} [Inhabited α] (l:List α) (p:α->Bool) (r:l.length<=2000000) (W:Nat->Int->Prop) (X Y:Int->Prop)
  (f:∀n i,W (n+1) i=cond (decide (i<(l.length:Int))) ((0<=i/\i<(l.length:Int))/\cond (!(p (l.getD i.toNat default))) (X i) (W n (aB (i+1)))) (Y i)) (n:Nat) (I:l.length<n)
  (G:l.all p=false->∀j,X j) (u:l.all p=true->Y l.length):W n 0:=
 bWD l p r W X Y f n 0 XY XY G u
def kJ (r:aA):Bool:=kL r.X r.Y r.W r.H
def aMW (r:aA):Bool:=jE r.X r.Y r.W r.H
def w7 (l:List aA):Prop:=l.length<=2000000
def fH (l:List aA):Bool:=l.all kJ
theorem bLK (f:List aA) (h:w7 f):∃F,∀Q:Bool->Prop,Q (fH f)->aQ7 F f Q:=by
 refine⟨f.length+1,fun Q r=>?_⟩;show aDU _ _ _ (f.length+1) false f f.length 0;refine aA4 f kJ h (fun n i=>aDU (f.length+1) _ _ n false f f.length i) _ _ (fun n i=>rfl) (f.length+1) XY (fun q j=>?_) (fun q=>?_)
 ·unfold fH at r;rw[q] at r;exact r
 ·unfold fH at r;rw[q] at r;exact r
def vG:Nat->Nat->Nat->Canon UU:=fun o b r=>cond (Nat.beq b 1) ⟨[2,3,70,71,72],[3],[],[],[]⟩ (cond (Nat.beq b 3) ⟨[2,3,70,71,72,76,77,78],[3],[],[],[]⟩ (⟨[],[],[],[],[]⟩))
def aPA (S O:ByteArray) (L J I G:Int) (f r:List aA) (Q:Int->Prop) (V:Int->List (List aA)->Int->Int->Int->Int->Int->Int->Prop):Prop:=cond ((!(vn S))||(!(vn O))) (Q 2) (cond (((!(pM L J))||(!(pN I 1 1048576)))||(!(pN G 1 1048576))) (Q 1) (cond ((decide (4<(f.length:Int)))||(decide (48<(r.length:Int)))) (Q 4) ((((w7 f)/\((!(fH f))=false->w7 r))/\cond ((!(fH f))||(!(fH r))) (Q 1) ((let u:=(aBr S O L J I G f r 0);V 0 ([f,r]) (([f,r]).length:Int) 0 u.1 u.2.1 u.2.2.1 u.2.2.2.1))))))
def aZ9 (Z:Int->List (List aA)->Int->Int->Int->Int->Int->Int->Prop) (S:Int->List (List aA)->Int->Int->Int->Int->Int->Int->Prop) (x1:Int->List (List aA)->Int->Int->Int->Int->Int->Int->Prop) (G:Int) (r:List (List aA)) (u f L O J I:Int) (V:Int->List (List aA)->Int->Int->List aA->Int->Int->Int->Int->Int->Int->Prop):Prop:=cond (decide (f<u)) ((let e0:=(r.getD f.toNat default);((0<=f/\f<r.length)/\V G r u f e0 (e0.length:Int) 0 L O J I))) (S G r u f L O J I)
def bQA (Q:Int->Prop) (G:Int) (u:List (List aA)) (r f L O J I:Int):Prop:=Q 0
def bPz (Q:Int->Prop) (f:Int) (G:List (List aA)) (u r L O J I:Int):Prop:=Q f
def aZ8 (Z:Int->List (List aA)->Int->Int->List aA->Int->Int->Int->Int->Int->Int->Prop) (x0:Int->List (List aA)->Int->Int->List aA->Int->Int->Int->Int->Int->Int->Prop) (x1:Int->List (List aA)->Int->Int->List aA->Int->Int->Int->Int->Int->Int->Prop) (t2:Int) (J:List (List aA)) (I G:Int) (r:List aA) (u f S V O L:Int):Prop:=cond (decide (f<u)) ((let e0:=(r.getD f.toNat default);((0<=f/\f<r.length)/\(let r1:=(sK e0.X e0.Y e0.W e0.H S V O L);cond (!r1) (x0 13 J I G r u f S V O L) (Z t2 J I G r u (aB (f+1)) S V O L))))) (x1 t2 J I G r u f S V O L)
def bPy (rec:Int->List (List aA)->Int->Int->Int->Int->Int->Int->Prop) (x0:Int->List (List aA)->Int->Int->Int->Int->Int->Int->Prop) (G:Int->List (List aA)->Int->Int->Int->Int->Int->Int->Prop) (I:Int) (u:List (List aA)) (r f:Int) (t76:List aA) (Z V O S L J:Int):Prop:=G I u r f O S L J
def bPx (G:Int->List (List aA)->Int->Int->Int->Int->Int->Int->Prop) (x0:Int->List (List aA)->Int->Int->Int->Int->Int->Int->Prop) (x1:Int->List (List aA)->Int->Int->Int->Int->Int->Int->Prop) (I:Int) (u:List (List aA)) (r f:Int) (t76:List aA) (Z V O S L J:Int):Prop:=G I u r (aB (f+1)) O S L J
def aDQ (F:Nat) (O:Int->List (List aA)->Int->Int->List aA->Int->Int->Int->Int->Int->Int->Prop) (L:Int->List (List aA)->Int->Int->List aA->Int->Int->Int->Int->Int->Int->Prop):Nat->Int->List (List aA)->Int->Int->List aA->Int->Int->Int->Int->Int->Int->Prop
 |0,_,_,_,_,_,_,_,_,_,_,_=>False
 |n+1,S,J,I,G,u,r,f,bQ,bP,Z,V=>aZ8 (aDQ F O L n) O L S J I G u r f bQ bP Z V
def aSE (F:Nat) (rec:Int->List (List aA)->Int->Int->Int->Int->Int->Int->Prop) (x0:Int->List (List aA)->Int->Int->Int->Int->Int->Int->Prop) (x1:Int->List (List aA)->Int->Int->Int->Int->Int->Int->Prop) (L:Int) (J:List (List aA)) (I G:Int) (u:List aA) (r f V Z S O:Int):Prop:=aDQ F (fun L J I G u r f V Z S O=>bPy rec x0 x1 L J I G u r f V Z S O) (fun L J I G u r f V Z S O=>bPx rec x0 x1 L J I G u r f V Z S O) F L J I G u r f V Z S O
def aB9 (F:Nat) (r:Int->List (List aA)->Int->Int->Int->Int->Int->Int->Prop) (f:Int->List (List aA)->Int->Int->Int->Int->Int->Int->Prop):Nat->Int->List (List aA)->Int->Int->Int->Int->Int->Int->Prop
 |0,_,_,_,_,_,_,_,_=>False
 |n+1,J,I,G,u,S,V,O,L=>aZ9 (aB9 F r f n) r f J I G u S V O L (aSE F (aB9 F r f n) r f)
def aSF (F:Nat) (Q:Int->Prop) (G:Int) (u:List (List aA)) (r f L O J I:Int):Prop:=aB9 F (fun G u r f L O J I=>bQA Q G u r f L O J I) (fun G u r f L O J I=>bPz Q G u r f L O J I) F G u r f L O J I
def aLs (F:Nat) (O L:ByteArray) (J I r f:Int) (G u:List aA) (Q:Int->Prop):Prop:=aPA O L J I r f G u Q (aSF F Q)
def aAO (w h:Int) (r:aA):Bool:=sK r.X r.Y r.W r.H 0 0 (aB (w-aB (2*0))) (aB (h-aB (2*0)))
def pK (nm mt:ByteArray) (g gr w h:Int) (cl us:List aA):Int:=
 cond ((!(vn nm))||(!(vn mt))) 2 (cond (((!(pM g gr))||(!(pN w 1 1048576)))||(!(pN h 1 1048576))) 1 (cond ((decide (4<(cl.length:Int)))||(decide (48<(us.length:Int)))) 4
  (cond ((!(fH cl))||(!(fH us))) 1 (cond (cl.all (aAO w h)&&us.all (aAO w h)) 0 13))))
theorem aUQ (F:Nat) (I G:Int->List (List aA)->Int->Int->List aA->Int->Int->Int->Int->Int->Int->Prop) (J r f w h:Int) (u:List (List aA)) (l:List aA) (O:l.length<=2000000) (n:Nat) (L:l.length<n)
  (V:l.all (aAO w h)=false->∀j,I 13 u r f l l.length j 0 0 (aB (w-aB (2*0))) (aB (h-aB (2*0)))) (S:l.all (aAO w h)=true->G J u r f l l.length l.length 0 0 (aB (w-aB (2*0))) (aB (h-aB (2*0)))):
  aDQ F I G n J u r f l l.length 0 0 0 (aB (w-aB (2*0))) (aB (h-aB (2*0))):=
 aA4 l (aAO w h) O (fun n i=>aDQ F I G n J u r f l l.length i 0 0 (aB (w-aB (2*0))) (aB (h-aB (2*0)))) _ _ (fun n i=>rfl) n L V S
theorem bKz (S:ByteArray) (O:ByteArray) (L:Int) (J:Int) (I:Int) (G:Int) (u:List aA) (r:List aA):
  ∃F,∀Q:Int->Prop,Q (pK S O L J I G u r)->aLs F S O L J I G u r Q:=by
 refine⟨60,fun Q f=>?_⟩;unfold aLs aPA;unfold pK at f;cases h1:((!(vn S))||(!(vn O))) with
 |true=>
  rw[h1] at f;exact f
 |false=>
 rw[h1] at f;simp only[QJ] at f ⊢;cases h2:(((!(pM L J))||(!(pN I 1 1048576)))||(!(pN G 1 1048576))) with
 |true=>
  rw[h2] at f;exact f
 |false=>
 rw[h2] at f;simp only[QJ] at f ⊢;cases V:((decide (4<(u.length:Int)))||(decide (48<(r.length:Int)))) with
 |true=>
  rw[V] at f;exact f
 |false=>
 rw[V] at f;simp only[QJ] at f ⊢;simp only[QC,QF] at V;have hc:u.length<=4:=XY;have hu:r.length<=48:=XY;refine⟨⟨show _<=2000000 by omega,fun _=>show _<=2000000 by omega⟩,?_⟩;cases Z:((!(fH u))||(!(fH r))) with
 |true=>
  rw[Z] at f;exact f
 |false=>
 rw[Z] at f;simp only[QJ] at f ⊢;show aB9 60 _ _ 60 0 [u,r] 2 0 0 0 (aB (I-aB (2*0))) (aB (G-aB (2*0)));refine⟨show 0<=(0:Int)/\(0:Int)<2 by decide,?_⟩;refine aUQ 60 _ _ 0 2 0 I G _ u XY 60 XY (fun q j=>?_) (fun q=>?_)
 ·rw[q] at f;exact f
 ·rw[q,KA] at f;show aB9 60 _ _ 59 0 [u,r] 2 (aB (0+1)) 0 0 (aB (I-aB (2*0))) (aB (G-aB (2*0)));refine⟨show 0<=aB (0+1)/\aB (0+1)<2 by decide,?_⟩;refine aUQ 60 _ _ 0 2 (aB (0+1)) I G _ r XY 60 XY (fun q j=>?_) (fun q=>?_)
  ·rw[q] at f;exact f
  ·rw[q] at f;exact f
def aBD:Nat->Nat->Nat->Canon UU:=fun o b r=>cond (Nat.beq b 0) ⟨[2,15,16,17],[],[(.tmp 15,28,.int)],[],[]⟩ (⟨[],[],[],[],[]⟩)
def aZP (O G I r u f:Int) (Q:Bool->Prop) (L:Bool->Int->Int->zzI->Prop):Prop:=(let J:=(([G,I,r,u,f]).length:Int);L false J 0 ([G,I,r,u,f]))
def aZO (G:Bool->Int->Int->zzI->Prop) (L:Bool->Int->Int->zzI->Prop) (J:Bool->Int->Int->zzI->Prop) (I:Bool) (r f:Int) (u:zzI):Prop:=cond (decide (f<r)) (((0<=f/\f<u.length)/\cond ((decide ((u.getD f.toNat default)<(-1048576)))||(decide (1048576<(u.getD f.toNat default)))) (L false r f u) (G I r (aB (f+1)) u))) (J I r f u)
def aZR (Q:Bool->Prop) (f:Bool) (u r:Int) (G:zzI):Prop:=Q f
def aZQ (Q:Bool->Prop) (u:Bool) (r f:Int) (G:zzI):Prop:=Q true
def aDM (F:Nat) (G:Bool->Int->Int->zzI->Prop) (u:Bool->Int->Int->zzI->Prop):Nat->Bool->Int->Int->zzI->Prop
 |0,_,_,_,_=>False
 |n+1,I,r,f,J=>aZO (aDM F G u n) G u I r f J
def aSD (F:Nat) (Q:Bool->Prop) (u:Bool) (r f:Int) (G:zzI):Prop:=aDM F (fun u r f G=>aZR Q u r f G) (fun u r f G=>aZQ Q u r f G) F u r f G
def aQR (F:Nat) (f I J u G r:Int) (Q:Bool->Prop):Prop:=aZP f I J u G r Q (aSD F Q)
def same {α:Type} (a b:α):Bool:=@decide (a=b) (Classical.propDecidable _)
def qQ (a b:Seg):Bool:=cond (a.Y1==a.Y2) (((b.Y1==b.Y2)&&(a.Y1==b.Y1))&&(decide (b.X1<=a.X2))) (((b.X1==b.X2)&&(a.X1==b.X1))&&(decide (b.Y1<=a.Y2)))
def uP (a b:Seg):Seg:=Seg.mk a.X1 a.Y1 (ma a.X2 b.X2) (ma a.Y2 b.Y2)
def aSJ (x:Seg):List Seg->List Seg
 |[]=>[x]
 |y::r=>bif qQ y x then uP y x::r else x::y::r
def yL (l:List Seg) (x:Seg):List Seg:=(aSJ x l.reverse).reverse
theorem bNS (a:List Seg) (y x:Seg):yL (a++[y]) x=bif qQ y x then a++[uP y x] else a++[y,x]:=by
 unfold yL;rw[List.reverse_append];show (bif qQ y x then uP y x::a.reverse else x::y::a.reverse).reverse=_;cases qQ y x
 ·show (x::y::a.reverse).reverse=a++[y,x];simp
 ·show (uP y x::a.reverse).reverse=a++[uP y x];simp
theorem aJU {α:Type} [Inhabited α] (a:List α) (x:α) (b:List α):(a++x::b).getD a.length default=x:=by simp[QG]
theorem aCC {α:Type} (a:List α) (x y:α) (b:List α):(a++x::b).set a.length y=a++y::b:=XU
theorem bEt {i:Nat} (h:0<i) (f:i<=1000000000):aB ((i:Int)-1)=((i-1:Nat):Int):=by
 rw[dW XY XY];omega
def inR (n:Int):Bool:=!((decide (n<(-1048576)))||(decide (1048576<n)))
def aBm (k x y w h n:Int):Bool:=[x,y,w,h,n].all inR
theorem bKt (L:Int) (G:Int) (I:Int) (r:Int) (u:Int) (f:Int):∃F,∀Q:Bool->Prop,Q (aBm L G I r u f)->aQR F L G I r u f Q:=by
 refine⟨6,fun Q J=>?_⟩;unfold aBm at J;show aDM 6 _ _ 6 false 5 0 [G,I,r,u,f];refine aA4 [G,I,r,u,f] inR XU (fun n i=>aDM 6 _ _ n false 5 i [G,I,r,u,f]) (fun j=>aZR Q false 5 j [G,I,r,u,f]) (fun j=>aZQ Q false 5 j [G,I,r,u,f]) (fun n i=>?_) 6 XU (fun q j=>?_) (fun q=>?_)
 ·show cond _ _ _=cond _ _ _;unfold inR;rw[Bool.not_not];rfl
 ·rw[q] at J;exact J
 ·rw[q] at J;exact J
def aMF (O L J I G u r f:Int):Bool:=(aHS G u r f O L J I)
def aB1:Nat->Nat->Nat->Canon UU:=fun o b r=>cond (Nat.beq b 0) ⟨[0,1,4,7,8],[],[],[],[]⟩ (⟨[],[],[],[],[]⟩)
def bAt (l:List aA) (G u r f:Int) (Q:Int->Prop) (I:List aA->Int->Int->Int->Int->Int->Int->Int->Prop):Prop:=I l G u r f 0 (l.length:Int) 0
def bAs (O:List aA->Int->Int->Int->Int->Int->Int->Int->Prop) (Z:List aA->Int->Int->Int->Int->Int->Int->Int->Prop) (V:List aA->Int->Int->Int->Int->Int->Int->Int->Prop) (r:List aA) (G I J L S u f:Int):Prop:=cond (decide (f<u)) ((let e0:=(r.getD f.toNat default);(let r1:=(aMF e0.X e0.Y e0.W e0.H G I J L);((0<=f/\f<r.length)/\cond r1 (Z r G I J L f u f) (O r G I J L S u (aB (f+1))))))) (V r G I J L S u f)
def aPM (Q:Int->Prop) (G:List aA) (I J L O f u r:Int):Prop:=Q f
def aPL (Q:Int->Prop) (G:List aA) (I J L O u r f:Int):Prop:=Q (-1)
def aD1 (F:Nat) (r:List aA->Int->Int->Int->Int->Int->Int->Int->Prop) (f:List aA->Int->Int->Int->Int->Int->Int->Int->Prop):Nat->List aA->Int->Int->Int->Int->Int->Int->Int->Prop
 |0,_,_,_,_,_,_,_,_=>False
 |n+1,J,L,O,S,V,I,G,u=>bAs (aD1 F r f n) r f J L O S V I G u
def aSH (F:Nat) (Q:Int->Prop) (G:List aA) (I J L O u r f:Int):Prop:=aD1 F (fun G I J L O u r f=>aPM Q G I J L O u r f) (fun G I J L O u r f=>aPL Q G I J L O u r f) F G I J L O u r f
def aQn (F:Nat) (l:List aA) (G u r f:Int) (Q:Int->Prop):Prop:=bAt l G u r f Q (aSH F Q)
def qR {α:Type} (p:α->Bool):List α->Int->Int
 |[],_=> -1
 |x::r,i=>bif p x then i else qR p r (i+1)
theorem aFF {α:Type} (p:α->Bool):∀(l:List α) (i:Int),0<=i->(decide (0<=qR p l i))=l.any p
 |[],i,h=>rfl
 |x::r,i,h=>by
  unfold qR;rw[List.any_cons];cases p x
  ·exact aFF p r (i+1) XY
  ·exact bN h
theorem aJT {α:Type} [Inhabited α] (l:List α) (p:α->Bool) (J:l.length<=2000000) (Q:Int->Prop) (W:Nat->Int->Prop) (u:∀n i,W (n+1) i=cond (decide (i<(l.length:Int))) ((0<=i/\i<(l.length:Int))/\cond (p (l.getD i.toNat default)) (Q i) (W n (aB (i+1)))) (Q (-1))):
  ∀(n i:Nat),i<=l.length->l.length<n+i->Q (qR p (l.drop i) i)->W n i:=by
 intro n
 induction n with
 |zero=>intro i I G;omega
 |succ n r=>
  intro i I G f;rw[u]
  by_cases h:i<l.length
  ·rw[bN (show (i:Int)<l.length by omega),QX];refine⟨⟨XY,XY⟩,?_⟩;rw[mX l i h] at f;unfold qR at f;rw[QV,cO h XY];cases hp:p (l.getD i default) with
   |true=>
    rw[hp] at f;exact f
   |false=>
    rw[hp] at f;exact r (i+1) XY XY f
  ·have e:i=l.length:=XY;subst e;rw[bV XY,QJ];rw[KX] at f;exact f
def j7 (a b c d:Int) (r:aA):Bool:=aMF r.X r.Y r.W r.H a b c d
def aHr (l:List aA) (a b c d:Int):Prop:=l.length<=2000000
def aHW (l:List aA) (a b c d:Int):Int:=qR (j7 a b c d) l 0
theorem bL4 (l:List aA) (G:Int) (u:Int) (r:Int) (f:Int) (h:aHr l G u r f):∃F,∀Q:Int->Prop,Q (aHW l G u r f)->aQn F l G u r f Q:=by
 refine⟨l.length+1,fun Q hQ=>?_⟩;have key:∀(n i:Nat) (I:Int),i<=l.length->l.length<n+i->Q (qR (j7 G u r f) (l.drop i) i)->aD1 (l.length+1) (fun O S V Z cG I L J=>aPM Q O S V Z cG I L J) (fun O S V Z cG I L J=>aPL Q O S V Z cG I L J) n l G u r f I l.length i:=
  fun n i I=>aJT l (j7 G u r f) h Q (fun n i=>aD1 (l.length+1) (fun O S V Z cG I L J=>aPM Q O S V Z cG I L J) (fun O S V Z cG I L J=>aPL Q O S V Z cG I L J) n l G u r f I l.length i) (fun n i=>rfl) n i
 exact key (l.length+1) 0 0 XY XY hQ
def nT (s:Seg):Prop:=((s.X1==s.X2)==(s.Y1==s.Y2))=false/\s.X1<=s.X2/\s.Y1<=s.Y2
def lU (l:List Seg):Prop:=∀s∈l,nT s
def x9 (l:List aA) (G u r f:Int):Prop:=(aHr l G u r f)
def uB (l:List aA) (G u r f:Int):Bool:=decide (0<=(aHW l G u r f))
def yG (x y z:Int):Int:=if x≠0 then x else if y≠0 then y else z
def qN (a b:Seg):Int:=
 if a.Y1=a.Y2/\¬b.Y1=b.Y2 then -1 else if b.Y1=b.Y2/\¬a.Y1=a.Y2 then 1 else
 if a.Y1=a.Y2 then yG (Lib.compareInt a.Y1 b.Y1) (Lib.compareInt a.X1 b.X1) (Lib.compareInt a.X2 b.X2)
 else yG (Lib.compareInt a.X1 b.X1) (Lib.compareInt a.Y1 b.Y1) (Lib.compareInt a.Y2 b.Y2)
theorem aRm (G r u f J I:Int):yG (Lib.compareInt G r) (Lib.compareInt u f) (Lib.compareInt J I)<0↔(G<r\/G=r/\(u<f\/u=f/\J<I)):=by
 unfold yG Lib.compareInt
 by_cases S:G<r
 ·simp[S]
 ·by_cases Z:r<G
  ·have:¬G=r:=XY;simp[S,Z,this]
  ·have e:G=r:=XY;subst e
   by_cases O:u<f
   ·simp[O]
   ·by_cases V:f<u
    ·have:¬u=f:=XY;simp[O,V,this]
    ·have e:u=f:=XY;subst e
     by_cases L:J<I
     ·simp[L]
     ·by_cases h6:I<J
      ·simp[L,h6]
      ·simp[L,h6]
def ltS (a b:Seg):Prop:=(a.Y1=a.Y2/\¬b.Y1=b.Y2)\/(a.Y1=a.Y2/\b.Y1=b.Y2/\(a.Y1<b.Y1\/a.Y1=b.Y1/\(a.X1<b.X1\/a.X1=b.X1/\a.X2<b.X2)))\/
 (¬a.Y1=a.Y2/\¬b.Y1=b.Y2/\(a.X1<b.X1\/a.X1=b.X1/\(a.Y1<b.Y1\/a.Y1=b.Y1/\a.Y2<b.Y2)))
theorem bKQ (a b:Seg):qN a b<0↔ltS a b:=by
 unfold qN ltS
 by_cases r:a.Y1=a.Y2<;>by_cases f:b.Y1=b.Y2
 ·simp only[r,f,true_and,not_true_eq_false,false_and,and_false,if_false,if_true,or_false,false_or];rw[aRm]
 ·simp only[r,f,true_and,not_true_eq_false,not_false_eq_true,false_and,and_false,if_true,or_false,iff_true];decide
 ·simp only[r,f,true_and,not_true_eq_false,not_false_eq_true,false_and,and_false,if_false,if_true,or_false,iff_false];decide
 ·simp only[r,f,true_and,not_false_eq_true,false_and,and_false,if_false,false_or];rw[aRm]
theorem aNr (a b:Seg):ltOf qN a b=true↔ltS a b:=by
 unfold ltOf;rw[JN,bKQ]
theorem aEP (a b:Seg):ltOf qN a b=false↔¬ltS a b:=by
 rw[<- aNr,Bool.not_eq_true]
theorem aRk:Go.Sort.SWO (ltOf qN) where
 irrefl x:=by rw[aEP];unfold ltS;omega
 trans x y z h1 h2:=by rw[aNr] at*;unfold ltS at*;omega
 ntrans x y z h1 h2:=by rw[aEP] at*;unfold ltS at*;omega
def jS (l:List Seg):List Seg:=l.mergeSort (fun a b=>!(ltOf qN b a))
theorem aDo (l:List Seg):(jS l).Perm l:=List.mergeSort_perm _ _
theorem bJk (l:List Seg):(jS l).Pairwise (fun a b=>¬ltS b a):=by
 have h:(jS l).Pairwise (fun a b=>(!(ltOf qN b a))=true):=by
  refine List.pairwise_mergeSort ?_ ?_ _
  ·intro a b c f r;simp only[JF] at f r ⊢;exact aRk.ntrans c b a r f
  ·intro a b;cases h:ltOf qN b a with
   |false=>simp
   |true=>
    have f:¬ltS a b:=by
     rw[aNr] at h;unfold ltS at*;omega
    simp[(aEP a b).2 f]
 refine h.imp fun {a b} q=>?_
 rw[JF] at q;exact(aEP _ _).1 q
theorem aMc (s:Seg):nT s↔(s.X1=s.X2↔¬s.Y1=s.Y2)/\s.X1<=s.X2/\s.Y1<=s.Y2:=by
 unfold nT
 by_cases r:s.X1=s.X2<;>by_cases f:s.Y1=s.Y2
 ·rw[KI.2 r,KI.2 f];simp[r,f]
 ·rw[KI.2 r,JT.2 f];simp[r,f]
 ·rw[JT.2 r,KI.2 f];simp[r,f]
 ·rw[JT.2 r,JT.2 f];simp[r,f]
theorem aMR {a b:Seg} (G:a.X1=b.X1) (u:a.Y1=b.Y1) (r:a.X2=b.X2) (f:a.Y2=b.Y2):a=b:=by
 cases a;cases b;cases G;cases u;cases r;cases f;rfl
theorem bNa {a b:Seg} (f:nT a) (hb:nT b) (u:¬ltS a b) (r:¬ltS b a):a=b:=by
 rw[aMc] at f hb;unfold ltS at u r;refine aMR ?_ ?_ ?_ ?_<;>omega
theorem bJl {l f:List Seg} (r:lU l) (hp:f.Perm l) (u:f.Pairwise (fun a b=>¬ltS b a)):f=jS l:=
 List.Perm.eq_of_pairwise (le:=fun a b=>¬ltS b a) (fun a b G hb J I=>bNa (r a (hp.mem_iff.1 G)) (r b ((aDo l).mem_iff.1 hb)) I J) u (bJk l) (hp.trans (aDo l).symm)
theorem aSS (a b:Int):a<=ma a b/\b<=ma a b/\(ma a b=a\/ma a b=b):=by
 unfold ma;split<;>omega
def joP (a b:Seg):Prop:=(a.Y1=a.Y2/\b.Y1=b.Y2/\a.Y1=b.Y1/\b.X1<=a.X2)\/(¬a.Y1=a.Y2/\b.X1=b.X2/\a.X1=b.X1/\b.Y1<=a.Y2)
theorem aOg (a b:Seg):qQ a b=true↔joP a b:=by
 unfold qQ joP
 by_cases f:a.Y1=a.Y2
 ·have e1:(a.Y1==a.Y2)=true:=by simpa using f
  rw[e1];simp[f,and_assoc]
 ·have e1:(a.Y1==a.Y2)=false:=by simpa using f
  rw[e1];simp[f,and_assoc]
theorem bNi {z x:Seg} (u:nT z) (hx:nT x) (h:joP z x):nT (uP z x):=by
 rw[aMc] at*;have r:=aSS z.X2 x.X2;have f:=aSS z.Y2 x.Y2;unfold joP at h;show (z.X1=ma z.X2 x.X2↔¬z.Y1=ma z.Y2 x.Y2)/\z.X1<=ma z.X2 x.X2/\z.Y1<=ma z.Y2 x.Y2;omega
theorem bNU {x:Seg} (hx:nT x):∀{l:List Seg},lU l->lU (aSJ x l)
 |[],_=>fun s f=>by
  rw[JB.1 f];exact hx
 |z::r,h=>by
  show lU (bif qQ z x then uP z x::r else x::z::r);cases u:qQ z x with
  |false=>
   intro s f;rcases List.mem_cons.1 (show s∈x::z::r from f) with rfl|f
   ·exact hx
   ·exact h s f
  |true=>
   intro s f;rcases List.mem_cons.1 (show s∈uP z x::r from f) with rfl|f
   ·exact bNi (h z XU) hx ((aOg _ _).1 u)
   ·exact h s (by simp[f])
theorem bNT {x:Seg} {l:List Seg} (hx:nT x) (h:lU l):lU (yL l x):=by
 unfold yL;intro s f;exact bNU hx (l:=l.reverse) (fun s f=>h s (List.mem_reverse.1 f)) s (List.mem_reverse.1 f)
theorem aDp {s:Seg} (h:nT s):(s.Y1=s.Y2/\s.X1<s.X2)\/(s.X1=s.X2/\s.Y1<s.Y2):=by
 rw[aMc] at h;omega
theorem aST (a:Int):ma a a=a:=by unfold ma;split<;>rfl
theorem aJL {z x:Seg} (f:nT z) (u:x.Y1=x.Y2) (r:x.X1<x.X2):qQ z x=true↔z.Y1=z.Y2/\z.X1<z.X2/\z.Y1=x.Y1/\x.X1<=z.X2:=by
 rw[aOg];unfold joP;rcases aDp f with ⟨a,b⟩|⟨a,b⟩
 ·constructor
  ·rintro (q|q)<;>omega
  ·intro q;left;omega
 ·constructor
  ·rintro (q|q)<;>omega
  ·intro q;omega
theorem aJK {z x:Seg} (f:nT z) (u:x.X1=x.X2) (r:x.Y1<x.Y2):qQ z x=true↔z.X1=z.X2/\z.Y1<z.Y2/\z.X1=x.X1/\x.Y1<=z.Y2:=by
 rw[aOg];unfold joP;rcases aDp f with ⟨a,b⟩|⟨a,b⟩
 ·constructor
  ·rintro (q|q)<;>omega
  ·intro q;omega
 ·constructor
  ·rintro (q|q)<;>omega
  ·intro q;right;omega
def aAz:Nat->Nat->Nat->Canon UU:=fun o b r=>cond (Nat.beq b 0) ⟨[4,13,14,15],[],[(.tmp 13,121,.seg),(.tmp 4,122,.seg)],[],[]⟩ (⟨[],[],[],[],[]⟩)
def aYv (f:List Seg) (Q:List Seg->Prop) (r:Int->Int->List Seg->List Seg->Prop):Prop:=((f.length<=2000000)/\((lU f/\f.length<=2000000)/\r ((jS f).length:Int) 0 (jS f) ([])))
def aJX (I:Int->Int->List Seg->List Seg->Prop) (x0:Int->Int->List Seg->List Seg->Prop) (G f:Int) (u r:List Seg):Prop:=cond (decide (f<G)) (((0<=f/\f<u.length)/\cond (decide (0<(r.length:Int))) (((0<=(aB ((r.length:Int)-1))/\(aB ((r.length:Int)-1))<r.length)/\cond (((u.getD f.toNat default).Y1)==((u.getD f.toNat default).Y2)) ((let v0:=(r.getD ((aB ((r.length:Int)-1)).toNat) default).Y1;(let v1:=(r.getD ((aB ((r.length:Int)-1)).toNat) default).Y2;cond (v0==v1) ((let v2:=(r.getD ((aB ((r.length:Int)-1)).toNat) default).Y1;cond (((u.getD f.toNat default).Y1)==v2) ((let v3:=(r.getD ((aB ((r.length:Int)-1)).toNat) default).X2;cond (decide (((u.getD f.toNat default).X1)<=v3)) ((let v4:=(r.getD ((aB ((r.length:Int)-1)).toNat) default).X2;I G (aB (f+1)) u (r.set ((aB ((r.length:Int)-1)).toNat) (Seg.mk ((r.getD ((aB ((r.length:Int)-1)).toNat) default).X1) ((r.getD ((aB ((r.length:Int)-1)).toNat) default).Y1) (ma v4 ((u.getD f.toNat default).X2)) ((r.getD ((aB ((r.length:Int)-1)).toNat) default).Y2))))) (cond (((u.getD f.toNat default).X1)==((u.getD f.toNat default).X2)) ((let v5:=(r.getD ((aB ((r.length:Int)-1)).toNat) default).X1;(let v6:=(r.getD ((aB ((r.length:Int)-1)).toNat) default).X2;cond (v5==v6) ((let v7:=(r.getD ((aB ((r.length:Int)-1)).toNat) default).X1;cond (((u.getD f.toNat default).X1)==v7) ((let v8:=(r.getD ((aB ((r.length:Int)-1)).toNat) default).Y2;cond (decide (((u.getD f.toNat default).Y1)<=v8)) ((let v9:=(r.getD ((aB ((r.length:Int)-1)).toNat) default).Y2;I G (aB (f+1)) u (r.set ((aB ((r.length:Int)-1)).toNat) (Seg.mk ((r.getD ((aB ((r.length:Int)-1)).toNat) default).X1) ((r.getD ((aB ((r.length:Int)-1)).toNat) default).Y1) ((r.getD ((aB ((r.length:Int)-1)).toNat) default).X2) (ma v9 ((u.getD f.toNat default).Y2)))))) ((((r.length+([(u.getD f.toNat default)]).length)*32<=140737488355328)/\I G (aB (f+1)) u (r++([(u.getD f.toNat default)])))))) ((((r.length+([(u.getD f.toNat default)]).length)*32<=140737488355328)/\I G (aB (f+1)) u (r++([(u.getD f.toNat default)])))))) ((((r.length+([(u.getD f.toNat default)]).length)*32<=140737488355328)/\I G (aB (f+1)) u (r++([(u.getD f.toNat default)]))))))) ((((r.length+([(u.getD f.toNat default)]).length)*32<=140737488355328)/\I G (aB (f+1)) u (r++([(u.getD f.toNat default)]))))))) (cond (((u.getD f.toNat default).X1)==((u.getD f.toNat default).X2)) ((let v10:=(r.getD ((aB ((r.length:Int)-1)).toNat) default).X1;(let v11:=(r.getD ((aB ((r.length:Int)-1)).toNat) default).X2;cond (v10==v11) ((let v12:=(r.getD ((aB ((r.length:Int)-1)).toNat) default).X1;cond (((u.getD f.toNat default).X1)==v12) ((let v13:=(r.getD ((aB ((r.length:Int)-1)).toNat) default).Y2;cond (decide (((u.getD f.toNat default).Y1)<=v13)) ((let v14:=(r.getD ((aB ((r.length:Int)-1)).toNat) default).Y2;I G (aB (f+1)) u (r.set ((aB ((r.length:Int)-1)).toNat) (Seg.mk ((r.getD ((aB ((r.length:Int)-1)).toNat) default).X1) ((r.getD ((aB ((r.length:Int)-1)).toNat) default).Y1) ((r.getD ((aB ((r.length:Int)-1)).toNat) default).X2) (ma v14 ((u.getD f.toNat default).Y2)))))) ((((r.length+([(u.getD f.toNat default)]).length)*32<=140737488355328)/\I G (aB (f+1)) u (r++([(u.getD f.toNat default)])))))) ((((r.length+([(u.getD f.toNat default)]).length)*32<=140737488355328)/\I G (aB (f+1)) u (r++([(u.getD f.toNat default)])))))) ((((r.length+([(u.getD f.toNat default)]).length)*32<=140737488355328)/\I G (aB (f+1)) u (r++([(u.getD f.toNat default)]))))))) ((((r.length+([(u.getD f.toNat default)]).length)*32<=140737488355328)/\I G (aB (f+1)) u (r++([(u.getD f.toNat default)]))))))) (cond (((u.getD f.toNat default).X1)==((u.getD f.toNat default).X2)) ((let v15:=(r.getD ((aB ((r.length:Int)-1)).toNat) default).X1;(let v16:=(r.getD ((aB ((r.length:Int)-1)).toNat) default).X2;cond (v15==v16) ((let v17:=(r.getD ((aB ((r.length:Int)-1)).toNat) default).X1;cond (((u.getD f.toNat default).X1)==v17) ((let v18:=(r.getD ((aB ((r.length:Int)-1)).toNat) default).Y2;cond (decide (((u.getD f.toNat default).Y1)<=v18)) ((let Z:=(r.getD ((aB ((r.length:Int)-1)).toNat) default).Y2;I G (aB (f+1)) u (r.set ((aB ((r.length:Int)-1)).toNat) (Seg.mk ((r.getD ((aB ((r.length:Int)-1)).toNat) default).X1) ((r.getD ((aB ((r.length:Int)-1)).toNat) default).Y1) ((r.getD ((aB ((r.length:Int)-1)).toNat) default).X2) (ma Z ((u.getD f.toNat default).Y2)))))) ((((r.length+([(u.getD f.toNat default)]).length)*32<=140737488355328)/\I G (aB (f+1)) u (r++([(u.getD f.toNat default)])))))) ((((r.length+([(u.getD f.toNat default)]).length)*32<=140737488355328)/\I G (aB (f+1)) u (r++([(u.getD f.toNat default)])))))) ((((r.length+([(u.getD f.toNat default)]).length)*32<=140737488355328)/\I G (aB (f+1)) u (r++([(u.getD f.toNat default)]))))))) ((((r.length+([(u.getD f.toNat default)]).length)*32<=140737488355328)/\I G (aB (f+1)) u (r++([(u.getD f.toNat default)])))))))) (cond (((u.getD f.toNat default).X1)==((u.getD f.toNat default).X2)) ((let V:=(r.getD ((aB ((r.length:Int)-1)).toNat) default).X1;(let S:=(r.getD ((aB ((r.length:Int)-1)).toNat) default).X2;cond (V==S) ((let O:=(r.getD ((aB ((r.length:Int)-1)).toNat) default).X1;cond (((u.getD f.toNat default).X1)==O) ((let L:=(r.getD ((aB ((r.length:Int)-1)).toNat) default).Y2;cond (decide (((u.getD f.toNat default).Y1)<=L)) ((let J:=(r.getD ((aB ((r.length:Int)-1)).toNat) default).Y2;I G (aB (f+1)) u (r.set ((aB ((r.length:Int)-1)).toNat) (Seg.mk ((r.getD ((aB ((r.length:Int)-1)).toNat) default).X1) ((r.getD ((aB ((r.length:Int)-1)).toNat) default).Y1) ((r.getD ((aB ((r.length:Int)-1)).toNat) default).X2) (ma J ((u.getD f.toNat default).Y2)))))) ((((r.length+([(u.getD f.toNat default)]).length)*32<=140737488355328)/\I G (aB (f+1)) u (r++([(u.getD f.toNat default)])))))) ((((r.length+([(u.getD f.toNat default)]).length)*32<=140737488355328)/\I G (aB (f+1)) u (r++([(u.getD f.toNat default)])))))) ((((r.length+([(u.getD f.toNat default)]).length)*32<=140737488355328)/\I G (aB (f+1)) u (r++([(u.getD f.toNat default)]))))))) ((((r.length+([(u.getD f.toNat default)]).length)*32<=140737488355328)/\I G (aB (f+1)) u (r++([(u.getD f.toNat default)]))))))) ((((r.length+([(u.getD f.toNat default)]).length)*32<=140737488355328)/\I G (aB (f+1)) u (r++([(u.getD f.toNat default)])))))) (x0 G f u r)
def bPh (Q:List Seg->Prop) (u r:Int) (G f:List Seg):Prop:=Q f
def zX (F:Nat) (u:Int->Int->List Seg->List Seg->Prop):Nat->Int->Int->List Seg->List Seg->Prop
 |0,_,_,_,_=>False
 |n+1,r,f,G,I=>aJX (zX F u n) u r f G I
def aSA (F:Nat) (Q:List Seg->Prop) (r f:Int) (u G:List Seg):Prop:=zX F (fun r f u G=>bPh Q r f u G) F r f u G
def aQL (F:Nat) (f:List Seg) (Q:List Seg->Prop):Prop:=aYv f Q (aSA F Q)
def aMh (l:List Seg):Prop:=lU l/\l.length<=2000000
def k6 (l:List Seg):List Seg:=(jS l).foldl yL []
theorem aCp {a b:Int} (h:a=b):(a==b)=true:=KI.2 h
theorem aCq {a b:Int} (h:¬a=b):(a==b)=false:=JT.2 h
theorem bNb (F:Nat) (V:Int->Int->List Seg->List Seg->Prop) (l:List Seg) (hl:l.length<=2000000) (hp:lU l):∀(n i:Nat) (out:List Seg),i<=l.length->l.length<n+i->out.length<=i->lU out->V l.length l.length l ((l.drop i).foldl yL out)->
  zX F V n l.length i l out:=by
 intro n
 induction n with
 |zero=>intro i out h1 h2;omega
 |succ n ih=>
  intro i out h1 h2 ho S hx;show aJX _ _ _ _ _ _;unfold aJX
  by_cases h:i<l.length
  ·rw[bN (show (i:Int)<l.length by omega),QX,QV,cO h XY];have O:nT (l.getD i default):=hp _ (by rw[QG,QL h];exact QN h);rw[mX l i h,QI] at hx;generalize l.getD i default=x at hx O ⊢;refine⟨⟨XY,XY⟩,?_⟩;have r:lU (yL out x):=bNT O S;rcases List.eq_nil_or_concat out with rfl|⟨a,y,rfl⟩
   ·rw[bV (by decide),QJ];have app:(([]:List Seg).length+[x].length)*32<=140737488355328/\zX F V n l.length ((i+1:Nat):Int) l ([]++[x]):=
     ⟨XU,ih (i+1) _ XY XY XU r hx⟩
    exact app
   ·rw[List.concat_eq_append] at ho hx S r ⊢;have u:(a++[y]).length=a.length+1:=XU;rw[u] at ho;have e0:aB (((a++[y]).length:Int)-1)=(a.length:Int):=by
     rw[bEt (by rw[u];omega) (by rw[u];omega),u];rfl
    rw[e0,bN (show (0:Int)<((a++[y]).length:Int) by rw[u];omega),QX];have g1:(a++[y]).getD (a.length:Int).toNat default=y:=by rw[QV];exact aJU a y []
    have s1:∀z:Seg,(a++[y]).set (a.length:Int).toNat z=a++[z]:=fun z=>by rw[QV];exact aCC a y z []
    dsimp only;simp only[g1,s1];have f:nT y:=S y XU;have Z:=bNS a y x;refine⟨⟨XY,by rw[u];omega⟩,?_⟩;have app:qQ y x=false->((a++[y]).length+[x].length)*32<=140737488355328/\zX F V n l.length ((i+1:Nat):Int) l ((a++[y])++[x]):=fun hj=>by
     rw[hj] at Z;rw[Z] at hx r;refine⟨by simp;omega,ih (i+1) _ XY XY (by simp;omega) ?_ ?_⟩
     ·simpa using r
     ·simpa using hx
    have put:qQ y x=true->∀z,z=uP y x->zX F V n l.length ((i+1:Nat):Int) l (a++[z]):=fun hj z hz=>by
     rw[hj] at Z;rw[Z] at hx r;subst hz;exact ih (i+1) _ XY XY (by simp;omega) r hx
    rcases aDp O with ⟨e1,G⟩|⟨e1,G⟩
    ·rw[aCp e1,aCq (show ¬x.X1=x.X2 by omega)];simp only[QX,QJ]
     by_cases L:y.Y1=y.Y2
     ·rw[aCp L,QX]
      by_cases J:x.Y1=y.Y1
      ·rw[aCp J,QX]
       by_cases I:x.X1<=y.X2
       ·rw[bN I,QX];refine put ((aJL f e1 G).2 ⟨L,by rcases aDp f with q|q<;>omega,J.symm,I⟩) _ (aMR rfl rfl rfl ?_)
        show y.Y2=ma y.Y2 x.Y2;rw[show x.Y2=y.Y2 by omega,aST]
       ·rw[bV I,QJ];exact app (KD.2 fun q=>I ((aJL f e1 G).1 q).2.2.2)
      ·rw[aCq J,QJ];exact app (KD.2 fun q=>J ((aJL f e1 G).1 q).2.2.1.symm)
     ·rw[aCq L,QJ];exact app (KD.2 fun q=>L ((aJL f e1 G).1 q).1)
    ·rw[aCp e1,aCq (show ¬x.Y1=x.Y2 by omega)];simp only[QX,QJ]
     by_cases L:y.X1=y.X2
     ·rw[aCp L,QX]
      by_cases J:x.X1=y.X1
      ·rw[aCp J,QX]
       by_cases I:x.Y1<=y.Y2
       ·rw[bN I,QX];refine put ((aJK f e1 G).2 ⟨L,by rcases aDp f with q|q<;>omega,J.symm,I⟩) _ (aMR rfl rfl ?_ rfl)
        show y.X2=ma y.X2 x.X2;rw[show x.X2=y.X2 by omega,aST]
       ·rw[bV I,QJ];exact app (KD.2 fun q=>I ((aJK f e1 G).1 q).2.2.2)
      ·rw[aCq J,QJ];exact app (KD.2 fun q=>J ((aJK f e1 G).1 q).2.2.1.symm)
     ·rw[aCq L,QJ];exact app (KD.2 fun q=>L ((aJK f e1 G).1 q).1)
  ·have e:i=l.length:=XY;subst e;rw[bV XY,QJ];rw[KX] at hx;exact hx
theorem bKm (f:List Seg) (h:aMh f):∃F,∀Q:List Seg->Prop,Q (k6 f)->aQL F f Q:=by
 refine⟨f.length+1,fun Q G=>?_⟩;have r:(jS f).length=f.length:=(aDo f).length_eq;refine⟨h.2,h,?_⟩;refine bNb _ _ (jS f) (by rw[r];exact h.2) (fun s u=>h.1 s ((aDo f).mem_iff.1 u)) _ 0 [] XY (by rw[r];omega) XU (fun s u=>by cases u) ?_;show Q (((jS f).drop 0).foldl yL []);rw[List.drop_zero];exact G
def aBB:Nat->Nat->Nat->Canon UU:=fun o b r=>cond (Nat.beq o 0&&Nat.beq b 0) ⟨[4,5,7,24,25,26],[4,23],[(.cell 23 11,50,.rect),(.cell 23 10,51,.seg)],[],[]⟩ (⟨[],[],[],[],[]⟩)
def aOv (V S:ByteArray) (O L G u:Int) (J I:List aA) (f:List Opn) (Q:List Seg->List aA->Int->Prop) (Z:Int->List Opn->Int->Int->ByteArray->ByteArray->Int->Int->Int->Int->List aA->List aA->Int->Int->List aA->List Seg->Prop):Prop:=(let r:=(pK V S O L G u J I);cond (r !=0) (Q ([]) ([]) r) (cond (decide (4000<(f.length:Int))) (Q ([]) ([]) 4) (Z 0 f (f.length:Int) 0 V S O L G u J I 0 0 ([]) ([]))))
def aJY (rec:Int->List Opn->Int->Int->ByteArray->ByteArray->Int->Int->Int->Int->List aA->List aA->Int->Int->List aA->List Seg->Prop) (x0:Int->List Opn->Int->Int->ByteArray->ByteArray->Int->Int->Int->Int->List aA->List aA->Int->Int->List aA->List Seg->Prop) (x1:Int->List Opn->Int->Int->ByteArray->ByteArray->Int->Int->Int->Int->List aA->List aA->Int->Int->List aA->List Seg->Prop) (t5:Int) (r:List Opn) (u f:Int) (V Z:ByteArray) (gN gM O S:Int) (G gL:List aA) (jB jA:Int) (gJ:List aA) (gB:List Seg):Prop:=cond (decide (f<u)) ((let e0:=(r.getD f.toNat default);((0<=f/\f<r.length)/\cond (e0.Kind==3) (cond (!(kL e0.X e0.Y e0.W e0.H)) (x0 16 r u f V Z gN gM O S G gL jB jA gJ gB) ((let r1:=(sK e0.X e0.Y e0.W e0.H 0 0 O S);cond (!r1) (x0 16 r u f V Z gN gM O S G gL jB jA gJ gB) ((((gJ.length+([(aA.mk e0.X e0.Y e0.W e0.H)]).length)*32<=140737488355328)/\rec t5 r u (aB (f+1)) V Z gN gM O S G gL jB jA (gJ++([(aA.mk e0.X e0.Y e0.W e0.H)])) gB))))) (cond (e0.Kind==1) ((let r2:=(aBq V Z gN gM O S G gL e0.X e0.Y);cond (!r2) (x0 16 r u f V Z gN gM O S G gL jB jA gJ gB) (cond (e0.Kind !=1) ((let L:=(jF jB jA e0.X e0.Y);(let r4:=(uB G L.1 L.2.1 L.2.2.1 L.2.2.2);((((L.1==L.2.2.1)==(L.2.1==L.2.2.2))=false->x9 G L.1 L.2.1 L.2.2.1 L.2.2.2)/\cond (((L.1==L.2.2.1)==(L.2.1==L.2.2.2))||r4) (x0 16 r u f V Z gN gM O S G gL jB jA gJ gB) ((((gB.length+([(Seg.mk L.1 L.2.1 L.2.2.1 L.2.2.2)]).length)*32<=140737488355328)/\rec t5 r u (aB (f+1)) V Z gN gM O S G gL e0.X e0.Y gJ (gB++([(Seg.mk L.1 L.2.1 L.2.2.1 L.2.2.2)])))))))) (rec t5 r u (aB (f+1)) V Z gN gM O S G gL e0.X e0.Y gJ gB)))) (cond (e0.Kind==2) ((let r5:=(aBq V Z gN gM O S G gL e0.X e0.Y);cond (!r5) (x0 16 r u f V Z gN gM O S G gL jB jA gJ gB) (cond (e0.Kind !=1) ((let J:=(jF jB jA e0.X e0.Y);(let r7:=(uB G J.1 J.2.1 J.2.2.1 J.2.2.2);((((J.1==J.2.2.1)==(J.2.1==J.2.2.2))=false->x9 G J.1 J.2.1 J.2.2.1 J.2.2.2)/\cond (((J.1==J.2.2.1)==(J.2.1==J.2.2.2))||r7) (x0 16 r u f V Z gN gM O S G gL jB jA gJ gB) ((((gB.length+([(Seg.mk J.1 J.2.1 J.2.2.1 J.2.2.2)]).length)*32<=140737488355328)/\rec t5 r u (aB (f+1)) V Z gN gM O S G gL e0.X e0.Y gJ (gB++([(Seg.mk J.1 J.2.1 J.2.2.1 J.2.2.2)])))))))) (rec t5 r u (aB (f+1)) V Z gN gM O S G gL e0.X e0.Y gJ gB)))) (cond (e0.Kind==4) ((let r8:=(aBq V Z gN gM O S G gL e0.X e0.Y);cond (!r8) (x0 16 r u f V Z gN gM O S G gL jB jA gJ gB) (cond (e0.Kind !=1) ((let I:=(jF jB jA e0.X e0.Y);(let oO:=(uB G I.1 I.2.1 I.2.2.1 I.2.2.2);((((I.1==I.2.2.1)==(I.2.1==I.2.2.2))=false->x9 G I.1 I.2.1 I.2.2.1 I.2.2.2)/\cond (((I.1==I.2.2.1)==(I.2.1==I.2.2.2))||oO) (x0 16 r u f V Z gN gM O S G gL jB jA gJ gB) ((((gB.length+([(Seg.mk I.1 I.2.1 I.2.2.1 I.2.2.2)]).length)*32<=140737488355328)/\rec t5 r u (aB (f+1)) V Z gN gM O S G gL e0.X e0.Y gJ (gB++([(Seg.mk I.1 I.2.1 I.2.2.1 I.2.2.2)])))))))) (rec t5 r u (aB (f+1)) V Z gN gM O S G gL e0.X e0.Y gJ gB)))) (x0 16 r u f V Z gN gM O S G gL jB jA gJ gB))))))) (x1 t5 r u f V Z gN gM O S G gL jB jA gJ gB)
def bPo (Q:List Seg->List aA->Int->Prop) (f:Int) (G:List Opn) (u r:Int) (L O:ByteArray) (S V gI gH:Int) (fL Z:List aA) (I J:Int) (gJ:List aA) (gB:List Seg):Prop:=Q ([]) ([]) f
def bPn (Q:List Seg->List aA->Int->Prop) (J:Int) (I:List Opn) (G u:Int) (S V:ByteArray) (Z gM gI gH:Int) (fL gL:List aA) (L O:Int) (f:List aA) (r:List Seg):Prop:=((aMh r)/\((f.length<=2000000)/\Q (k6 r) f 0))
def aDK (F:Nat) (I:Int->List Opn->Int->Int->ByteArray->ByteArray->Int->Int->Int->Int->List aA->List aA->Int->Int->List aA->List Seg->Prop) (G:Int->List Opn->Int->Int->ByteArray->ByteArray->Int->Int->Int->Int->List aA->List aA->Int->Int->List aA->List Seg->Prop):Nat->Int->List Opn->Int->Int->ByteArray->ByteArray->Int->Int->Int->Int->List aA->List aA->Int->Int->List aA->List Seg->Prop
 |0,_,_,_,_,_,_,_,_,_,_,_,_,_,_,_,_=>False
 |n+1,J,u,r,f,S,V,Z,gM,gI,gH,fL,gL,L,O,gJ,gB=>aJY (aDK F I G n) I G J u r f S V Z gM gI gH fL gL L O gJ gB
def aSB (F:Nat) (Q:List Seg->List aA->Int->Prop) (G:Int) (u:List Opn) (r f:Int) (L O:ByteArray) (S V gI gH:Int) (fL Z:List aA) (I J:Int) (gJ:List aA) (gB:List Seg):Prop:=aDK F (fun G u r f L O S V gI gH fL Z I J gJ gB=>bPo Q G u r f L O S V gI gH fL Z I J gJ gB) (fun G u r f L O S V gI gH fL Z I J gJ gB=>bPn Q G u r f L O S V gI gH fL Z I J gJ gB) F G u r f L O S V gI gH fL Z I J gJ gB
def aLq (F:Nat) (O L:ByteArray) (J I r f:Int) (G u:List aA) (S:List Opn) (Q:List Seg->List aA->Int->Prop):Prop:=aOv O L J I r f G u S Q (aSB F Q)
theorem pI (a b c d:Int):kL a b c d=jE a b c d:=by
 have L:aB (0-1048576)= -1048576:=by rw[dW XY XY];rfl
 rw[Bool.eq_iff_iff];unfold kL aHY aME jE pL;rw[L,Bool.cond_eq_ite];constructor
 ·intro q;simp only[QU,JN] at q;obtain⟨⟨⟨⟨⟨G,u⟩,S⟩,O⟩,f⟩,⟨⟨⟨J,I⟩,Z⟩,V⟩,r⟩:=q;rw[dW (n:=a+c) XY XY] at f ⊢;rw[dW (n:=b+d) XY XY] at r ⊢;rw[bN G,bN u,bN J,bN I,bV (show ¬c<1 by omega),bV (show ¬d<1 by omega),bV (show ¬2097152<c by omega),bV (show ¬2097152<d by omega),bN f,bN r,bN (show -1048576<=a+c by omega),bN (show -1048576<=b+d by omega)];rfl
 ·intro q;split at q
  ·cases q
  ·rename_i e;simp only[Bool.or_eq_true,JF,JN,not_or,Bool.and_eq_false_iff,QF,Int.not_lt,Int.not_le,QU] at e q;obtain⟨⟨⟨⟨⟨e1,e2⟩,e3⟩,e4⟩,e5⟩,e6⟩:=e;simp only[QU,JN];omega
theorem aJN (a b c d x y w h:Int):sK a b c d x y w h=oJ a b c d x y w h:=by
 unfold sK oJ;rw[pI,pI];rw[Bool.eq_iff_iff];simp only[QU];constructor
 ·rintro ⟨⟨⟨⟨⟨p,q⟩,r⟩,s⟩,t⟩,u⟩
  exact⟨⟨⟨⟨⟨p,q⟩,r⟩,t⟩,s⟩,u⟩
 ·rintro ⟨⟨⟨⟨⟨p,q⟩,r⟩,t⟩,s⟩,u⟩
  exact⟨⟨⟨⟨⟨p,q⟩,r⟩,s⟩,t⟩,u⟩
def onB (w h x y:Int):Bool:=((((decide (0<=x))&&(decide (0<=y)))&&(decide (x<=w)))&&(decide (y<=h)))
theorem bFr (nm mt:ByteArray) (g gr w h:Int) (cl us:List aA) (x y:Int):aBq nm mt g gr w h cl us x y=onB w h x y:=by
 unfold aBq onB;rw[Bool.eq_iff_iff];simp only[QU];constructor
 ·rintro ⟨⟨⟨p,q⟩,r⟩,s⟩
  exact⟨⟨⟨p,r⟩,q⟩,s⟩
 ·rintro ⟨⟨⟨p,r⟩,q⟩,s⟩
  exact⟨⟨⟨p,q⟩,r⟩,s⟩
theorem bT6 (l:List aA) (a b c d:Int):uB l a b c d=l.any (j7 a b c d):=aFF (j7 a b c d) l 0 XY
theorem aSN (a b:Int):mi a b<=ma a b:=by
 unfold mi ma;split<;>split<;>omega
theorem aIn (a b:Int):(mi a b==ma a b)=(a==b):=by
 rw[Bool.eq_iff_iff];simp only[KI];unfold mi ma;constructor
 ·intro h;split at h<;>split at h<;>omega
 ·intro h;split<;>split<;>omega
abbrev CSt:=Int×Int×List Seg×List aA
def tD (x y a b:Int):Bool:=!((x==a)==(y==b))
def oL (x y a b:Int):Seg:=Seg.mk (mi x a) (mi y b) (ma x a) (ma y b)
def tY (s:Seg) (r:aA):Bool:=j7 s.X1 s.Y1 s.X2 s.Y2 r
def opC (w h:Int) (cl:List aA) (o:Opn) (s:CSt):Option CSt:=
 cond (o.Kind==3) (cond (oJ o.X o.Y o.W o.H 0 0 w h) (some (s.1,s.2.1,s.2.2.1,s.2.2.2++[aA.mk o.X o.Y o.W o.H])) none)
  (cond ((((o.Kind==1)||(o.Kind==2))||(o.Kind==4))&&onB w h o.X o.Y)
   (cond (o.Kind==1) (some (o.X,o.Y,s.2.2.1,s.2.2.2))
    (cond (tD s.1 s.2.1 o.X o.Y&&!(cl.any (tY (oL s.1 s.2.1 o.X o.Y)))) (some (o.X,o.Y,s.2.2.1++[oL s.1 s.2.1 o.X o.Y],s.2.2.2)) none))
   none)
def aAA (w h:Int) (cl:List aA):List Opn->CSt->Option CSt
 |[],s=>some s
 |o::r,s=>(opC w h cl o s).bind (aAA w h cl r)
def aRP (w h:Int) (cl:List aA) (ops:List Opn):List Seg×List aA×Int:=
 match aAA w h cl ops (0,0,[],[]) with
 |none=>([],[],16)
 |some s=>(k6 s.2.2.1,s.2.2.2,0)
def tZ (nm mt:ByteArray) (g gr w h:Int) (cl us:List aA) (ops:List Opn):List Seg×List aA×Int:=
 cond (pK nm mt g gr w h cl us !=0) ([],[],pK nm mt g gr w h cl us) (cond (decide (4000<(ops.length:Int))) ([],[],4) (aRP w h cl ops))
def aMj (nm mt:ByteArray) (g gr w h:Int) (cl us:List aA) (ops:List Opn):Prop:=True
theorem bK4 (w h:Int) (cl:List aA) (o:Opn) (s t:CSt) (e:opC w h cl o s=some t) (r:lU s.2.2.1):lU t.2.2.1/\t.2.2.1.length<=s.2.2.1.length+1/\t.2.2.2.length<=s.2.2.2.length+1:=by
 obtain⟨x,y,u,st⟩:=s;unfold opC at e;cases L:(o.Kind==3) with
 |true=>
  rw[L,QX] at e;cases G:oJ o.X o.Y o.W o.H 0 0 w h with
  |false=>rw[G] at e;cases e
  |true=>
   rw[G] at e;cases e;exact⟨r,XU,XU⟩
 |false=>
  rw[L,QJ] at e;cases J:((((o.Kind==1)||(o.Kind==2))||(o.Kind==4))&&onB w h o.X o.Y) with
  |false=>rw[J] at e;cases e
  |true=>
   rw[J,QX] at e;cases I:(o.Kind==1) with
   |true=>
    rw[I] at e;cases e;exact⟨r,XU,XU⟩
   |false=>
    rw[I,QJ] at e;cases h6:(tD x y o.X o.Y&&!(cl.any (tY (oL x y o.X o.Y)))) with
    |false=> 
     have f:cond (tD x y o.X o.Y&&!(cl.any (tY (oL x y o.X o.Y)))) (some (o.X,o.Y,u++[oL x y o.X o.Y],st)) none=some t:=e;rw[h6] at f;cases f
    |true=>
     have f:cond (tD x y o.X o.Y&&!(cl.any (tY (oL x y o.X o.Y)))) (some (o.X,o.Y,u++[oL x y o.X o.Y],st)) none=some t:=e;rw[h6] at f;cases f;refine⟨fun z O=>?_,XU,XU⟩;rcases KK.1 O with q|q
     ·exact r z q
     ·rw[JB.1 q];rw[QU] at h6;have h7:=h6.1;unfold tD at h7;refine⟨?_,aSN _ _,aSN _ _⟩;show ((mi x o.X==ma x o.X)==(mi y o.Y==ma y o.Y))=false;rw[aIn,aIn];simpa using h7
theorem aRn (w h:Int) (cl:List aA):∀(l:List Opn) (s t:CSt),aAA w h cl l s=some t->lU s.2.2.1->lU t.2.2.1/\t.2.2.1.length<=s.2.2.1.length+l.length/\t.2.2.2.length<=s.2.2.2.length+l.length
 |[],s,t,e,f=>by
  cases e;exact⟨f,XU,XU⟩
 |o::r,s,t,e,f=>by
  unfold aAA at e;cases G:opC w h cl o s with
  |none=>rw[G] at e;cases e
  |some u=>
   rw[G] at e;have J:=bK4 w h cl o s u G f;have I:=aRn w h cl r u t e J.1;refine⟨I.1,?_,?_⟩<;>simp only[QT]<;>omega
theorem b13:((1:Int)==3)=false:=rfl
theorem b11:((1:Int)==1)=true:=rfl
theorem b33:((3:Int)==3)=true:=rfl
theorem bFJ (cl:List aA) (x y a b:Int):((((jF x y a b).1==(jF x y a b).2.2.1)==((jF x y a b).2.1==(jF x y a b).2.2.2))||uB cl (jF x y a b).1 (jF x y a b).2.1 (jF x y a b).2.2.1 (jF x y a b).2.2.2)=!(tD x y a b&&!(cl.any (tY (oL x y a b)))):=by
 rw[bT6];show (((mi x a==ma x a)==(mi y b==ma y b))||cl.any (j7 (mi x a) (mi y b) (ma x a) (ma y b)))=_;rw[aIn,aIn];unfold tD tY oL;cases ((x==a)==(y==b))<;>simp
theorem bK3 (w h:Int) (cl:List aA) (k r f I J L x y:Int) (u:List Seg) (st:List aA) (O:(k==3)=false) (G:(k==1)=false) (S:(((k==1)||(k==2))||(k==4))=true):
  opC w h cl ⟨k,r,f,I,J,L⟩ (x,y,u,st)=cond (onB w h r f) (cond (tD x y r f&&!(cl.any (tY (oL x y r f)))) (some (r,f,u++[oL x y r f],st)) none) none:=by
 unfold opC;dsimp only;rw[O,QJ,S,KA,G,QJ]
theorem bK2 (w h:Int) (cl:List aA) (r f G I J x y:Int) (u:List Seg) (st:List aA):
  opC w h cl ⟨1,r,f,G,I,J⟩ (x,y,u,st)=cond (onB w h r f) (some (r,f,u,st)) none:=by
 unfold opC;dsimp only;rw[b13,QJ,b11,Bool.true_or,Bool.true_or,KA,QX]
theorem bK0 (w h:Int) (cl:List aA) (r f u G J x y:Int) (I:List Seg) (st:List aA):
  opC w h cl ⟨3,r,f,u,G,J⟩ (x,y,I,st)=cond (oJ r f u G 0 0 w h) (some (x,y,I,st++[aA.mk r f u G])) none:=by
 unfold opC;dsimp only;rw[b33,QX]
theorem bK1 (w h:Int) (cl:List aA) (k r f u G I:Int) (s:CSt) (J:(k==3)=false) (L:(((k==1)||(k==2))||(k==4))=false):
  opC w h cl ⟨k,r,f,u,G,I⟩ s=none:=by
 unfold opC;dsimp only;rw[J,QJ,L,Bool.false_and,QJ]
theorem bNc (F:Nat) (V x1:Int->List Opn->Int->Int->ByteArray->ByteArray->Int->Int->Int->Int->List aA->List aA->Int->Int->List aA->List Seg->Prop) (nm mt:ByteArray) (g gr w h:Int) (cl us:List aA) (hcl:cl.length<=2000000) (l:List Opn) (hl:l.length<=4000) (t5:Int):
  ∀(n i:Nat) (x y:Int) (G:List Seg) (st:List aA),i<=l.length->l.length<n+i->G.length<=i->st.length<=i->
   (aAA w h cl (l.drop i) (x,y,G,st)=none->∀(j x y:Int) (G:List Seg) (st:List aA),V 16 l l.length j nm mt g gr w h cl us x y st G)->
   (∀(x' y':Int) (S:List Seg) (st':List aA),aAA w h cl (l.drop i) (x,y,G,st)=some (x',y',S,st')->x1 t5 l l.length l.length nm mt g gr w h cl us x' y' st' S)->
   aDK F V x1 n t5 l l.length i nm mt g gr w h cl us x y st G:=by
 intro n
 induction n with
 |zero=>intro i x y G st h1 h2;omega
 |succ n ih=>
  intro i x y G st h1 h2 hls hst u I;show aJY _ _ _ t5 l l.length i nm mt g gr w h cl us x y st G;unfold aJY
  by_cases hi:i<l.length
  ·rw[bN (show (i:Int)<l.length by omega),QX,QV,cO hi XY];rw[mX l i hi] at u I;unfold aAA at u I;generalize l.getD i default=o at u I ⊢;obtain⟨k,r,f,L,O,oN⟩:=o;dsimp only at u I ⊢;refine⟨⟨XY,XY⟩,?_⟩;rw[bFr,aJN,pI,bFJ];have hrec:∀(x y:Int) (S:List Seg) (st':List aA),opC w h cl ⟨k,r,f,L,O,oN⟩ (x,y,G,st)=opC w h cl ⟨k,r,f,L,O,oN⟩ (x,y,G,st):=fun _ _ _ _=>rfl
   by_cases k3:k=3
   ·subst k3;rw[b33,QX];rw[bK0] at u I;cases hv:oJ r f L O 0 0 w h with
    |false=>
     rw[hv] at u;cases jE r f L O
     ·exact u rfl _ _ _ _ _
     ·exact u rfl _ _ _ _ _
    |true=>
     have hr:jE r f L O=true:=by
      unfold oJ at hv;simp only[QU] at hv;exact hv.1.1.1.1.1
     rw[hv] at u I;rw[hr];refine⟨by simp;omega,ih (i+1) _ _ _ _ XY XY XY (by simp;omega) u I⟩
   ·have n3:(k==3)=false:=by simpa using k3
    rw[n3,QJ]
    by_cases k1:k=1
    ·subst k1;rw[b11,QX];rw[bK2] at u I;cases hv:onB w h r f with
     |false=>
      rw[hv] at u;exact u rfl _ _ _ _ _
     |true=>
      rw[hv] at u I;exact ih (i+1) _ _ _ _ XY XY XY XY u I
    ·have n1:(k==1)=false:=by simpa using k1
     have n1':(k !=1)=true:=by simpa using k1
     rw[n1,QJ,n1']
     by_cases Z:k=2\/k=4
     ·have fC:(((k==1)||(k==2))||(k==4))=true:=by
       rcases Z with rfl|rfl<;>rfl
      rw[bK3 w h cl k r f L O oN x y G st n3 n1 fC] at u I;have J:cond (!(onB w h r f)) (V 16 l l.length i nm mt g gr w h cl us x y st G)
         (((((jF x y r f).1==(jF x y r f).2.2.1)==((jF x y r f).2.1==(jF x y r f).2.2.2))=false->x9 cl (jF x y r f).1 (jF x y r f).2.1 (jF x y r f).2.2.1 (jF x y r f).2.2.2)/\
        cond (!(tD x y r f&&!(cl.any (tY (oL x y r f))))) (V 16 l l.length i nm mt g gr w h cl us x y st G) (((G.length+([Seg.mk (jF x y r f).1 (jF x y r f).2.1 (jF x y r f).2.2.1 (jF x y r f).2.2.2]).length)*32<=140737488355328)/\aDK F V x1 n t5 l l.length ((i+1:Nat):Int) nm mt g gr w h cl us r f st (G++[oL x y r f]))):=by
       cases hv:onB w h r f with
       |false=>
        rw[hv] at u;exact u rfl _ _ _ _ _
       |true=>
        rw[hv,QX] at u I;refine⟨fun _=>hcl,?_⟩;cases hu:(tD x y r f&&!(cl.any (tY (oL x y r f)))) with
        |false=>
         rw[hu] at u;exact u rfl _ _ _ _ _
        |true=>
         rw[hu] at u I;refine⟨by simp;omega,ih (i+1) _ _ _ _ XY XY (by simp;omega) XY u I⟩
      rcases Z with rfl|rfl
      ·exact J
      ·exact J
     ·have n2:(k==2)=false:=by simp;omega
      have n4:(k==4)=false:=by simp;omega
      rw[n2,QJ,n4,QJ];rw[bK1 w h cl k r f L O oN _ n3 (by rw[n1,n2,n4];rfl)] at u;exact u rfl _ _ _ _ _
  ·have e:i=l.length:=XY;subst e;rw[bV XY,QJ];rw[KX] at I;exact I _ _ _ _ rfl
theorem bKp (S:ByteArray) (O:ByteArray) (L:Int) (J:Int) (I:Int) (G:Int) (r:List aA) (V:List aA) (u:List Opn) (h:aMj S O L J I G r V u):∃F,∀Q:List Seg->List aA->Int->Prop,Q ((tZ S O L J I G r V u).1) ((tZ S O L J I G r V u).2.1) ((tZ S O L J I G r V u).2.2)->aLq F S O L J I G r V u Q:=by
 refine⟨4001,fun Q f=>?_⟩;unfold aLq aOv;unfold tZ at f;dsimp only;cases Z:(pK S O L J I G r V !=0) with
 |true=>
  rw[Z] at f;exact f
 |false=>
 rw[Z] at f;simp only[QJ] at f ⊢;have hcl:r.length<=4:=by
  by_cases q:r.length<=4
  ·exact q
  ·exfalso;unfold pK at Z;rw[bN (show 4<(r.length:Int) by omega),Bool.true_or,QX] at Z
   revert Z
   cases ((!(vn S))||(!(vn O)))<;>cases (((!(pM L J))||(!(pN I 1 1048576)))||(!(pN G 1 1048576)))<;>simp
 by_cases h2:4000<(u.length:Int)
 ·rw[bN h2] at f ⊢;exact f
 rw[bV h2] at f ⊢;simp only[QJ] at f ⊢;unfold aRP at f;refine bNc 4001 _ _ S O L J I G r V XY u XY 0 4001 0 0 0 [] [] XY XY XU XU (fun q j x y ls st=>?_) (fun x y ls st q=>?_)
 ·rw[List.drop_zero] at q;rw[q] at f;exact f
 ·rw[List.drop_zero] at q;rw[q] at f;have hi:=aRn I G r u _ _ q (by intro z hz;cases hz);have i2:ls.length<=0+u.length:=hi.2.1;have i3:st.length<=0+u.length:=hi.2.2;refine⟨⟨hi.1,XY⟩,XY,?_⟩;exact f
def x8 (f J L G I O r u:Int):Prop:=(cond (f==3) (((([aB (J-r),aB (L-u)]).length+([G,I]).length)*8<=140737488355328)) (True))
def l9 (f G I J L O r u:Int):(zzI):=cond (f==3) ((([aB (G-r),aB (I-u)])++([J,L]))) ([aB (G-r),aB (I-u)])
def vH:Nat->Nat->Nat->Canon UU:=fun o b r=>cond (Nat.beq b 0) ⟨[4,5,6,8,9,28,29,30],[6,8,9],[],[],[]⟩ (cond (Nat.beq b 2) ⟨[4,5,6,8,9,11,28,29,30,60,61,62],[6,8,9,11],[],[],[]⟩ (⟨[],[],[],[],[]⟩))
def aPN (ops:List Opn) (Q:ByteArray->Int->Prop) (f:ByteArray->Int->List Opn->Int->Int->ByteArray->Int->Int->Prop):Prop:=cond (decide (4000<(ops.length:Int))) (Q (ByteArray.mk #[]) 4) (f (ByteArray.mk #[]) 0 ops (ops.length:Int) 0 ByteArray.empty 0 0)
def bAx (rec:ByteArray->Int->List Opn->Int->Int->ByteArray->Int->Int->Prop) (Z:ByteArray->Int->List Opn->Int->Int->ByteArray->Int->Int->Prop) (V:ByteArray->Int->List Opn->Int->Int->ByteArray->Int->Int->Prop) (O:ByteArray) (L:Int) (r:List Opn) (u f:Int) (J:ByteArray) (I G:Int) (i1:ByteArray->Int->List Opn->Int->Int->zzI->Int->Int->ByteArray->Int->Int->Int->Int->Int->Int->Int->Int->Prop):Prop:=cond (decide (f<u)) ((let e0:=(r.getD f.toNat default);((0<=f/\f<r.length)/\(let r1:=(aDa e0.Kind e0.X e0.Y e0.W e0.H e0.N);(let r2:=(aBm e0.Kind e0.X e0.Y e0.W e0.H e0.N);cond (((!(lN [1,2,4,3] e0.Kind))||(!r1))||(!r2)) (Z (ByteArray.mk #[]) 16 r u f J I G) (((1<=(kM pH e0.Kind).size/\J.size+(kM pH e0.Kind).size<=140737488355328)/\(let S:=(l9 e0.Kind e0.X e0.Y e0.W e0.H e0.N I G);((x8 e0.Kind e0.X e0.Y e0.W e0.H e0.N I G)/\i1 O L r u f S (S.length:Int) 0 (J++(kM pH e0.Kind)) I G e0.Kind e0.X e0.Y e0.W e0.H e0.N))))))))) (V O L r u f J I G)
def bQa (Q:ByteArray->Int->Prop) (r:ByteArray) (f:Int) (I:List Opn) (G u:Int) (J:ByteArray) (O L:Int):Prop:=Q r f
def bQ9 (Q:ByteArray->Int->Prop) (J:ByteArray) (I:Int) (G:List Opn) (u r:Int) (f:ByteArray) (O L:Int):Prop:=Q f 0
def bAw (O:ByteArray->Int->List Opn->Int->Int->zzI->Int->Int->ByteArray->Int->Int->Int->Int->Int->Int->Int->Int->Prop) (x0:ByteArray->Int->List Opn->Int->Int->zzI->Int->Int->ByteArray->Int->Int->Int->Int->Int->Int->Int->Int->Prop) (V:ByteArray) (S:Int) (J:List Opn) (I G:Int) (r:zzI) (u f:Int) (L:ByteArray) (aP aT gU gT gS gR gQ Z:Int):Prop:=cond (decide (f<u)) ((let e0:=(r.getD f.toNat default);((0<=f/\f<r.length)/\(((-9223372036854775808<=e0/\e0<=9223372036854775807)/\((((ByteArray.mk #[32]).size:Int)+(nV e0).size<=9223372036854775807)/\(1<=((ByteArray.mk #[32])++(nV e0)).size/\L.size+((ByteArray.mk #[32])++(nV e0)).size<=140737488355328)))/\O V S J I G r u (aB (f+1)) (L++((ByteArray.mk #[32])++(nV e0))) aP aT gU gT gS gR gQ Z)))) (x0 V S J I G r u f L aP aT gU gT gS gR gQ Z)
def bQ8 (G:ByteArray->Int->List Opn->Int->Int->ByteArray->Int->Int->Prop) (x0:ByteArray->Int->List Opn->Int->Int->ByteArray->Int->Int->Prop) (x1:ByteArray->Int->List Opn->Int->Int->ByteArray->Int->Int->Prop) (O:ByteArray) (L:Int) (u:List Opn) (r f:Int) (t60:zzI) (t61 t62:Int) (J:ByteArray) (aP aT V Z gS gR gQ S:Int):Prop:=((1<=(ByteArray.mk #[10]).size/\J.size+(ByteArray.mk #[10]).size<=140737488355328)/\(let I:=(n9 V Z gS gR gQ S aP aT);G O L u r (aB (f+1)) (J++(ByteArray.mk #[10])) I.1 I.2))
def aHC (F:Nat) (L:ByteArray->Int->List Opn->Int->Int->zzI->Int->Int->ByteArray->Int->Int->Int->Int->Int->Int->Int->Int->Prop):Nat->ByteArray->Int->List Opn->Int->Int->zzI->Int->Int->ByteArray->Int->Int->Int->Int->Int->Int->Int->Int->Prop
 |0,_,_,_,_,_,_,_,_,_,_,_,_,_,_,_,_,_=>False
 |n+1,S,O,J,I,G,u,r,f,Z,aP,aT,gU,gT,gS,gR,gQ,V=>bAw (aHC F L n) L S O J I G u r f Z aP aT gU gT gS gR gQ V
def aNc (F:Nat) (rec:ByteArray->Int->List Opn->Int->Int->ByteArray->Int->Int->Prop) (x0:ByteArray->Int->List Opn->Int->Int->ByteArray->Int->Int->Prop) (x1:ByteArray->Int->List Opn->Int->Int->ByteArray->Int->Int->Prop) (O:ByteArray) (L:Int) (J:List Opn) (I G:Int) (u:zzI) (r f:Int) (V:ByteArray) (aP aT Z gT gS gR gQ S:Int):Prop:=aHC F (fun O L J I G u r f V aP aT Z gT gS gR gQ S=>bQ8 rec x0 x1 O L J I G u r f V aP aT Z gT gS gR gQ S) F O L J I G u r f V aP aT Z gT gS gR gQ S
def xH (F:Nat) (r:ByteArray->Int->List Opn->Int->Int->ByteArray->Int->Int->Prop) (f:ByteArray->Int->List Opn->Int->Int->ByteArray->Int->Int->Prop):Nat->ByteArray->Int->List Opn->Int->Int->ByteArray->Int->Int->Prop
 |0,_,_,_,_,_,_,_,_=>False
 |n+1,L,J,I,G,u,O,V,S=>bAx (xH F r f n) r f L J I G u O V S (aNc F (xH F r f n) r f)
def aSI (F:Nat) (Q:ByteArray->Int->Prop) (I:ByteArray) (G:Int) (u:List Opn) (r f:Int) (J:ByteArray) (O L:Int):Prop:=xH F (fun I G u r f J O L=>bQa Q I G u r f J O L) (fun I G u r f J O L=>bQ9 Q I G u r f J O L) F I G u r f J O L
def aLx (F:Nat) (ops:List Opn) (Q:ByteArray->Int->Prop):Prop:=aPN ops Q (aSI F Q)
def zS (b:ByteArray) (n:Int):ByteArray:=b++(ByteArray.mk #[32]++nV n)
def bTf (o:Opn):Bool:=aDa o.Kind o.X o.Y o.W o.H o.N
def aDj (o:Opn):Bool:=aBm o.Kind o.X o.Y o.W o.H o.N
def aCu (o:Opn) (x y:Int):Int×Int:=n9 o.Kind o.X o.Y o.W o.H o.N x y
def aKM (f:zzI) (o:Opn):Bool:=((!(lN f o.Kind))||(!(bTf o)))||(!(aDj o))
def aFO (u:zzI) (r:List (Int×ByteArray)) (f:Opn->Int->Int->zzI):List Opn->ByteArray->Int->Int->ByteArray×Int
 |[],b,_,_=>(b,0)
 |o::l,b,x,y=>bif aKM u o then (ByteArray.mk #[],16) else aFO u r f l ((f o x y).foldl zS (b++kM r o.Kind)++ByteArray.mk #[10]) (aCu o x y).1 (aCu o x y).2
def nC (n:Int):Prop:= -9223372036854775808<=n/\n<=9223372036854775807
theorem aXv {n:Int} (h:nC n):(nV n).size<=21:=by
 have:=Lib.itoa_length_le n h.1 h.2;unfold nV;show (Lib.itoa n).toArray.size<=21;simpa using this
theorem aRB (n:Int):((ByteArray.mk #[32])++nV n).size=1+(nV n).size:=by
 rw[ByteArray.size_append];rfl
theorem bQn (l:zzI) (S:l.length<=1000) (G:∀n∈l,nC n) (V:Nat->Int->ByteArray->Prop) (X:Int->ByteArray->Prop)
  (u:∀n i b,V (n+1) i b=cond (decide (i<(l.length:Int))) ((0<=i/\i<l.length)/\(((-9223372036854775808<=l.getD i.toNat default/\l.getD i.toNat default<=9223372036854775807)/\((((ByteArray.mk #[32]).size:Int)+(nV (l.getD i.toNat default)).size<=9223372036854775807)/\(1<=((ByteArray.mk #[32])++(nV (l.getD i.toNat default))).size/\b.size+((ByteArray.mk #[32])++(nV (l.getD i.toNat default))).size<=140737488355328)))/\V n (aB (i+1)) (b++((ByteArray.mk #[32])++(nV (l.getD i.toNat default)))))) (X i b)):
  ∀(n i:Nat) (b:ByteArray),i<=l.length->l.length<n+i->b.size<=2000000+100*i->X l.length ((l.drop i).foldl zS b)->V n i b:=by
 intro n
 induction n with
 |zero=>intro i b J I;omega
 |succ n r=>
  intro i b J I hb f;rw[u]
  by_cases h:i<l.length
  ·rw[bN (show (i:Int)<l.length by omega),QX,QV,cO h XY];rw[mX l i h,QI] at f;have he:nC (l.getD i default):=G _ (by rw[QG,QL h];exact QN h);generalize l.getD i default=e at f he ⊢;have L:=aXv he;have O:=aRB e;have Z:(ByteArray.mk #[32]).size=1:=rfl;refine⟨⟨XY,XY⟩,⟨he,XY,XY,XY⟩,?_⟩;refine r (i+1) _ XY XY ?_ f;rw[ByteArray.size_append];omega
  ·have e:i=l.length:=XY;subst e;rw[bV XY,QJ];rw[KX] at f;exact f
theorem aLn:∀(l:zzI) (b:ByteArray),(∀n∈l,nC n)->(l.foldl zS b).size<=b.size+22*l.length
 |[],b,_=>XU
 |n::l,b,h=>by
  rw[QI];have u:=aLn l (zS b n) (fun m hm=>h m (by simp[hm]));have r:=aXv (h n XU);have f:(zS b n).size=b.size+(1+(nV n).size):=by
   unfold zS;rw[ByteArray.size_append,aRB]
  rw[QT];omega
theorem bQm (L:zzI) (u:List (Int×ByteArray)) (J:Opn->Int->Int->zzI) (hw:∀k,lN L k=true->1<=(kM u k).size/\(kM u k).size<=10) (hn:∀o x y,aDj o=true->(J o x y).length<=4/\∀n∈J o x y,nC n)
  (l:List Opn) (hl:l.length<=4000) (Q:ByteArray->Int->Prop) (X0 X1:Int->ByteArray->Int->Int->Prop) (W:Nat->Int->ByteArray->Int->Int->Prop) (I:Nat->Int->Opn->zzI->ByteArray->Int->Int->Prop)
  (hs:∀n i b x y,W (n+1) i b x y=cond (decide (i<(l.length:Int))) ((0<=i/\i<l.length)/\cond (aKM L (l.getD i.toNat default)) (X0 i b x y) ((1<=(kM u (l.getD i.toNat default).Kind).size/\b.size+(kM u (l.getD i.toNat default).Kind).size<=140737488355328)/\I n i (l.getD i.toNat default) (J (l.getD i.toNat default) x y) (b++kM u (l.getD i.toNat default).Kind) x y)) (X1 i b x y))
  (hI:∀n i o r b x y,r.length<=4->(∀n∈r,nC n)->b.size<=2000000->W n (aB (i+1)) (r.foldl zS b++ByteArray.mk #[10]) (aCu o x y).1 (aCu o x y).2->I n i o r b x y)
  (S:∀i b x y,Q (ByteArray.mk #[]) 16->X0 i b x y) (O:∀i b x y,Q b 0->X1 i b x y):
  ∀(n i:Nat) (b:ByteArray) (x y:Int),i<=l.length->l.length<n+i->b.size<=200*i->Q (aFO L u J (l.drop i) b x y).1 (aFO L u J (l.drop i) b x y).2->W n i b x y:=by
 intro n
 induction n with
 |zero=>intro i b x y h1 h2;omega
 |succ n ih=>
  intro i b x y h1 h2 hb G;rw[hs]
  by_cases h:i<l.length
  ·rw[bN (show (i:Int)<l.length by omega),QX,QV];rw[mX l i h] at G;generalize l.getD i default=o at G ⊢;refine⟨⟨XY,XY⟩,?_⟩;unfold aFO at G;cases f:aKM L o with
   |true=>
    rw[f] at G;exact S _ _ _ _ G
   |false=>
    rw[f,QJ] at G;rw[QJ];unfold aKM at f;simp only[QC,Bool.not_eq_false'] at f;obtain⟨⟨k1,k2⟩,k3⟩:=f;obtain⟨q1,q2⟩:=hw _ k1;obtain⟨Z,V⟩:=hn o x y k3;have hbs:(b++kM u o.Kind).size=b.size+(kM u o.Kind).size:=ByteArray.size_append ..;refine⟨⟨q1,XY⟩,hI _ _ _ _ _ _ _ Z V XY ?_⟩;rw[cO h XY];refine ih (i+1) _ _ _ XY XY ?_ G;have h10:(ByteArray.mk #[10]).size=1:=rfl;have:=aLn (J o x y) (b++kM u o.Kind) V;rw[ByteArray.size_append];omega
  ·have e:i=l.length:=XY;subst e;rw[bV XY,QJ];rw[KX] at G;exact O _ _ _ _ G
theorem aFE {n:Int} (h:inR n=true):nC n:=by
 unfold inR at h;simp only[JF,QC,QF] at h;unfold nC;omega
theorem bI8 {o:Opn} (h:aDj o=true):nC o.X/\nC o.Y/\nC o.W/\nC o.H/\nC o.N:=by
 unfold aDj aBm at h;simp only[List.all_cons,List.all_nil,Bool.and_true,QU] at h;exact⟨aFE h.1,aFE h.2.1,aFE h.2.2.1,aFE h.2.2.2.1,aFE h.2.2.2.2⟩
theorem aLy (n:Int):nC (aB n):=by
 have e:aB n=(n+9223372036854775808) % 18446744073709551616-9223372036854775808:=by
  simp only[aB,IntKind.wrap,IntKind.bits,IntKind.signed];simp;split<;>omega
 rw[e];unfold nC;omega
def wr2 (o:Opn) (x y:Int):zzI:=l9 o.Kind o.X o.Y o.W o.H o.N x y
theorem bEl (o:Opn) (x y:Int) (h:aDj o=true):(wr2 o x y).length<=4/\∀n∈wr2 o x y,nC n:=by
 obtain⟨J,I,u,r,G⟩:=bI8 h;unfold wr2 l9;cases o.Kind==3
 ·refine⟨XU,fun n f=>?_⟩;simp only[QJ,List.mem_cons,List.not_mem_nil,or_false] at f;rcases f with rfl|rfl<;>exact aLy _
 ·refine⟨XU,fun n f=>?_⟩;simp only[QX,List.cons_append,List.nil_append,List.mem_cons,List.not_mem_nil,or_false] at f;rcases f with rfl|rfl|rfl|rfl
  ·exact aLy _
  ·exact aLy _
  ·exact u
  ·exact r
theorem bJo (k x y w h n a b:Int):x8 k x y w h n a b:=by
 unfold x8;cases k==3
 ·trivial
 ·show (2+2)*8<=140737488355328;decide
theorem bPL {f:zzI} {k:Int} (h:lN f k=true):k∈f:=by
 induction f with
 |nil=>cases h
 |cons a l r=>
  unfold lN at h;cases hb:k==a with
  |true=>exact List.mem_cons.2 (.inl (by simpa using hb))
  |false=>
   rw[hb] at h;exact List.mem_cons.2 (.inr (r h))
theorem bEn (k:Int) (h:lN [1,2,4,3] k=true):1<=(kM pH k).size/\(kM pH k).size<=10:=by
 have:=bPL h;simp only[List.mem_cons,List.not_mem_nil,or_false] at this;rcases this with rfl|rfl|rfl|rfl<;>decide
def aMt (ops:List Opn):Prop:=True
def o4 (ops:List Opn):ByteArray×Int:=cond (decide (4000<(ops.length:Int))) (ByteArray.mk #[],4) (aFO [1,2,4,3] pH wr2 ops ByteArray.empty 0 0)
theorem bL6 (ops:List Opn) (h:aMt ops):∃F,∀Q:ByteArray->Int->Prop,Q ((o4 ops).1) ((o4 ops).2)->aLx F ops Q:=by
 refine⟨4001,fun Q V=>?_⟩;unfold o4 at V;unfold aLx aPN
 by_cases hl:4000<(ops.length:Int)
 ·rw[bN hl] at V ⊢;exact V
 ·rw[bV hl] at V ⊢;simp only[QJ] at V ⊢;show xH 4001 (fun J I G u r L S O=>Q J I) (fun J I G u r L S O=>Q L 0) 4001 (ByteArray.mk #[]) 0 ops (ops.length:Int) ((0:Nat):Int) ByteArray.empty 0 0;refine bQm [1,2,4,3] pH wr2 bEn bEl ops XY Q (fun i b x y=>Q (ByteArray.mk #[]) 16) (fun i b x y=>Q b 0) (fun n i b x y=>xH 4001 (fun J I G u r L S O=>Q J I) (fun J I G u r L S O=>Q L 0) n (ByteArray.mk #[]) 0 ops (ops.length:Int) i b x y)
   (fun n i o f b x y=>x8 o.Kind o.X o.Y o.W o.H o.N x y/\aNc 4001 (xH 4001 (fun J I G u r L S O=>Q J I) (fun J I G u r L S O=>Q L 0) n) (fun J I G u r L S O=>Q J I) (fun J I G u r L S O=>Q L 0) (ByteArray.mk #[]) 0 ops (ops.length:Int) i f (f.length:Int) 0 b x y o.Kind o.X o.Y o.W o.H o.N)
   (fun n i b x y=>rfl) (fun n i o f b x y h4 hr hb hW=>?_) (fun i b x y q=>q) (fun i b x y q=>q) 4001 0 ByteArray.empty 0 0 XY XY (by decide) ?_
  ·refine⟨bJo _ _ _ _ _ _ _ _,?_⟩;refine bQn f XY hr (fun n' j Z=>aHC 4001 _ n' (ByteArray.mk #[]) 0 ops (ops.length:Int) i f (f.length:Int) j Z x y o.Kind o.X o.Y o.W o.H o.N) (fun j Z=>(1<=(ByteArray.mk #[10]).size/\Z.size+(ByteArray.mk #[10]).size<=140737488355328)/\xH 4001 (fun J I G u r L S O=>Q J I) (fun J I G u r L S O=>Q L 0) n (ByteArray.mk #[]) 0 ops (ops.length:Int) (aB (i+1)) (Z++ByteArray.mk #[10]) (aCu o x y).1 (aCu o x y).2) (fun n' j Z=>rfl) 4001 0 b XY XY XY ?_;have h10:(ByteArray.mk #[10]).size=1:=rfl;have:=aLn f b hr;exact⟨⟨XY,by rw[List.drop_zero];omega⟩,hW⟩
  ·rw[List.drop_zero];exact V
def bDd:Nat->Nat->Nat->Canon UU:=fun o b r=>⟨[],[],[],[],[]⟩
def bAO  (Q:Bool->Prop):Prop:=(let r:=(o4 ([(Opn.mk 1 105 105 0 0 0),(Opn.mk 1 100 100 0 0 0),(Opn.mk 2 110 100 0 0 0)]));((aMt ([(Opn.mk 1 105 105 0 0 0),(Opn.mk 1 100 100 0 0 0),(Opn.mk 2 110 100 0 0 0)]))/\(let f:=(tZ (ByteArray.mk #[115]) (ByteArray.mk #[115,116,101,101,108]) 1 0 9 9 ([]) ([]) ([(Opn.mk 2 4 0 0 0 0)]));((aMj (ByteArray.mk #[115]) (ByteArray.mk #[115,116,101,101,108]) 1 0 9 9 ([]) ([]) ([(Opn.mk 2 4 0 0 0 0)]))/\((((((r.2==0)&&(r.1==(ByteArray.mk #[109,32,49,48,53,32,49,48,53,10,109,32,45,53,32,45,53,10,108,32,49,48,32,48,10])))&&(f.2.2==0))&&((f.1.length:Int)==1))=true->0<=(0:Int)/\(0:Int)<f.1.length)/\Q (((((r.2==0)&&(r.1==(ByteArray.mk #[109,32,49,48,53,32,49,48,53,10,109,32,45,53,32,45,53,10,108,32,49,48,32,48,10])))&&(f.2.2==0))&&((f.1.length:Int)==1))&&((((f.1.getD 0 default).X1)==0)&&((((f.1.getD 0 default).Y1)==0)&&((((f.1.getD 0 default).X2)==4)&&((((f.1.getD 0 default).Y2)==0)&&true))))))))))
def aLu (F:Nat)  (Q:Bool->Prop):Prop:=bAO  Q
def aD8:Bool:=true
theorem bOS:tZ (ByteArray.mk #[115]) (ByteArray.mk #[115,116,101,101,108]) 1 0 9 9 ([]) ([]) ([(Opn.mk 2 4 0 0 0 0)])=([Seg.mk 0 0 4 0],[],0):=by
 have h:k6 [Seg.mk 0 0 4 0]=[Seg.mk 0 0 4 0]:=by
  unfold k6 jS;rw[List.mergeSort_singleton];rfl
 refine QY (b:=(k6 [Seg.mk 0 0 4 0],[],0)) XW ?_;rw[h]
theorem bOT:o4 ([(Opn.mk 1 105 105 0 0 0),(Opn.mk 1 100 100 0 0 0),(Opn.mk 2 110 100 0 0 0)])=(ByteArray.mk #[109,32,49,48,53,32,49,48,53,10,109,32,45,53,32,45,53,10,108,32,49,48,32,48,10],0):=by
 kernel_rfl
theorem bLQ:∃F,∀Q:Bool->Prop,Q aD8->aLu F  Q:=by
 refine⟨0,fun Q f=>?_⟩;unfold aLu bAO;dsimp only;rw[bOS,bOT];exact⟨trivial,trivial,fun _=>by decide,f⟩
def oI (G u:ByteArray) (r f:Int):Int:=cond ((!(vn G))||(!(vn u))) (2) (cond ((((decide (r<1))||(decide (60<r)))||(decide (f<0)))||(decide (2<f))) (1) (0))
def aAu:Nat->Nat->Nat->Canon UU:=fun o b r=>cond (Nat.beq b 0) ⟨[0,2,3],[],[],[],[]⟩ (⟨[],[],[],[],[]⟩)
def aYQ (r:List aA) (Q:Bool->Prop) (f:List aA->Bool->Int->Prop):Prop:=f r false 0
def aYP (u:List aA->Bool->Int->Prop) (J:List aA->Bool->Int->Prop) (I:List aA->Bool->Int->Prop) (r:List aA) (G:Bool) (f:Int):Prop:=cond (decide (f<(r.length:Int))) ((let e0:=(r.getD f.toNat default);((0<=f/\f<r.length)/\cond (!(jE e0.X e0.Y e0.W e0.H)) (J r false f) (u r G (aB (f+1)))))) (I r G f)
def bP1 (Q:Bool->Prop) (u:List aA) (f:Bool) (r:Int):Prop:=Q f
def bP0 (Q:Bool->Prop) (u:List aA) (r:Bool) (f:Int):Prop:=Q true
def aDE (F:Nat) (r:List aA->Bool->Int->Prop) (f:List aA->Bool->Int->Prop):Nat->List aA->Bool->Int->Prop
 |0,_,_,_=>False
 |n+1,I,G,u=>aYP (aDE F r f n) r f I G u
def aRy (F:Nat) (Q:Bool->Prop) (u:List aA) (r:Bool) (f:Int):Prop:=aDE F (fun u r f=>bP1 Q u r f) (fun u r f=>bP0 Q u r f) F u r f
def aQC (F:Nat) (f:List aA) (Q:Bool->Prop):Prop:=aYQ f Q (aRy F Q)
def aAw:Nat->Nat->Nat->Canon UU:=fun o b r=>cond (Nat.beq b 0) ⟨[1,2,4,5],[2],[],[],[]⟩ (⟨[],[],[],[],[]⟩)
def aY4 (O L:ByteArray) (J I r f:Int) (G u V:List aA) (Q:Bool->Prop) (S:List aA->Bool->Int->ByteArray->ByteArray->Int->Int->Int->Int->List aA->List aA->Prop):Prop:=S V false 0 O L J I r f G u
def aY3 (V:List aA->Bool->Int->ByteArray->ByteArray->Int->Int->Int->Int->List aA->List aA->Prop) (x0:List aA->Bool->Int->ByteArray->ByteArray->Int->Int->Int->Int->List aA->List aA->Prop) (x1:List aA->Bool->Int->ByteArray->ByteArray->Int->Int->Int->Int->List aA->List aA->Prop) (t1:List aA) (Z:Bool) (f:Int) (O S:ByteArray) (J L r u:Int) (G I:List aA):Prop:=cond (decide (f<(t1.length:Int))) ((let e0:=(t1.getD f.toNat default);((0<=f/\f<t1.length)/\(let r1:=(oJ e0.X e0.Y e0.W e0.H 0 0 r u);cond (!r1) (x0 t1 false f O S J L r u G I) (V t1 Z (aB (f+1)) O S J L r u G I))))) (x1 t1 Z f O S J L r u G I)
def bP8 (Q:Bool->Prop) (t1:List aA) (f:Bool) (r:Int) (S V:ByteArray) (L O I J:Int) (u G:List aA):Prop:=Q f
def bP7 (Q:Bool->Prop) (t1:List aA) (r:Bool) (f:Int) (S V:ByteArray) (L O I J:Int) (u G:List aA):Prop:=Q true
def aDG (F:Nat) (r:List aA->Bool->Int->ByteArray->ByteArray->Int->Int->Int->Int->List aA->List aA->Prop) (f:List aA->Bool->Int->ByteArray->ByteArray->Int->Int->Int->Int->List aA->List aA->Prop):Nat->List aA->Bool->Int->ByteArray->ByteArray->Int->Int->Int->Int->List aA->List aA->Prop
 |0,_,_,_,_,_,_,_,_,_,_,_=>False
 |n+1,I,G,u,aR,aQ,V,Z,O,S,J,L=>aY3 (aDG F r f n) r f I G u aR aQ V Z O S J L
def aRz (F:Nat) (Q:Bool->Prop) (t1:List aA) (r:Bool) (f:Int) (S V:ByteArray) (L O I J:Int) (u G:List aA):Prop:=aDG F (fun t1 r f S V L O I J u G=>bP8 Q t1 r f S V L O I J u G) (fun t1 r f S V L O I J u G=>bP7 Q t1 r f S V L O I J u G) F t1 r f S V L O I J u G
def aQG (F:Nat) (O L:ByteArray) (J I r f:Int) (G u S:List aA) (Q:Bool->Prop):Prop:=aY4 O L J I r f G u S Q (aRz F Q)
def aB6 (w h:Int) (r:aA):Bool:=oJ r.X r.Y r.W r.H 0 0 w h
def sP (l:List aA):Prop:=l.length<=2000000
def jI (l:List aA):Bool:=l.all aMW
def aCJ (nm mt:ByteArray) (g gr w h:Int) (cl us:List aA) (l:List aA):Prop:=l.length<=2000000
def pJ (nm mt:ByteArray) (g gr w h:Int) (cl us:List aA) (l:List aA):Bool:=l.all (aB6 w h)
theorem bKc (f:List aA) (h:sP f):∃F,∀Q:Bool->Prop,Q (jI f)->aQC F f Q:=by
 refine⟨f.length+1,fun Q r=>?_⟩;show aDE _ _ _ (f.length+1) f false 0;refine aA4 f aMW h (fun n i=>aDE (f.length+1) _ _ n f false i) _ _ (fun n i=>rfl) (f.length+1) XY (fun q j=>?_) (fun q=>?_)
 ·unfold jI at r;rw[q] at r;exact r
 ·unfold jI at r;rw[q] at r;exact r
theorem bKg (V:ByteArray) (S:ByteArray) (O:Int) (L:Int) (G:Int) (u:Int) (J:List aA) (I:List aA) (f:List aA) (h:aCJ V S O L G u J I f):
  ∃F,∀Q:Bool->Prop,Q (pJ V S O L G u J I f)->aQG F V S O L G u J I f Q:=by
 refine⟨f.length+1,fun Q r=>?_⟩;show aDG _ _ _ (f.length+1) f false 0 _ _ _ _ _ _ _ _;refine aA4 f (aB6 G u) h (fun n i=>aDG (f.length+1) _ _ n f false i _ _ _ _ _ _ _ _) _ _ (fun n i=>rfl) (f.length+1) XY (fun q j=>?_) (fun q=>?_)
 ·unfold pJ at r;rw[q] at r;exact r
 ·unfold pJ at r;rw[q] at r;exact r
def aCR (O L:ByteArray) (J I G u:Int) (f r:List aA):Prop:=(cond ((oI O L J I) !=0) (True) ((cond ((((decide (G<1))||(decide (1048576<G)))||(decide (u<1)))||(decide (1048576<u))) (True) ((cond ((decide (4<(f.length:Int)))||(decide (48<(r.length:Int)))) (True) ((sP f)/\((!(jI f))=false->sP r)/\(cond ((!(jI f))||(!(jI r))) (True) ((aCJ O L J I G u f r f)/\((!(pJ O L J I G u f r f))=false->aCJ O L J I G u f r r)))))))))
def uA (O L:ByteArray) (J I G u:Int) (r f:List aA):Int:=cond ((oI O L J I) !=0) ((oI O L J I)) (cond ((((decide (G<1))||(decide (1048576<G)))||(decide (u<1)))||(decide (1048576<u))) (1) (cond ((decide (4<(r.length:Int)))||(decide (48<(f.length:Int)))) (4) (cond ((!(jI r))||(!(jI f))) (1) (cond ((!(pJ O L J I G u r f r))||(!(pJ O L J I G u r f f))) (13) (0)))))
def aBs (u G L O f r J I:Int):Bool:=((((((kL u G L O)&&(kL f r J I))&&(decide (u<(aB (f+J)))))&&(decide (f<(aB (u+L)))))&&(decide (G<(aB (r+I)))))&&(decide (r<(aB (G+O)))))
def o0 (u G L O f r J I:Int):Int:=cond ((!(kL u G L O))||(!(kL f r J I))) (0) (ma (ma (ma (ma 0 (aB ((aB (f-u))-L))) (aB ((aB (u-f))-J))) (aB ((aB (r-G))-O))) (aB ((aB (G-r))-I)))
def aRD (u G L O f r J I:Int):Bool:=((((aB ((mi (aB (u+L)) (aB (f+J)))-(ma u f)))==0)&&(decide (0<(aB ((mi (aB (G+O)) (aB (r+I)))-(ma G r))))))||(((aB ((mi (aB (G+O)) (aB (r+I)))-(ma G r)))==0)&&(decide (0<(aB ((mi (aB (u+L)) (aB (f+J)))-(ma u f)))))))
def aD9 (u G L O f r J I:Int):Bool:=((((((jE u G L O)&&(jE f r J I))&&(decide (u<(aB (f+J)))))&&(decide (f<(aB (u+L)))))&&(decide (G<(aB (r+I)))))&&(decide (r<(aB (G+O)))))
def aBp (u G L O f r J I:Int):Int:=cond ((!(jE u G L O))||(!(jE f r J I))) (0) (ma (ma (ma 0 (aB ((aB (u-f))-J))) (aB ((aB (f-u))-L))) (ma (ma 0 (aB ((aB (G-r))-I))) (aB ((aB (r-G))-O))))
def aRC (u G L O f r J I:Int):Bool:=((((aB ((mi (aB (u+L)) (aB (f+J)))-(ma u f)))==0)&&(decide (0<(aB ((mi (aB (G+O)) (aB (r+I)))-(ma G r))))))||(((aB ((mi (aB (G+O)) (aB (r+I)))-(ma G r)))==0)&&(decide (0<(aB ((mi (aB (u+L)) (aB (f+J)))-(ma u f)))))))
def aMC (O L J I G u r f:Int):Bool:=(aBs G u r f O L J I)
def aB0:Nat->Nat->Nat->Canon UU:=fun o b r=>cond (Nat.beq b 0) ⟨[0,1,4,7,8],[],[],[],[]⟩ (⟨[],[],[],[],[]⟩)
abbrev aAp:=List aA->Int->Int->Int->Int->Int->Int->Int->Prop
def bAr (l:List aA) (G u r f:Int) (Q:Int->Prop) (I:aAp):Prop:=I l G u r f 0 (l.length:Int) 0
def bAq (O Z V:aAp) (r:List aA) (G I J L S u f:Int):Prop:=cond (decide (f<u)) ((let e0:=(r.getD f.toNat default);(let r1:=(aMC e0.X e0.Y e0.W e0.H G I J L);((0<=f/\f<r.length)/\cond r1 (Z r G I J L f u f) (O r G I J L S u (aB (f+1))))))) (V r G I J L S u f)
def aHA (F:Nat) (r f:aAp):Nat->aAp
 |0=>fun _ _ _ _ _ _ _ _=>False
 |n+1=>bAq (aHA F r f n) r f
def aIh (F:Nat) (Q:Int->Prop):aAp:=aHA F (fun _ _ _ _ _ f _ _=>Q f) (fun _ _ _ _ _ _ _ _=>Q (-1)) F
def aQm (F:Nat) (l:List aA) (G u r f:Int) (Q:Int->Prop):Prop:=bAr l G u r f Q (aIh F Q)
def yF (a b c d:Int) (r:aA):Bool:=aMC r.X r.Y r.W r.H a b c d
def aHq (l:List aA) (a b c d:Int):Prop:=l.length<=2000000
def aHV (l:List aA) (a b c d:Int):Int:=qR (yF a b c d) l 0
theorem bL3 (l:List aA) (G u r f:Int) (h:aHq l G u r f):∃F,∀Q:Int->Prop,Q (aHV l G u r f)->aQm F l G u r f Q:=by
 refine⟨l.length+1,fun Q J=>?_⟩;show aIh (l.length+1) Q l G u r f 0 (l.length:Int) 0;unfold aIh;exact aJT l (yF G u r f) h Q (fun n i=>aHA (l.length+1) (fun _ _ _ _ _ I _ _=>Q I) (fun _ _ _ _ _ _ _ _=>Q (-1)) n l G u r f 0 l.length i) (fun n i=>rfl) (l.length+1) 0 XY XY J
theorem bCX {α:Type} [Inhabited α] (l:List α) (p:α->Bool) (u:l.length<=2000000) (W:Nat->Int->Prop) (X Y:Int->Prop)
  (f:∀n i,W (n+1) i=cond (decide (i<(l.length:Int))) ((0<=i/\i<(l.length:Int))/\cond (p (l.getD i.toNat default)) (X i) (W n (aB (i+1)))) (Y i)) (n:Nat) (r:l.length<n)
  (I:l.any p=true->∀j,X j) (G:l.any p=false->Y l.length):W n 0:=by
 have e:l.all (fun x=>!p x)=!l.any p:=by rw[List.not_any_eq_all_not]
 refine aA4 l (fun x=>!p x) u W X Y (fun n i=>by rw[f,Bool.not_not]) n r (fun q=>I ?_) (fun q=>G ?_)
 ·rw[e] at q;simpa using q
 ·rw[e] at q;simpa using q
theorem kP (len:Nat) (bad:Nat->Bool) (X Y:Prop) (W:Nat->Int->Prop) (J:∀n (i:Nat),i<len->(bad i=true->X)->(bad i=false->W n ((i+1:Nat):Int))->W (n+1) i)
  (hy:∀n,Y->W (n+1) len) (n:Nat) (hn:len<n) (S:(List.range len).any bad=true->X) (O:(List.range len).any bad=false->Y):W n 0:=by
 have G:∀(n i:Nat),i<=len->len<n+i->(∀j,j<i->bad j=false)->W n i:=by
  intro n
  induction n with
  |zero=>intro i Z V;omega
  |succ n I=>
   intro i Z V hb
   by_cases h:i<len
   ·refine J n i h (fun q=>S (KH.2 ⟨i,JD.2 h,q⟩)) (fun q=>I (i+1) XY XY fun j u=>?_);rcases Nat.lt_or_ge j i with f|f
    ·exact hb j f
    ·obtain rfl:j=i:=XY;exact q
   ·obtain rfl:i=len:=XY;refine hy n (O ?_);cases L:(List.range i).any bad with
    |false=>rfl
    |true=>
     obtain⟨j,u,r⟩:=KH.1 L;rw[hb j (JD.1 u)] at r;cases r
 exact G n 0 (Nat.zero_le _) XY fun j u=>absurd u (XZ _)
def aEB (l:List aA) (G u r f:Int):Prop:=(aHq l G u r f)
def aBx (l:List aA) (G u r f:Int):Bool:=decide (0<=(aHV l G u r f))
def aCS (u G f r:Int) (I:List aA):Prop:=(aEB I u G f r)
def sL (u G f r:Int) (I:List aA):Bool:=(aBx I u G f r)
def aBE:Nat->Nat->Nat->Canon UU:=fun o b r=>cond (Nat.beq b 0) ⟨[1,2,7,13,14],[],[(.tmp 7,67,.rect)],[],[]⟩ (⟨[],[],[],[],[]⟩)
abbrev aAc:=Int->Int->Int->Int->List aA->Prop
def aZ5 (f:List aA) (G u:Int) (Q:List aA->Prop) (r:aAc):Prop:=((f.length<=2000000)/\r G u (f.length:Int) 0 f)
def aZ4 (G J:aAc) (t1 I u f:Int) (r:List aA):Prop:=cond (decide (f<u)) (((0<=f/\f<r.length)/\cond ((((decide (((r.getD f.toNat default).X)<(-4194304)))||(decide (4194304<((r.getD f.toNat default).X))))||(decide (((r.getD f.toNat default).Y)<(-4194304))))||(decide (4194304<((r.getD f.toNat default).Y)))) (G t1 I u (aB (f+1)) (r.set f.toNat (aA.mk ((r.getD f.toNat default).X) ((r.getD f.toNat default).Y) 0 ((r.getD f.toNat default).H)))) ((let L:=((r.set f.toNat (aA.mk (aB (((r.getD f.toNat default).X)-t1)) ((r.getD f.toNat default).Y) ((r.getD f.toNat default).W) ((r.getD f.toNat default).H))).getD f.toNat default).Y;G t1 I u (aB (f+1)) ((r.set f.toNat (aA.mk (aB (((r.getD f.toNat default).X)-t1)) ((r.getD f.toNat default).Y) ((r.getD f.toNat default).W) ((r.getD f.toNat default).H))).set f.toNat (aA.mk (((r.set f.toNat (aA.mk (aB (((r.getD f.toNat default).X)-t1)) ((r.getD f.toNat default).Y) ((r.getD f.toNat default).W) ((r.getD f.toNat default).H))).getD f.toNat default).X) (aB (L-I)) (((r.set f.toNat (aA.mk (aB (((r.getD f.toNat default).X)-t1)) ((r.getD f.toNat default).Y) ((r.getD f.toNat default).W) ((r.getD f.toNat default).H))).getD f.toNat default).W) (((r.set f.toNat (aA.mk (aB (((r.getD f.toNat default).X)-t1)) ((r.getD f.toNat default).Y) ((r.getD f.toNat default).W) ((r.getD f.toNat default).H))).getD f.toNat default).H))))))) (J t1 I u f r)
def aG6 (F:Nat) (f:aAc):Nat->aAc
 |0=>fun _ _ _ _ _=>False
 |n+1=>aZ4 (aG6 F f n) f
def aIT (F:Nat) (Q:List aA->Prop):aAc:=aG6 F (fun _ _ _ _ f=>Q f) F
def aQV (F:Nat) (u:List aA) (r f:Int) (Q:List aA->Prop):Prop:=aZ5 u r f Q (aIT F Q)
def yT (r:aA):Bool:=(((decide (r.X<(-4194304)))||(decide (4194304<r.X)))||(decide (r.Y<(-4194304))))||(decide (4194304<r.Y))
def pE (x y:Int) (r:aA):aA:=cond (yT r) (aA.mk r.X r.Y 0 r.H) (aA.mk (aB (r.X-x)) (aB (r.Y-y)) r.W r.H)
def aDt (l:List aA) (x y:Int):Prop:=l.length<=2000000
def xP (l:List aA) (x y:Int):List aA:=l.map (pE x y)
theorem bN6 {α:Type} [Inhabited α] (l:List α) (f:α->α) (Z:l.length<=2000000) (Q:List α->Prop) (W:Nat->Int->List α->Prop)
  (J:∀n (i:Nat) (m:List α),m.length=l.length->i<l.length->W n ((i+1:Nat):Int) (m.set i (f (m.getD i default)))->W (n+1) i m) (L:∀n m,m.length=l.length->Q m->W (n+1) l.length m):
  ∀(n i:Nat),i<=l.length->l.length<n+i->Q (l.map f)->W n i ((l.take i).map f++l.drop i):=by
 intro n
 induction n with
 |zero=>intro i S O;omega
 |succ n I=>
  intro i S O u
  by_cases h:i<l.length
  ·refine J n i _ (by simp;omega) h ?_;have e:((l.take i).map f++l.drop i).set i (f (((l.take i).map f++l.drop i).getD i default))=(l.take (i+1)).map f++l.drop (i+1):=by
    have r:((l.take i).map f).length=i:=by simp;omega
    rw[mX l i h];have e1:=aJU ((l.take i).map f) (l.getD i default) (l.drop (i+1));rw[r] at e1;rw[e1];have G:=aCC ((l.take i).map f) (l.getD i default) (f (l.getD i default)) (l.drop (i+1));rw[r] at G;have V:l.take (i+1)=l.take i++[l.getD i default]:=by
     rw[List.take_add_one];simp[QG,h]
    rw[G,V,List.map_append,KP];rfl
   rw[e];exact I (i+1) XY XY u
  ·have e:i=l.length:=XY;subst e;refine L n _ XU ?_;rw[List.take_length,KX,KJ];exact u
theorem bKx (f:List aA) (u r:Int) (h:aDt f u r):∃F,∀Q:List aA->Prop,Q (xP f u r)->aQV F f u r Q:=by
 refine⟨f.length+1,fun Q O=>?_⟩;refine⟨h,?_⟩;have V:f.length<=2000000:=h;show aIT (f.length+1) Q u r (f.length:Int) 0 f;unfold aIT;refine bN6 f (pE u r) XY Q (fun n i m=>aG6 (f.length+1) (fun _ _ _ _ S=>Q S) n u r (f.length:Int) i m) (fun n i m hm hi G=>?_) (fun n m hm J=>?_) (f.length+1) 0 XY XY O
 ·show cond (decide ((i:Int)<(f.length:Int))) _ _;rw[bN XY,QX];refine⟨⟨XY,XY⟩,?_⟩;rw[QV,cO hi XY];unfold pE at G;show cond (yT (m.getD i default)) _ _;cases I:yT (m.getD i default) with
  |true=>
   rw[I] at G;exact G
  |false=>
   rw[I] at G;have L:∀A:aA,(m.set i A).getD i default=A:=fun A=>by simp[QG,show i<m.length by omega]
   simp only[QJ,L,List.set_set];exact G
 ·show cond (decide ((f.length:Int)<(f.length:Int))) _ _;rw[bV XY,QJ];exact J
def aAx:Nat->Nat->Nat->Canon UU:=fun o b r=>cond (Nat.beq b 0) ⟨[2,4,7,8,9],[2],[],[],[]⟩ (⟨[],[],[],[],[]⟩)
abbrev aA5:=Bool->List aA->Int->Int->Int->Int->Int->Int->Prop
def aY6 (I J u G:Int) (f:List aA) (Q:Bool->Prop) (r:aA5):Prop:=r false f (f.length:Int) 0 I J u G
def aY5 (O Z V:aA5) (S:Bool) (r:List aA) (I f u G J L:Int):Prop:=cond (decide (f<I)) ((let e0:=(r.getD f.toNat default);((0<=f/\f<r.length)/\cond ((((decide (e0.X<u))&&(decide (e0.Y<G)))&&(decide ((aB (u+J))<(aB (e0.X+e0.W)))))&&(decide ((aB (G+L))<(aB (e0.Y+e0.H))))) (Z true r I f u G J L) (O S r I (aB (f+1)) u G J L)))) (V S r I f u G J L)
def aGP (F:Nat) (r f:aA5):Nat->aA5
 |0=>fun _ _ _ _ _ _ _ _=>False
 |n+1=>aY5 (aGP F r f n) r f
def aIH (F:Nat) (Q:Bool->Prop):aA5:=aGP F (fun f _ _ _ _ _ _ _=>Q f) (fun _ _ _ _ _ _ _ _=>Q false) F
def aQH (F:Nat) (u G f r:Int) (I:List aA) (Q:Bool->Prop):Prop:=aY6 u G f r I Q (aIH F Q)
def aD4 (x y w h:Int) (e:aA):Bool:=(((decide (e.X<x))&&(decide (e.Y<y)))&&(decide ((aB (x+w))<(aB (e.X+e.W)))))&&(decide ((aB (y+h))<(aB (e.Y+e.H))))
def aMe (x y w h:Int) (l:List aA):Prop:=l.length<=2000000
def xO (x y w h:Int) (l:List aA):Bool:=l.any (aD4 x y w h)
theorem bKh (I J u G:Int) (f:List aA) (h:aMe I J u G f):∃F,∀Q:Bool->Prop,Q (xO I J u G f)->aQH F I J u G f Q:=by
 refine⟨f.length+1,fun Q r=>?_⟩;show aIH (f.length+1) Q false f (f.length:Int) 0 _ _ _ _;unfold aIH;refine bCX f (aD4 I J u G) h (fun n i=>aGP (f.length+1) _ _ n false f f.length i _ _ _ _) _ _ (fun n i=>rfl) (f.length+1) XY (fun q j=>?_) (fun q=>?_)
 ·unfold xO at r;rw[q] at r;exact r
 ·unfold xO at r;rw[q] at r;exact r
def tH:Nat->Nat->Nat->Canon UU:=fun o b r=>cond (Nat.beq b 0) ⟨[1,2,3,16,17,18],[1,12],[],[],[]⟩ (cond (Nat.beq b 2) ⟨[2,3,46,47,48],[12],[],[],[]⟩ (cond (Nat.beq b 4) ⟨[2,3,7,46,47,48,55,56,57],[7,12],[],[],[]⟩ (⟨[],[],[],[],[]⟩)))
abbrev aAg:=Int->Int->Int->ByteArray->ByteArray->Int->Int->List aA->List aA->List aA->List aA->Prop
def bAG (J I:ByteArray) (G u:Int) (L f r:List aA) (Q:Int->Prop) (O:aAg):Prop:=((f.length*32<=140737488355328)/\(((f.length+r.length)*32<=140737488355328)/\O 0 ((f++r).length:Int) 0 J I G u L f r (f++r)))
def bAF (Z x0 x1:aAg) (t2 u f:Int) (J L:ByteArray) (O S:Int) (I G V r:List aA):Prop:=cond (decide (f<u)) (((0<=f/\f<r.length)/\(let r0:=(xO ((r.getD f.toNat default).X) ((r.getD f.toNat default).Y) ((r.getD f.toNat default).W) ((r.getD f.toNat default).H) I);((((decide (f<(G.length:Int)))&&((((r.getD f.toNat default).W)==1)||(((r.getD f.toNat default).H)==1)))=false->aMe ((r.getD f.toNat default).X) ((r.getD f.toNat default).Y) ((r.getD f.toNat default).W) ((r.getD f.toNat default).H) I)/\cond (((decide (f<(G.length:Int)))&&((((r.getD f.toNat default).W)==1)||(((r.getD f.toNat default).H)==1)))||(!r0)) (x0 13 u f J L O S I G V r) (Z t2 u (aB (f+1)) J L O S I G V r))))) (x1 t2 u f J L O S I G V r)
def aPD (Q:Int->Prop) (f u r:Int) (I J:ByteArray) (L O:Int) (Z V S G:List aA):Prop:=Q f
abbrev zG:=Int->Int->Int->List aA->Prop
def aPC (Q:Int->Prop) (u:zG) (r I G:Int) (J L:ByteArray) (O S:Int) (aD Z V f:List aA):Prop:=u r (f.length:Int) 0 f
abbrev aAf:=Int->Int->Int->Nat->Int->Int->Int->Int->Int->Int->List aA->Prop
def bAE (L I O:zG) (J:aAf) (G u f:Int) (r:List aA):Prop:=cond (decide (f<u)) (((0<=f/\f<r.length)/\((0<=f/\f<=r.length)/\J G u f f.toNat ((f.toNat-0:Nat):Int) 0 ((r.getD f.toNat default).X) ((r.getD f.toNat default).Y) ((r.getD f.toNat default).W) ((r.getD f.toNat default).H) r))) (I G u f r)
def bAD (Z x0 x1:aAf) (t2 J I:Int) (u:Nat) (r f V S O L:Int) (G:List aA):Prop:=cond (decide (f<r)) (((0<=f/\f<((u-0:Nat):Int))/\(let r0:=(o0 V S O L ((G.getD (0+f.toNat) default).X) ((G.getD (0+f.toNat) default).Y) ((G.getD (0+f.toNat) default).W) ((G.getD (0+f.toNat) default).H));cond (r0==0) (x0 7 J I u r f V S O L G) (Z t2 J I u r (aB (f+1)) V S O L G)))) (x1 t2 J I u r f V S O L G)
def aGi (F:Nat) (r f:aAf):Nat->aAf
 |0=>fun _ _ _ _ _ _ _ _ _ _ _=>False
 |n+1=>bAD (aGi F r f n) r f
def aN1 (F:Nat) (I L J:zG):aAf:=aGi F (fun u r f _ _ _ _ _ _ _ G=>J u r f G) (fun u r f _ _ _ _ _ _ _ G=>I u r (aB (f+1)) G) F
def b7 (F:Nat) (r f:zG):Nat->zG
 |0=>fun _ _ _ _=>False
 |n+1=>bAE (b7 F r f n) r f (aN1 F (b7 F r f n) r f)
def aEN (F:Nat) (Q:Int->Prop):zG:=b7 F (fun _ _ _ _=>Q 0) (fun f _ _ _=>Q f) F
def aDV (F:Nat) (r f:aAg):Nat->aAg
 |0=>fun _ _ _ _ _ _ _ _ _ _ _=>False
 |n+1=>bAF (aDV F r f n) r f
def aI3 (F:Nat) (Q:Int->Prop):aAg:=aDV F (aPD Q) (aPC Q (aEN F Q)) F
def aQ8 (F:Nat) (J I:ByteArray) (G u:Int) (L r f:List aA) (Q:Int->Prop):Prop:=bAG J I G u L r f Q (aI3 F Q)
def aC8 (f:Int) (R:List aA) (i:Int) (h:aA):Bool:=((decide (i<f))&&((h.W==1)||(h.H==1)))||(!(xO h.X h.Y h.W h.H R))
def tX (a b:aA):Bool:=o0 a.X a.Y a.W a.H b.X b.Y b.W b.H==0
def aC5 (R C H:List aA):Int:=cond ((List.range H.length).any fun i=>aC8 C.length R i (H.getD i default)) 13 (cond ((List.range H.length).any fun i=>(List.range i).any fun j=>tX (H.getD i default) (H.getD j default)) 7 0)
def aMp (nm mt:ByteArray) (g gr:Int) (R C M:List aA):Prop:=R.length<=2000000/\C.length<=1000/\M.length<=1000
def aHP (nm mt:ByteArray) (g gr:Int) (R C M:List aA):Int:=aC5 R C (C++M)
theorem bLL (V S:ByteArray) (O L:Int) (G f u:List aA) (h:aMp V S O L G f u):
  ∃F,∀Q:Int->Prop,Q (aHP V S O L G f u)->aQ8 F V S O L G f u Q:=by
 obtain⟨h1,h2,h3⟩:=h;refine⟨(f++u).length+1,fun Q r=>?_⟩;refine⟨XY,XY,?_⟩;have J:(f++u).length<=2000:=by simp;omega
 unfold aHP aC5 at r;generalize f++u=H at r J ⊢;show aI3 (H.length+1) Q 0 (H.length:Int) 0 _ _ _ _ _ _ _ H;unfold aI3;refine kP H.length (fun i=>aC8 f.length G i (H.getD i default)) (Q 13) (aEN (H.length+1) Q 0 (H.length:Int) 0 H) (fun n i=>aDV (H.length+1) (aPD Q) (aPC Q (aEN (H.length+1) Q)) n 0 (H.length:Int) i V S O L G f u H) (fun n i hi hx I=>?_) (fun n hy=>?_) (H.length+1) XY (fun q=>?_) (fun q=>?_)
 ·show cond (decide ((i:Int)<(H.length:Int))) _ _;rw[bN XY,QX];refine⟨⟨XY,XY⟩,fun _=>h1,?_⟩;rw[QV,cO hi XY];show cond (aC8 f.length G i (H.getD i default)) _ _;cases hb:aC8 f.length G i (H.getD i default) with
  |true=>exact hx hb
  |false=>exact I hb
 ·show cond (decide ((H.length:Int)<(H.length:Int))) _ _;rw[bV XY,QJ];exact hy
 ·rw[q] at r;exact r
 ·rw[q,QJ] at r;unfold aEN;refine kP H.length (fun i=>(List.range i).any fun j=>tX (H.getD i default) (H.getD j default)) (Q 7) (Q 0) (fun n i=>b7 (H.length+1) (fun _ _ _ _=>Q 0) (fun Z _ _ _=>Q Z) n 0 (H.length:Int) i H) (fun n i hi hx I=>?_) (fun n hy=>?_) (H.length+1) XY (fun q=>?_) (fun q=>?_)
  ·show cond (decide ((i:Int)<(H.length:Int))) _ _;rw[bN XY,QX];refine⟨⟨XY,XY⟩,⟨XY,XY⟩,?_⟩;rw[QV];unfold aN1;refine kP i (fun j=>tX (H.getD i default) (H.getD j default)) (Q 7) (b7 (H.length+1) (fun _ _ _ _=>Q 0) (fun Z _ _ _=>Q Z) n 0 (H.length:Int) ((i+1:Nat):Int) H) (fun m j=>aGi (H.length+1) _ _ m 0 (H.length:Int) i i ((i-0:Nat):Int) j _ _ _ _ H) (fun m j hj hx I=>?_) (fun m hy=>?_) (H.length+1) XY hx I
   ·show cond (decide ((j:Int)<((i-0:Nat):Int))) _ _;rw[bN XY,QX];refine⟨⟨XY,XY⟩,?_⟩;rw[QV,JW,cO hj XY];show cond (tX (H.getD i default) (H.getD j default)) _ _;cases hb:tX (H.getD i default) (H.getD j default) with
    |true=>exact hx hb
    |false=>exact I hb
   ·show cond (decide ((i:Int)<((i-0:Nat):Int))) _ _;rw[bV XY,QJ];show b7 _ _ _ _ _ _ (aB ((i:Int)+1)) _;rw[cO hi XY];exact hy
  ·show cond (decide ((H.length:Int)<(H.length:Int))) _ _;rw[bV XY,QJ];exact hy
  ·rw[q] at r;exact r
  ·rw[q] at r;exact r
def xL (a b:aA):Bool:=aRD a.X a.Y a.W a.H b.X b.Y b.W b.H
def kZ (l:List aA) (a:Nat) (s:List Bool×zzI) (k:Nat):List Bool×zzI:=cond (!(s.1.getD k default)) (cond (xL (l.getD a default) (l.getD k default)) (s.1.set k true,s.2++[(k:Int)]) s) s
def aCD (l:List aA) (a:Nat) (s:List Bool×zzI):List Bool×zzI:=(List.range l.length).foldl (kZ l a) s
def aAZ (l:List aA):Nat->Nat->List Bool×zzI->List Bool×zzI
 |0,_,s=>s
 |n+1,i,s=>cond (decide (i<s.2.length)) (aAZ l n (i+1) (aCD l (s.2.getD i default).toNat s)) s
def nX (l:List aA):Bool:=((aAZ l (l.length+1) 0 ((List.replicate l.length false).set 0 true,[0])).2.length:Int)==(l.length:Int)
theorem aCa {α σ:Type} [Inhabited α] (l:List α) (f:σ->α->σ) (Q:σ->Prop) (W:Nat->Int->σ->Prop) (G:∀n (i:Nat) s,i<l.length->W n ((i+1:Nat):Int) (f s (l.getD i default))->W (n+1) i s)
  (I:∀n s,Q s->W (n+1) l.length s):∀(n i:Nat) (s:σ),i<=l.length->l.length<n+i->Q ((l.drop i).foldl f s)->W n i s:=by
 intro n
 induction n with
 |zero=>intro i s L J;omega
 |succ n u=>
  intro i s L J r
  by_cases h:i<l.length
  ·rw[mX l i h,QI] at r;exact G n i s h (u (i+1) _ XY XY r)
  ·obtain rfl:i=l.length:=XY;rw[KX] at r;exact I n s r
def tG:Nat->Nat->Nat->Canon UU:=fun o b r=>cond (Nat.beq b 1) ⟨[1,3,4,80,81,82],[1],[],[],[]⟩ (cond (Nat.beq b 3) ⟨[1,2,102,103,104],[1],[],[],[]⟩ (cond (Nat.beq b 5) ⟨[1,2,8,102,103,104,112,113,114],[1,8],[],[],[]⟩ (⟨[],[],[],[],[]⟩)))
abbrev aAb:=Int->Int->List aA->Int->Int->ByteArray->ByteArray->Int->Int->List aA->List aA->List aA->Prop
def aOw (L J:ByteArray) (I G:Int) (f r u:List aA) (Q:Int->Prop) (O:aAb):Prop:=cond ((!(vn L))||(!(vn J))) (Q 2) (cond (!(pM I G)) (Q 1) (cond (((decide (12<(f.length:Int)))||(decide (12<(r.length:Int))))||(decide (12<(u.length:Int)))) (Q 4) ((((((f.length:Int)==0)=false->w7 f)/\(((((f.length:Int)==0)||(!(fH f)))=false->w7 r)/\(((((f.length:Int)==0)||(!(fH f)))||(!(fH r)))=false->w7 u)))/\cond (((((f.length:Int)==0)||(!(fH f)))||(!(fH r)))||(!(fH u))) (Q 1) ((let e0:=(f.getD 0 default);((0<=(0:Int)/\(0:Int)<f.length)/\(let e1:=(f.getD 0 default);((0<=(0:Int)/\(0:Int)<f.length)/\O e0.X e1.Y f (f.length:Int) 0 L J I G f r u)))))))))
def aZU (G x0:aAb) (J I:Int) (r:List aA) (u f:Int) (L O:ByteArray) (S V:Int) (aD aE Z:List aA):Prop:=cond (decide (f<u)) ((let e0:=(r.getD f.toNat default);((0<=f/\f<r.length)/\G (mi J e0.X) (mi I e0.Y) r u (aB (f+1)) L O S V aD aE Z))) (x0 J I r u f L O S V aD aE Z)
abbrev zF:=List aA->Int->Int->ByteArray->ByteArray->Int->Int->List aA->List aA->List aA->Prop
def aOx (Q:Int->Prop) (G:zF) (u r:Int) (t80:List aA) (t81 Z:Int) (I J:ByteArray) (L O:Int) (f V S:List aA):Prop:=cond ((u !=0)||(r !=0)) (Q 1) (G f (f.length:Int) 0 I J L O f V S)
abbrev aLd:=Int->List aA->Int->Int->ByteArray->ByteArray->Int->Int->List aA->List aA->List aA->Prop
abbrev zE:=List aA->Int->Int->List aA->Int->Int->ByteArray->ByteArray->Int->Int->List aA->List aA->List aA->Int->Int->Int->Int->Prop
def aZT (rec Z:zF) (x1:aLd) (i2:zE) (r:List aA) (u f:Int) (I J:ByteArray) (L O:Int) (G V S:List aA):Prop:=cond (decide (f<u)) ((let e0:=(r.getD f.toNat default);((0<=f/\f<r.length)/\((0<=f/\f<=G.length)/\i2 r u f (G.take f.toNat) ((G.take f.toNat).length:Int) 0 I J L O G V S e0.X e0.Y e0.W e0.H)))) (Z r u f I J L O G V S)
abbrev aPr:=Int->List aA->Int->Int->List aA->Int->Int->ByteArray->ByteArray->Int->Int->List aA->List aA->List aA->Int->Int->Int->Int->Prop
def aZS (rec:zE) (x0:aPr) (x1:zE) (J:List aA) (I G:Int) (r:List aA) (u f:Int) (Z aI:ByteArray) (aH aG:Int) (aD aE aF:List aA) (L O S V:Int):Prop:=cond (decide (f<u)) ((let e0:=(r.getD f.toNat default);((0<=f/\f<r.length)/\(let r1:=(aBs L O S V e0.X e0.Y e0.W e0.H);cond r1 (x0 7 J I G r u f Z aI aH aG aD aE aF L O S V) (rec J I G r u (aB (f+1)) Z aI aH aG aD aE aF L O S V))))) (x1 J I G r u f Z aI aH aG aD aE aF L O S V)
def aG3 (F:Nat) (r:aPr) (f:zE):Nat->zE
 |0=>fun _ _ _ _ _ _ _ _ _ _ _ _ _ _ _ _ _=>False
 |n+1=>aZS (aG3 F r f n) r f
def aNT (F:Nat) (Z x0:zF) (x1:aLd):zE:=aG3 F (fun t2 u r f _ _ _ G I J L V S O _ _ _ _=>x1 t2 u r f G I J L V S O) (fun u r f _ _ _ G I J L V S O _ _ _ _=>Z u r (aB (f+1)) G I J L V S O) F
def aB8 (F:Nat) (r:zF) (f:aLd):Nat->zF
 |0=>fun _ _ _ _ _ _ _ _ _ _=>False
 |n+1=>aZT (aB8 F r f n) r f (aNT F (aB8 F r f n) r f)
def aIQ (F:Nat) (Q:Int->Prop):zF:=aB8 F (fun _ _ _ r u G I f L J=>((1<=f.length/\f.length<=100)/\cond (!(nX f)) (Q 6) ((let S:=(aHP r u G I f L J);((aMp r u G I f L J)/\Q S))))) (fun O _ _ _ _ _ _ _ _ _ _=>Q O) F
def aDN (F:Nat) (f:aAb):Nat->aAb
 |0=>fun _ _ _ _ _ _ _ _ _ _ _ _=>False
 |n+1=>aZU (aDN F f n) f
def aNU (F:Nat) (Q:Int->Prop):aAb:=aDN F (aOx Q (aIQ F Q)) F
def aLr (F:Nat) (J I:ByteArray) (G u:Int) (L r f:List aA) (Q:Int->Prop):Prop:=aOw J I G u L r f Q (aNU F Q)
def ovP (a b:aA):Bool:=aBs a.X a.Y a.W a.H b.X b.Y b.W b.H
def iD (R:List aA):Int×Int:=R.foldl (fun m r=>(mi m.1 r.X,mi m.2 r.Y)) ((R.getD 0 default).X,(R.getD 0 default).Y)
def lK (nm mt:ByteArray) (g gr:Int) (R C M:List aA):Int:=
 cond ((!(vn nm))||(!(vn mt))) 2 (cond (!(pM g gr)) 1 (cond (((decide (12<(R.length:Int)))||(decide (12<(C.length:Int))))||(decide (12<(M.length:Int)))) 4
  (cond (((((R.length:Int)==0)||(!(fH R)))||(!(fH C)))||(!(fH M))) 1 (cond (((iD R).1 !=0)||((iD R).2 !=0)) 1
   (cond ((List.range R.length).any fun i=>(R.take i).any (ovP (R.getD i default))) 7 (cond (!(nX R)) 6 (aC5 R C (C++M))))))))
def aHi (nm mt:ByteArray) (g gr:Int) (R C M:List aA):Prop:=True
def aD7 (nm mt:ByteArray) (g gr:Int) (R C M:List aA):Int:=lK nm mt g gr R C M
theorem bKu (S O:ByteArray) (L J:Int) (f G I:List aA) (h:aHi S O L J f G I):
  ∃F,∀Q:Int->Prop,Q (aD7 S O L J f G I)->aLr F S O L J f G I Q:=by
 refine⟨60,fun Q u=>?_⟩;unfold aD7 lK at u;unfold aLr aOw;cases h1:((!(vn S))||(!(vn O)))
 ·rw[h1] at u;simp only[QJ] at u ⊢;cases h2:!(pM L J)
  ·rw[h2] at u;simp only[QJ] at u ⊢;cases h3:(((decide (12<(f.length:Int)))||(decide (12<(G.length:Int))))||(decide (12<(I.length:Int))))
   ·rw[h3] at u;simp only[QJ] at u ⊢;simp only[QC,QF] at h3;have l1:f.length<=12:=XY;have l2:G.length<=12:=XY;have l3:I.length<=12:=XY;refine⟨⟨fun _=>show _<=2000000 by omega,fun _=>show _<=2000000 by omega,fun _=>show _<=2000000 by omega⟩,?_⟩;cases h4:(((((f.length:Int)==0)||(!(fH f)))||(!(fH G)))||(!(fH I)))
    ·rw[h4] at u;simp only[QJ] at u ⊢;have hpos:0<f.length:=by
      simp only[QC,JT] at h4;omega
     refine⟨⟨XY,XY⟩,⟨XY,XY⟩,?_⟩;unfold aNU;unfold iD at u;refine aCa f (fun (m:Int×Int) r=>(mi m.1 r.X,mi m.2 r.Y)) (fun m=>aOx Q (aIQ 60 Q) m.1 m.2 f f.length f.length S O L J f G I) (fun n i m=>aDN 60 _ n m.1 m.2 f f.length i _ _ _ _ _ _ _) (fun n i m hi Z=>?_) (fun n m hq=>?_) 60 0 ((f.getD 0 default).X,(f.getD 0 default).Y) XY XY ?_
     ·show cond (decide ((i:Int)<(f.length:Int))) _ _;rw[bN XY,QX];refine⟨⟨XY,XY⟩,?_⟩;rw[QV,cO hi XY];exact Z
     ·show cond (decide ((f.length:Int)<(f.length:Int))) _ _;rw[bV XY,QJ];exact hq
     ·rw[List.drop_zero];generalize f.foldl (fun (m:Int×Int) r=>(mi m.1 r.X,mi m.2 r.Y)) ((f.getD 0 default).X,(f.getD 0 default).Y)=m at u ⊢;show cond ((m.1 !=0)||(m.2 !=0)) _ _;cases h5:((m.1 !=0)||(m.2 !=0))
      ·rw[h5] at u;simp only[QJ] at u ⊢;unfold aIQ;refine kP f.length (fun i=>(f.take i).any (ovP (f.getD i default))) (Q 7) (cond (!(nX f)) (Q 6) (Q (aC5 f G (G++I)))) (fun n i=>aB8 60 _ _ n f f.length i S O L J f G I) (fun n i hi hx Z=>?_) (fun n hy=>?_) 60 XY (fun q=>?_) (fun q=>?_)
       ·show cond (decide ((i:Int)<(f.length:Int))) _ _;rw[bN XY,QX];refine⟨⟨XY,XY⟩,⟨XY,XY⟩,?_⟩;rw[QV];unfold aNT;refine bCX (f.take i) (ovP (f.getD i default)) (by simp;omega) (fun m j=>aG3 60 _ _ m f f.length i (f.take i) ((f.take i).length:Int) j _ _ _ _ _ _ _ _ _ _ _) (fun _=>Q 7) (fun _=>aB8 60 _ _ n f f.length (aB ((i:Int)+1)) S O L J f G I) (fun m j=>rfl) 60 (by simp;omega) (fun q j=>hx q) (fun q=>?_);rw[cO hi XY];exact Z q
       ·show cond (decide ((f.length:Int)<(f.length:Int))) _ _;rw[bV XY,QJ];refine⟨⟨XY,XY⟩,?_⟩;cases V:!(nX f)
        ·rw[V] at hy;exact⟨⟨XY,XY,XY⟩,hy⟩
        ·rw[V] at hy;exact hy
       ·rw[q] at u;exact u
       ·rw[q,QJ] at u;cases V:!(nX f)<;>rw[V] at u<;>exact u
      ·rw[h5] at u;exact u
    ·rw[h4] at u;exact u
   ·rw[h3] at u;exact u
  ·rw[h2] at u;exact u
 ·rw[h1] at u;exact u
end
end Go.Proofs.YtjjbojomlfgjlaaGreatDoor
