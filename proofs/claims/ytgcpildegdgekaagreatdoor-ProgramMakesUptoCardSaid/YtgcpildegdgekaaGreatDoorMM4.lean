/- Lemmas, walks and laws of this proof, part 4. Conditions: those that each names. -/
import Derived.Test.YtgcpildegdgekaaGreatDoorMM3
import Derived.Test.YtgcpildegdgekaaGreatDoorRows
import Derived.HandedShaped
import Derived.Handed
import Derived.LaidLaws
import Derived.LaidHandle
import Derived.LaidSub
import Derived.Stop.LaidErr
import Derived.Lib.LaidTab
import Derived.Lay
import Derived.MakeChecks
import Derived.ChangeMaps5
import Derived.Deep.DeepHandedRow
import Derived.WalkKit
import Derived.Shelf.SlSortCmp.Insertion
import Derived.Lib.ItoaLen
import Derived.Lib.ItoaNum
import Derived.Shelf.Sort.Plain
import Derived.Ground.Names2Prog
import Derived.Shelf.Slices.CompactI
import Derived.Shelf.Slices.In.SortNone
import Derived.Test.YtgcpildegdgekaaGreatDoorProg
import Derived.Lib.OwnBridge
set_option maxRecDepth 100000
set_option linter.unusedVariables false
namespace Go.Vm
open Go.RowKit Go.ChangeShapes Go.WideShapes Go.ChangeAt Go.Deep
section
variable {P:Program} {H:Type} {enc:TypeId×Value->H} {w:World} {U:eO} {C:Cfg U} {p:(τ:U.τ)->U.T τ->Prop}
abbrev bk (d:DataW H):Nat:=Go.Proofs.YtgcpildegdgekaaGreatDoor.Rows.uptoBulk d
theorem bAm (d:DataW H):1<=bk d:=by
 cases d with
 |lit l=>cases l<;>simp[bk,Go.Proofs.YtgcpildegdgekaaGreatDoor.Rows.uptoBulk]
 |nil=>simp[bk,Go.Proofs.YtgcpildegdgekaaGreatDoor.Rows.uptoBulk]
 |ptr d=>simp[bk,Go.Proofs.YtgcpildegdgekaaGreatDoor.Rows.uptoBulk]
 |slice G j=>simp[bk,Go.Proofs.YtgcpildegdgekaaGreatDoor.Rows.uptoBulk]
 |agg u=>simp[bk,Go.Proofs.YtgcpildegdgekaaGreatDoor.Rows.uptoBulk]
 |iface t d=>simp[bk,Go.Proofs.YtgcpildegdgekaaGreatDoor.Rows.uptoBulk]
 |map f=>simp[bk,Go.Proofs.YtgcpildegdgekaaGreatDoor.Rows.uptoBulk]
 |held h=>simp[bk,Go.Proofs.YtgcpildegdgekaaGreatDoor.Rows.uptoBulk]
theorem C8:∀(l:List (DataW H)),l.length<=Go.Proofs.YtgcpildegdgekaaGreatDoor.Rows.uptoBulkAll l/\∀d∈l,bk d<=Go.Proofs.YtgcpildegdgekaaGreatDoor.Rows.uptoBulkAll l
 |[]=>⟨XQ,fun d h=>by cases h⟩
 |x::l=>by
  obtain⟨j,f⟩:=C8 l;grind [bAm,Go.Proofs.YtgcpildegdgekaaGreatDoor.Rows.uptoBulkAll]
theorem bAn {l:List (DataW H)} {d:DataW H} (h:d∈l):bk d<=bk (.agg l):=by
 have:=(C8 l).2 d h;grind [Go.Proofs.YtgcpildegdgekaaGreatDoor.Rows.uptoBulk]
theorem bAl (l r:List (DataW H)):l.length<=bk (.slice l r)/\∀d∈l,bk d<=bk (.slice l r):=by
 grind [C8,Go.Proofs.YtgcpildegdgekaaGreatDoor.Rows.uptoBulk]
theorem aTa {α β:Type} {f:α->Option β}:∀{l:List α} {ys:List β},l.mapM f=some ys->∀a∈l,∃y∈ys,f a=some y:=by
 intro l
 induction l with
 |nil=>grind
 |cons x l j=>
  grind [Option.bind_eq_some_iff]
section
variable {base:Nat} {sp:Nat->Bool} {held:Bool}
theorem aL1 {d fuel:Nat} {cs:List Value} {I M:Nat} (L:cs.length=I)
  (O:∀(t:TypeId) (cs:List Value) (x:DataW H×List MemPlace),pR P d t=true->DataW.trod enc P w base sp held fuel t cs=some x->
   cs.length=(dP P d t).length/\∀i (h:i<(dP P d t).length),∃j y,DataW.trod enc P w base sp held j ((dP P d t)[i]) [cs.getD i undef]=some y/\bk y.1<=bk x.1):
  ∀(u:List Field) (off:Nat),zE P (pR P d) (fun t=>(dP P d t).length) u off I=true->
   (∀f∈u,∃y,DataW.trod enc P w base sp held fuel f.type ((cs.drop f.offset).take (P.cellsOf f.type))=some y/\bk y.1<=M)->
   off+(u.flatMap fun f=>dP P d f.type).length=I/\∀i (h:i<(u.flatMap fun f=>dP P d f.type).length),∃j y,DataW.trod enc P w base sp held j ((u.flatMap fun f=>dP P d f.type)[i]) [cs.getD (off+i) undef]=some y/\bk y.1<=M:=by
 intro u
 induction u with
 |nil=>
  simp_all[zE]
 |cons f u J=>
  intro off hok G;simp only[zE,QW] at hok;obtain⟨⟨⟨h1,h2⟩,Z⟩,V⟩:=hok;have h1':=QQ h1;have h2':=QQ h2;obtain⟨y,S,hyM⟩:=G f XQ;obtain⟨e1,e2⟩:=O f.type _ y Z S;obtain⟨e3,e4⟩:=J (off+P.cellsOf f.type) V (fun g hg=>G g (by grind));simp only[List.flatMap_cons,QM];refine⟨KI,fun i hi=>?_⟩
  by_cases hlt:i<(dP P d f.type).length
  ·grind
  ·have hr:i-(dP P d f.type).length<(u.flatMap fun f=>dP P d f.type).length:=by
    omega
   grind
theorem aLY:∀(d:Nat) (t:TypeId) (fuel:Nat) (cs:List Value) (x:DataW H×List MemPlace),pR P d t=true->DataW.trod enc P w base sp held fuel t cs=some x->
  cs.length=(dP P d t).length/\∀i (h:i<(dP P d t).length),∃j y,DataW.trod enc P w base sp held j ((dP P d t)[i]) [cs.getD i undef]=some y/\bk y.1<=bk x.1:=by
 have G:∀{t:TypeId} {fuel:Nat} {cs:List Value} {x:DataW H×List MemPlace} {l:List TypeId},l=[t]->nJ P t=true->DataW.trod enc P w base sp held fuel t cs=some x->
   cs.length=l.length/\∀i (h:i<l.length),∃j y,DataW.trod enc P w base sp held j (l[i]) [cs.getD i undef]=some y/\bk y.1<=bk x.1:=fun {t fuel cs x l} J hk h=>by
  subst J;obtain⟨O,_⟩:=sa hk h;refine⟨O,fun i hi=>?_⟩;have:i=0:=by grind
  subst this
  match cs,O with
  |[c],_=>grind
 intro d
 induction d with
 |zero=>
  intro t fuel cs x hok h;exact G rfl hok h
 |succ d S=>
  intro t fuel cs x hok h;unfold pR at hok;split at hok
  ·rename_i u hu;have J:dP P (d+1) t=u.toList.flatMap fun f=>dP P d f.type:=by
    grind [dP]
   rw[J];cases fuel with
   |zero=>cases h
   |succ fuel=>
    simp only[DataW.trod,hu] at h;split at h
    ·rename_i I;obtain⟨ys,L,Z⟩:=Option.map_eq_some_iff.1 h;have:=aL1 (cs:=cs) (M:=bk x.1) I (fun t cs x=>S t fuel cs x) u.toList 0 hok (fun f hf=>by
      obtain⟨y,V,e⟩:=aTa L f hf;refine⟨y,e,?_⟩;rw[<- Z];exact bAn (JK.2 ⟨y,V,rfl⟩))
     grind
    grind
  ·grind
  grind [dP]
end
def rQ (C:Cfg U) (p:(τ:U.τ)->U.T τ->Prop) (B:Nat) (u:TypeId) (a:aC U):Prop:=
 match C.P.underlying u with
 |some (.int k)=>∃n,a=.int k n/\k.has n
 |some .bool=>∃b,a=.bool b
 |some .string=>∃s,a=.str s/\(s.size:Int)<=9223372036854775807
 |some (.slice e)=>∃τ xs,C.elt e=some τ/\a=.sl τ xs/\xs.length<=B/\∀x∈xs,p τ x
 |_=>False
def uU (C:Cfg U) (p:(τ:U.τ)->U.T τ->Prop) (B:Nat) (enc:TypeId×Value->H) (w:World) (e:TypeId) (τ:U.τ):Prop:=
 C.P.cellsOf e=U.size τ/\∀n f y,DataW.trod enc C.P w 0 (fun _=>true) true n e f=some y->bk y.1<=B->∃z:U.T τ,p τ z/\∀k (j:k<(C.E.enc τ z).length),Rel C.E w cO (fF (fun _=>False) w) (C.E.enc τ z)[k] (f.getD k undef)
variable {B:Nat}
theorem aUH {u:TypeId} {v:Value} {fuel:Nat} {y:DataW H×List MemPlace} (hE:∀e,C.P.underlying u=some (.slice e)->∃τ,C.elt e=some τ/\uU C p B enc w e τ)
  (I:nJ C.P u=true) (h:DataW.trod enc C.P w 0 (fun _=>true) true fuel u [v]=some y) (hB:bk y.1<=B):
  ∃a,rQ C p B u a/\Rel C.E w cO (fF (fun _=>False) w) a v:=by
 unfold nJ at I;unfold rQ;split at I
 ·rename_i k G;simp only[G];obtain⟨n,J,_,h2⟩:=DataW.trod_int G h;cases J;exact⟨.int k n,⟨_,rfl,(by simpa[Lit.wf] using h2:k.min<=n/\n<=k.max)⟩,.int _ _⟩
 ·rename_i G;simp only[G];obtain⟨b,J,_⟩:=DataW.trod_bool G h;cases J;exact⟨.bool b,⟨_,rfl⟩,.bool _⟩
 ·rename_i G;simp only[G];obtain⟨s,J,_,h2⟩:=DataW.trod_string G h;cases J;refine⟨.str s,⟨_,rfl,?_⟩,.str _⟩;grind [maxLen]
 ·rename_i e G;simp only[G];obtain⟨τ,hτ,hs,hel⟩:=hE e G;rcases open_slice G h with ⟨J,_⟩|⟨a,len,cap,m,n,D,Pl,J,hb,hl,hm,hmm,hx,S⟩
  ·simp only[List.cons.injEq,and_true] at J;subst J;exact⟨.sl τ [],⟨τ,[],hτ,rfl,XQ,XQ⟩,.lO τ⟩
  ·simp only[List.cons.injEq,and_true] at J;subst J;have hmc:m=cap:=by grind
   subst hmc;have hbs:=bAl ((List.range len).map D) ((List.range (m-len)).map fun j=>D (len+j));rw[hx] at hB;have hlB:len<=B:=by
    grind
   have hDB:∀i,i<len->bk (D i)<=B:=fun i hi=>JT (hbs.2 _ (JK.2 ⟨i,JH.2 hi,rfl⟩)) hB
   have hpos:=C.E.pos τ;rcases Nat.eq_zero_or_pos m with h0|hmp
   ·subst h0;have wJ:len=0:=KI;subst wJ;exact⟨.sl τ [],⟨τ,[],hτ,rfl,XQ,XQ⟩,.sle τ a⟩
   have f:a.block<w.heap.size/\a.spot=none:=by
    obtain⟨cs',h3,_⟩:=S 0 hmp;obtain⟨_,hlen,O⟩:=World.cells?_some h3;have V:=O 0 KI;rw[JW KI,Nat.zero_mul,add_add] at V;unfold World.cell? at V;split at V
    ·rename_i hh;split at V
     ·cases V
     ·rename_i hsp;have dR:(a.add (0+0)).block=a.block:=by rfl
      have Ol:(a.add (0+0)).spot=a.spot:=by rfl
      rw[dR] at hh;rw[Ol] at hsp;exact⟨(QD.1 hh).1,by simpa using hsp⟩
    grind
   obtain⟨f,L⟩:=f;obtain⟨b,o,spot⟩:=a;simp only at L f;subst L;obtain⟨Z,hZ⟩:=choose_lt (α:=Option (U.T τ)×List Value) (n:=len) (p:=fun i z=>∃q,z.1=some q/\p τ q/\w.cells? 0 (Addr.add ⟨b,o,none⟩ (i*C.P.cellsOf e)) (C.P.cellsOf e)=some z.2/\∀k (I:k<(C.E.enc τ q).length),Rel C.E w cO (fF (fun _=>False) w) (C.E.enc τ q)[k] (z.2.getD k undef)) (fun i hi=>by
    obtain⟨cs',h3,h4⟩:=S i KI;obtain⟨z,hp,hz⟩:=hel n cs' _ h4 (hDB i hi);exact⟨(some z,cs'),z,rfl,hp,h3,hz⟩)
   have hxs:∃xs:List (U.T τ),xs.length=len/\∀i (h:i<xs.length),(Z i).1=some xs[i]:=by
    have:∀j,j<=len->∃xs:List (U.T τ),xs.length=j/\∀i (h:i<xs.length),(Z i).1=some xs[i]:=by
     intro j
     induction j with
     |zero=>intro _;exact⟨[],rfl,fun i h=>absurd h XQ⟩
     |succ j ihj=>
      intro hj;obtain⟨xs,e1,e2⟩:=ihj KI;obtain⟨q,hq,_⟩:=hZ j KI;refine⟨xs++[q],by grind,fun i hi=>?_⟩;grind
    exact this len (QP _)
   obtain⟨xs,e1,e2⟩:=hxs;have hrel:∀i (h:i<xs.length),p τ xs[i]/\∀k (I:k<(C.E.enc τ xs[i]).length),w.cell? ⟨b,o+(i*U.size τ+k),none⟩=some ((Z i).2.getD k undef)/\Rel C.E w cO (fF (fun _=>False) w) (C.E.enc τ xs[i])[k] ((Z i).2.getD k undef):=by
    intro i hi;obtain⟨q,hq,hp,h3,h4⟩:=hZ i KI;have hqx:q=xs[i]:=by
     grind
    subst hqx;refine⟨hp,fun k I=>⟨?_,h4 k I⟩⟩;obtain⟨_,hlen,O⟩:=World.cells?_some h3;have hk':k<U.size τ:=by rw[C.E.enc_len] at I;exact I
    grind [Addr.wT]
   refine⟨.sl τ xs,⟨τ,xs,hτ,rfl,?_,fun x hx=>?_⟩,?_⟩
   ·omega
   ·grind [List.mem_iff_getElem]
   ·have:=Rel.sl (E:=C.E) (w:=w) (ρ:=cO) (st:=fF (fun _=>False) w) τ xs b o m (fun j=>(Z (j / U.size τ)).2.getD (j % U.size τ) undef) ⟨f,fun h=>h⟩ KI (fun j hj=>by
     have V:j / U.size τ<xs.length:=Nat.div_lt_of_lt_mul (by grind);have h6:j % U.size τ<U.size τ:=Nat.mod_lt _ hpos;have:=((hrel (j / U.size τ) V).2 (j % U.size τ) (by rw[C.E.enc_len];exact h6)).1;grind [Nat.div_add_mod]) (fun i hi k I=>by
     have hk':k<U.size τ:=by rw[C.E.enc_len] at I;exact I
     have h7:(i*U.size τ+k) / U.size τ=i:=by
      grind [Nat.mul_comm,Nat.mul_add_div,Nat.div_eq_of_lt]
     grind [Nat.mul_comm,Nat.mul_add_mod,Nat.mod_eq_of_lt])
    grind
 grind
theorem aDG {t:TypeId} {d fuel:Nat} {cs:List Value} {x:DataW H×List MemPlace}
  (hE:∀u∈dP C.P d t,nJ C.P u=true/\∀e,C.P.underlying u=some (.slice e)->∃τ,C.elt e=some τ/\uU C p B enc w e τ) (I:pR C.P d t=true)
  (h:DataW.trod enc C.P w 0 (fun _=>true) true fuel t cs=some x) (hB:bk x.1<=B):
  ∃f:List (aC U),f.length=(dP C.P d t).length/\cs.length=f.length/\∀i (h:i<f.length) (h':i<(dP C.P d t).length),rQ C p B (dP C.P d t)[i] f[i]/\Rel C.E w cO (fF (fun _=>False) w) f[i] (cs.getD i undef):=by
 obtain⟨V,G⟩:=aLY d t fuel _ _ I h;have L:∀j,j<=cs.length->∃f:List (aC U),f.length=j/\∀i (h:i<f.length) (h':i<(dP C.P d t).length),rQ C p B (dP C.P d t)[i] f[i]/\Rel C.E w cO (fF (fun _=>False) w) f[i] (cs.getD i undef):=by
  intro j
  induction j with
  |zero=>simp_all
  |succ j Z=>
   intro hj;obtain⟨f,e1,e2⟩:=Z KI;have J:j<(dP C.P d t).length:=KI;obtain⟨f',y,hy,O⟩:=G j J;obtain⟨hk,S⟩:=hE _ (QH J);obtain⟨a,ha,hr⟩:=aUH S hk hy (JT O hB);refine⟨f++[a],by grind,fun i hi hi'=>?_⟩;grind
 obtain⟨f,e1,e2⟩:=L cs.length (QP _);grind
theorem xv {e:TypeId} {τ:U.τ} (d:Nat) (j:C.P.cellsOf e=U.size τ) (hE:∀u∈dP C.P d e,nJ C.P u=true/\∀e,C.P.underlying u=some (.slice e)->∃τ,C.elt e=some τ/\uU C p B enc w e τ) (hok:pR C.P d e=true)
  (I:∀f:List (aC U),f.length=(dP C.P d e).length->(∀i (h:i<f.length) (S:i<(dP C.P d e).length),rQ C p B (dP C.P d e)[i] f[i])->∃z,p τ z/\C.E.enc τ z=f):uU C p B enc w e τ:=by
 refine⟨j,fun n V y h G=>?_⟩;obtain⟨f,O,L,J⟩:=aDG hE hok h G;grind
theorem bB1 {t:TypeId} {v:Value} {b0 d:Nat} {x:DataW H} {ps:List MemPlace}
  (hE:∀u∈dP C.P d t,nJ C.P u=true/\∀e,C.P.underlying u=some (.slice e)->∃τ,C.elt e=some τ/\uU C p B enc w e τ) (V:wD C.P t=true) (j:pR C.P d t=true)
  (hok:Value.okWide C.P w .any b0 t v) (h:DataW.Trod enc C.P w 0 (fun _=>true) true t v x ps) (O:bk x<=B):
  ∃f:List (aC U),f.length=(dP C.P d t).length/\(∀i (h:i<f.length) (J:i<(dP C.P d t).length),rQ C p B (dP C.P d t)[i] f[i])/\Rel C.E w cO (fF (fun _=>False) w) (.agg f) v:=by
 have hv:∃G,v=.agg G:=by
  grind [wD,Value.okWide]
 obtain⟨G,rfl⟩:=hv;obtain⟨fuel,hf⟩:=h;obtain⟨f,S,Z,I⟩:=aDG hE j hf O;refine⟨f,S,fun i h J=>(I i h J).1,.agg f G (by assumption) (fun k L=>?_)⟩;simpa[Value.cells] using (I k L KI).2
end
end Go.Vm
namespace Go.Proofs.YtgcpildegdgekaaGreatDoor
open Go.Proofs.Tryz
open Go.ChangeAt Go.ChangeShapes Go.Joins Go.RowKit Go.Vm Go.WideShapes
noncomputable section
theorem own:ownKnob prog.godebug=none:=KA
theorem laidOut:laidOutB prog=true:=KA
theorem aVB {W:World} (h:W.ShapedOpen prog):Gn W:=aUS.s1_3 W h
theorem aVj:prog.globalNamed "errors.errorType"=some 0:=KA
theorem aOl:(prog.cutTypes.find? (·.1== "internal/reflectlite.rtype")).map (·.2)=some 225:=KA
theorem aRA:((List.range 342).filter fun t=>prog.rowNamed t [101,114,114,111,114])=[87]:=KA
theorem aQK:(Rows.laid_internal_strconv_uint64pow10:DataW Unit)=Lib.tabData .u64 Lib.pow10Tab:=KA
theorem aXN {W:World} {l:List (String×DataW Unit)} (h:handlesMet prog l W) (hm:("errors.errorType",Rows.laid_errors_errorType)∈l):aHL W:=by
 obtain⟨f,u,G,e1,L,O,J,j⟩:=h _ hm;have I:f=[101,114,114,111,114]:=(QU e1).symm;subst I;obtain rfl:=QU (aOl.symm.trans L);have hm:G∈(List.range 342).filter fun t=>prog.rowNamed t [101,114,114,111,114]:=List.mem_filter.2 ⟨JH.2 (by simp_all),J⟩
 rw[aRA] at hm;obtain rfl:=JJ.1 hm;have hh:typeHandle prog 87=.pointer (some ⟨9,87,none⟩):=KA;rw[hh] at j;show W.cell? ⟨0,0,none⟩=_;simpa using World.var?_cell aVj j 0
theorem aQn {H:Type} {C:Cfg UU} {enc:TypeId×Value->H} {W:World} {t:TypeId} {v:Value} {b0:Nat} {x:DataW H} {ps:List MemPlace} (hE:∀e,C.P.underlying t=some (.slice e)->∃τ,C.elt e=some τ/\K7 C enc W e τ)
  (f:nJ C.P t=true) (j:wD C.P t=false) (hok:Value.okWide C.P W .any b0 t v) (h:DataW.Trod enc C.P W 0 (fun _=>true) true t v x ps) (hv:v.cells=#[v]):
  ∃a,Fits C t a/\Rel C.E W cO (fF (fun _=>False) W) a v:=by
 obtain⟨fuel,hf⟩:=h;rw[hv] at hf;refine aUG hE f (b0:=b0) ?_ hf;grind [wD,Value.okWide]
theorem aZY {P:Program} {W:World} {b0:Nat} {t:TypeId} {v:Value} {e:TypeId} (f:P.underlying t=some (.slice e)) (hok:Value.okWide P W .any b0 t v):v.cells=#[v]:=by
 unfold Value.okWide at hok;rw[f] at hok;simp only at hok;unfold Cell.okWide Cell.ok at hok;rw[f] at hok;cases v<;>first|rfl|grind
theorem aUq (f:zzI) (h:f.length=UU.size .item):∃z:UU.T .item,EE.enc .item z=f.map (aC.int .i64):=by
 match f,h with
 |[a,b,c,d,e],_=>exact⟨Itm.mk a b c d e,rfl⟩
theorem aQj {H:Type} {enc:TypeId×Value->H} {W:World}:K7 gC enc W 69 .item:=aQk 5 KA KA KA KA aUq
theorem aWh {t e:TypeId} {τ:Knd} {a:aC UU} (f:prog.underlying t=some (.slice e)) (he:gC.elt e=some τ) (h:Fits gC t a):∃xs:List (UU.T τ),a=.sl τ xs:=by
 unfold Fits at h;rw[show gC.P.underlying t=_ from f] at h;grind
theorem aQp {H:Type} {enc:TypeId×Value->H} {W:World} {base:Nat} {v:Value} {x:DataW H} {ps:List MemPlace} (hok:Value.okWide prog W .any base 28 v) (h:DataW.Trod enc prog W 0 (fun _=>true) true 28 v x ps):
  ∃l:List Itm,Rel EE W cO (fF (fun _=>False) W) (aC.sl .item l:aC UU) v:=by
 obtain⟨a,j,f⟩:=aQn (C:=gC) (t:=28) (fun e he=>by
  rw[show gC.P.underlying 28=_ from underlying28] at he;cases he;exact⟨.item,KA,aQj⟩) KA KA hok h (aZY underlying28 hok)
 obtain⟨l,rfl⟩:=aWh underlying28 (τ:=.item) KA j;exact⟨l,f⟩
def pQ (B:Nat):(τ:UU.τ)->UU.T τ->Prop:=fun τ=>match τ with
 | .pc=>fun p=>p.Rects.length<=B/\p.Cuts.length<=B/\p.Forms.length<=B
 |_=>fun _=>True
section
variable {H:Type} {enc:TypeId×Value->H} {W:World} {B:Nat}
theorem Hg {t e:TypeId} {τ:Knd} {a:aC UU} (f:prog.underlying t=some (.slice e)) (he:gC.elt e=some τ) (h:rQ gC (pQ B) B t a):∃xs:List (UU.T τ),a=.sl τ xs/\xs.length<=B/\∀x∈xs,pQ B τ x:=by
 unfold rQ at h;rw[show gC.P.underlying t=_ from f] at h;grind
theorem uF {t:TypeId} {a:aC UU} (f:prog.underlying t=some (.int .i64)) (h:rQ gC (pQ B) B t a):∃n,a=.int .i64 n:=by
 unfold rQ at h;rw[show gC.P.underlying t=_ from f] at h;grind
theorem Zj {t:TypeId} {a:aC UU} (f:prog.underlying t=some .string) (h:rQ gC (pQ B) B t a):∃s,a=.str s:=by
 unfold rQ at h;rw[show gC.P.underlying t=_ from f] at h;grind
theorem aDH:nJ gC.P 9=true/\∀e,gC.P.underlying 9=some (.slice e)->∃τ,gC.elt e=some τ/\uU gC (pQ B) B enc W e τ:=
 ⟨KA,fun e he=>by rw[show gC.P.underlying 9=_ from underlying9] at he;cases he⟩
theorem au:nJ gC.P 3=true/\∀e,gC.P.underlying 3=some (.slice e)->∃τ,gC.elt e=some τ/\uU gC (pQ B) B enc W e τ:=
 ⟨KA,fun e he=>by rw[show gC.P.underlying 3=_ from underlying3] at he;cases he⟩
theorem aQl:uU gC (pQ B) B enc W 63 .rect:=by
 have I:dP gC.P 5 63=[3,3,3,3]:=KA;refine xv 5 KA (fun u j=>?_) KA (fun G J f=>?_)
 ·rw[I] at j;simp only[List.mem_cons,List.not_mem_nil,or_false,or_self] at j;subst j;exact au
 ·simp only[I] at J f
  match G,J with
  |[a0,a1,a2,Z],_=>
   obtain⟨V,rfl⟩:=uF underlying3 (f 0 XQ XQ);obtain⟨S,rfl⟩:=uF underlying3 (f 1 XQ XQ);obtain⟨O,rfl⟩:=uF underlying3 (f 2 XQ XQ);obtain⟨L,rfl⟩:=uF underlying3 (f 3 XQ XQ);exact⟨aA.mk V S O L,trivial,rfl⟩
theorem aDI:nJ gC.P 22=true/\∀e,gC.P.underlying 22=some (.slice e)->∃τ,gC.elt e=some τ/\uU gC (pQ B) B enc W e τ:=
 ⟨KA,fun e he=>by
  rw[show gC.P.underlying 22=_ from underlying22] at he;cases he;exact⟨.rect,KA,aQl⟩⟩
theorem aQm:uU gC (pQ B) B enc W 61 .pc:=by
 have I:dP gC.P 5 61=[9,9,3,3,22,22,22]:=KA;refine xv 5 KA (fun u hu=>?_) KA (fun j J f=>?_)
 ·rw[I] at hu;have G:u=9\/u=3\/u=22:=by
   simp_all
  rcases G with rfl|rfl|rfl
  ·exact aDH
  ·exact au
  ·exact aDI
 ·simp only[I] at J f
  match j,J with
  |[a0,a1,a2,a3,a4,a5,a6],_=>
   obtain⟨n0,rfl⟩:=Zj underlying9 (f 0 XQ XQ);obtain⟨n1,rfl⟩:=Zj underlying9 (f 1 XQ XQ);obtain⟨Z,rfl⟩:=uF underlying3 (f 2 XQ XQ);obtain⟨V,rfl⟩:=uF underlying3 (f 3 XQ XQ);obtain⟨S,rfl,l4,_⟩:=Hg underlying22 (τ:=.rect) KA (f 4 XQ XQ);obtain⟨O,rfl,l5,_⟩:=Hg underlying22 (τ:=.rect) KA (f 5 XQ XQ);obtain⟨L,rfl,l6,_⟩:=Hg underlying22 (τ:=.rect) KA (f 6 XQ XQ);exact⟨Pce.mk n0 n1 Z V S O L,⟨l4,l5,l6⟩,rfl⟩
theorem aQo {base:Nat} {v:Value} {x:DataW H} {ps:List MemPlace} (hok:Value.okWide prog W .any base 27 v) (h:DataW.Trod enc prog W 0 (fun _=>true) true 27 v x ps) (hB:bk x<=B):
  ∃(nm mt:ByteArray) (g gr L ht:Int) (cl us:List aA) (pc:List Pce),(cl.length<=B/\us.length<=B/\∀p∈pc,p.Rects.length<=B/\p.Cuts.length<=B/\p.Forms.length<=B)/\
   Rel EE W cO (fF (fun _=>False) W) (aC.agg [.str nm,.str mt,.int .i64 g,.int .i64 gr,.int .i64 L,.int .i64 ht,.sl .rect cl,.sl .rect us,.sl .pc pc]:aC UU) v:=by
 have G:dP gC.P 5 27=[9,9,3,3,3,3,22,22,25]:=KA;obtain⟨J,I,f,h3⟩:=bB1 (C:=gC) (p:=pQ B) (d:=5) (t:=27) (fun u hu=>by
  rw[G] at hu;have j:u=9\/u=3\/u=22\/u=25:=by
   simp_all
  rcases j with rfl|rfl|rfl|rfl
  ·exact aDH
  ·exact au
  ·exact aDI
  ·refine⟨KA,fun e he=>?_⟩;rw[show gC.P.underlying 25=_ from underlying25] at he;cases he;exact⟨.pc,KA,aQm⟩) KA KA hok h hB
 simp only[G] at I f
 match J,I with
 |[a0,a1,a2,a3,a4,a5,a6,a7,a8],_=>
  obtain⟨n0,rfl⟩:=Zj underlying9 (f 0 XQ XQ);obtain⟨n1,rfl⟩:=Zj underlying9 (f 1 XQ XQ);obtain⟨n2,rfl⟩:=uF underlying3 (f 2 XQ XQ);obtain⟨n3,rfl⟩:=uF underlying3 (f 3 XQ XQ);obtain⟨n4,rfl⟩:=uF underlying3 (f 4 XQ XQ);obtain⟨Z,rfl⟩:=uF underlying3 (f 5 XQ XQ);obtain⟨V,rfl,l6,_⟩:=Hg underlying22 (τ:=.rect) KA (f 6 XQ XQ);obtain⟨S,rfl,l7,_⟩:=Hg underlying22 (τ:=.rect) KA (f 7 XQ XQ);obtain⟨O,rfl,_,l8⟩:=Hg underlying25 (τ:=.pc) KA (f 8 XQ XQ);exact⟨n0,n1,n2,n3,n4,Z,V,S,O,⟨l6,l7,l8⟩,h3⟩
end
noncomputable def aKa (os:Os):World:=
 let w0:=World.holding prog os ⟨#[],#[],[]⟩
 {w0 with heap:=w0.heap.modify 0 fun
   | .cells _ t f=>.cells #[.iface 225 (.agg #[.pointer (some ⟨9,87,none⟩)])] t f
   |o=>o}
theorem aU4 (P:Program) (w:World) (l:List (String×DataW Unit)):(w.layVars P l).os=w.os:=World.layVars_os _ _ _
theorem aU8 {w0:World} {f:List (String×DataW Unit)} (args:Array Value) (hf:w0.layFits prog f []=true) (hi:w0.layIfaces prog f (w0.layVars prog f)=true):
  laidMet prog f ((w0.layVars prog f).forCall (fun _ _=>0) ⟨#[],args,[]⟩).memory:=by
 have e1:(f.filter fun x=>(f.map (·.1)).contains x.1)=f:=List.filter_eq_self.2 fun x j=>List.contains_iff_mem.2 (JK.2 ⟨x,j,rfl⟩)
 have u:(f.filter fun x=>!(f.map (·.1)).contains x.1)=[]:=List.filter_eq_nil_iff.2 fun x j=>by grind
 have h:laidMet prog f (w0.layVars prog f):=laidMet_layVars (w0:=w0) (f.map (·.1)) [] (by rw[e1]) (by grind) (by grind) (by rw[u];exact LaidIn.none);exact h.of_heap (by rfl)
theorem aEk {n nm:String} {dd:DataW Unit} {r:List (String×DataW Unit)} {W:World} {g ti:Nat} {J:Array (String×TypeId)} (V:prog.globalNamed n=some g) (S:(prog.globals[g]?).map (·.type)=some ti) (hi:prog.underlying ti=some (.interface J))
  (h:laidMet prog ((n,.iface nm dd)::r) W):∃G I,W.cell? ⟨g,0,none⟩=some (.iface G I):=by
 obtain⟨ps,⟨g0,t0,O,f0,p0,q0,Gv,Bp,Z,j,_,e0⟩,_,f⟩:=h;obtain rfl:=QU (V.symm.trans Gv);obtain rfl:=QU (S.symm.trans Bp);obtain⟨f',u,v,e,_,_⟩:=iface_of_trod hi j;obtain⟨L⟩:=O;have e:L=[.iface u v]:=e;subst e;exact⟨u,v,by simpa using World.var?_cell Gv Z 0⟩
end
end Go.Proofs.YtgcpildegdgekaaGreatDoor
namespace Go.Proofs.YtgcpildegdgekaaGreatDoor
open Go.Proofs.Tryz
section
variable {α:Type} [DecidableEq α]
inductive Rch (nb:α->List α) (L:α->Option Nat) (c:α):α->Prop
 |base:Rch nb L c c
 |step {d e:α}:Rch nb L c d->e∈nb d->L e=none->Rch nb L c e
open Classical in
noncomputable def lY (nb:α->List α) (L:α->Option Nat) (c:α) (n:Nat):α->Option Nat:=fun d=>if Rch nb L c d then some n else L d
def upd (L:α->Option Nat) (e:α) (n:Nat):α->Option Nat:=fun d=>if d=e then some n else L d
theorem uY (L:α->Option Nat) (e:α) (n:Nat):upd L e n e=some n:=JQ rfl
theorem qS {L:α->Option Nat} {e d:α} {n:Nat} (h:d≠e):upd L e n d=L d:=QF h
structure mW (nb:α->List α) (cells:List α) (L0:α->Option Nat) (c0:α) (n:Nat) (p:α->Prop) (L:α->Option Nat) (todo:List α):Prop where
 old:∀d,L d=L0 d\/(L d=some n/\L0 d=none/\Rch nb L0 c0 d)
 start:L c0=some n
 mem:∀d∈todo,L d=some n/\d∈cells
 clo:∀d,L d=some n->d∈todo\/p d\/∀e∈nb d,L e≠none
theorem mW.init {nb:α->List α} {cells:List α} {L0:α->Option Nat} {f:α} {n:Nat} (j:L0 f=none) (u:f∈cells) (hf:∀d,L0 d≠some n):mW nb cells L0 f n (fun _=>False) (upd L0 f n) [f] where
 old d:=by
  by_cases h:d=f
  ·subst h;exact .inr ⟨uY ..,j,.base⟩
  grind [qS]
 start:=uY ..
 mem d hd:=by
  grind [uY]
 clo d hd:=by
  grind [qS]
omit [DecidableEq α] in
theorem mW.done {nb:α->List α} {cells:List α} {L0:α->Option Nat} {u:α} {n:Nat} {L:α->Option Nat} (h:mW nb cells L0 u n (fun _=>False) L []) (J:L0 u=none):L=lY nb L0 u n:=by
 funext d;unfold lY
 by_cases f:Rch nb L0 u d
 ·rw[JQ f]
  induction f with
  |base=>exact h.start
  |step f he I G=>
   rename_i d e;rcases h.clo _ G with hm|hm|hm
   ·cases hm
   ·grind
   ·rcases h.old e with j|⟨j,_⟩
    ·grind
    omega
 ·rw[QF f];rcases h.old d with j|⟨_,_,j⟩
  ·exact j
  grind
def mB (n:Nat) (s:(α->Option Nat)×List α) (e:α):(α->Option Nat)×List α:=if s.1 e=none then (upd s.1 e n,s.2++[e]) else s
def visit (n:Nat) (l:List α) (s:(α->Option Nat)×List α):(α->Option Nat)×List α:=l.foldl (mB n) s
theorem aLR {n:Nat} {s:(α->Option Nat)×List α} {e d:α} (h:s.1 d≠none):(mB n s e).1 d≠none:=by
 unfold mB;split
 ·grind [qS]
 omega
theorem aLQ {n:Nat} {s:(α->Option Nat)×List α} {e:α}:(mB n s e).1 e≠none:=by
 unfold mB;split
 ·simp[upd]
 ·assumption
theorem rq {n:Nat}:∀(l:List α) (s:(α->Option Nat)×List α) (d:α),s.1 d≠none\/d∈l->(visit n l s).1 d≠none
 |[],s,d,h=>by
  rcases h with h|h
  ·exact h
  grind
 |x::l,s,d,h=>by
  refine rq l (mB n s x) d ?_;grind [aLR,aLQ]
theorem mW.mB {nb:α->List α} {cells:List α} {L0:α->Option Nat} {u:α} {n:Nat} {c:α} {s:(α->Option Nat)×List α} (h:mW nb cells L0 u n (·=c) s.1 s.2) {e:α} (V:s.1 c=some n) (I:Rch nb L0 u c) (he:e∈nb c) (O:e∈cells):
  mW nb cells L0 u n (·=c) (mB n s e).1 (mB n s e).2:=by
 unfold Go.Proofs.YtgcpildegdgekaaGreatDoor.mB;split
 ·rename_i S;have J:L0 e=none:=by
   rcases h.old e with G|⟨G,_⟩
   ·grind
   grind
  refine⟨fun d=>?_,?_,fun d L=>?_,fun d L=>?_⟩
  ·by_cases f:d=e
   ·subst f;exact .inr ⟨uY ..,J,.step I he J⟩
   ·show upd _ _ _ d=_\/upd _ _ _ d=_/\_;rw[qS f];exact h.old d
  ·by_cases f:u=e
   ·grind [uY]
   ·show upd _ _ _ u=_;rw[qS f];exact h.start
  ·by_cases f:d=e
   ·grind [uY]
   ·have j:d∈s.2:=by
     grind
    refine⟨?_,(h.mem d j).2⟩;show upd _ _ _ d=_;rw[qS f];exact(h.mem d j).1
  ·by_cases f:d=e
   ·grind
   ·have j:s.1 d=some n:=by
     grind [qS]
    rcases h.clo d j with G|G|G
    ·grind
    ·grind
    grind [qS]
 omega
theorem mW.visit {nb:α->List α} {cells:List α} {L0:α->Option Nat} {u:α} {n:Nat} {c:α} (j:Rch nb L0 u c):∀(l:List α) (s:(α->Option Nat)×List α),mW nb cells L0 u n (·=c) s.1 s.2->s.1 c=some n->(∀e∈l,e∈nb c/\e∈cells)->
  mW nb cells L0 u n (·=c) (visit n l s).1 (visit n l s).2/\(visit n l s).1 c=some n
 |[],s,h,f,_=>⟨h,f⟩
 |x::l,s,h,f,I=>by
  obtain⟨L,J⟩:=I x (QI ..);refine mW.visit j l (Go.Proofs.YtgcpildegdgekaaGreatDoor.mB n s x) (h.mB f j L J) ?_ fun e he=>I e (QA _ he)
  unfold Go.Proofs.YtgcpildegdgekaaGreatDoor.mB;split
  ·by_cases G:c=x
   ·rw[G];exact uY ..
   ·show upd _ _ _ c=_;rw[qS G];exact f
  ·exact f
theorem mW.next {nb:α->List α} {cells:List α} {L0:α->Option Nat} {I:α} {n:Nat} {L:α->Option Nat} {f rest l:List α} {c:α} (h:mW nb cells L0 I n (fun _=>False) L f) (hc:c∈f) (hm:∀d∈f,d=c\/d∈rest) (Z:∀d∈rest,d∈f)
  (hf:∀d,L0 d≠some n) (hl:∀e∈l,e∈nb c/\e∈cells) (V:∀e∈nb c,e∈l):mW nb cells L0 I n (fun _=>False) (Go.Proofs.YtgcpildegdgekaaGreatDoor.visit n l (L,rest)).1 (Go.Proofs.YtgcpildegdgekaaGreatDoor.visit n l (L,rest)).2:=by
 obtain⟨O,hcc⟩:=h.mem c hc;have J:Rch nb L0 I c:=by
  rcases h.old c with j|⟨_,_,j⟩
  ·grind
  omega
 have j:mW nb cells L0 I n (·=c) L rest:=⟨h.old,h.start,fun d u=>h.mem d (Z d u),fun d u=>by
  rcases h.clo d u with j|j|j
  ·grind
  ·grind
  grind⟩
 obtain⟨G,h3⟩:=mW.visit J l (L,rest) j O hl;refine⟨G.old,G.start,G.mem,fun d u=>?_⟩;rcases G.clo d u with S|S|S
 ·grind
 ·grind [rq]
 grind
def free (cells:List α) (L:α->Option Nat):Nat:=(cells.filter fun d=>(L d).isNone).length
theorem aGq {cells:List α} {L:α->Option Nat} {e:α} {n:Nat} (he:e∈cells) (I:L e=none):free cells (upd L e n)+1<=free cells L:=by
 unfold free
 induction cells with
 |nil=>cases he
 |cons x l f=>
  have j:∀l:List α,(l.filter fun d=>(upd L e n d).isNone).length<=(l.filter fun d=>(L d).isNone).length:=fun l=>by
   induction l with
   |nil=>simp
   |cons y l f=>
    simp only[List.filter_cons]
    by_cases u:y=e
    ·grind
    grind [qS]
  simp only[List.filter_cons]
  by_cases G:x=e
  ·grind [uY]
  grind [qS]
theorem ru {cells:List α} {n:Nat}:∀(l:List α) (s:(α->Option Nat)×List α),(∀e∈l,e∈cells)->free cells (visit n l s).1+(visit n l s).2.length<=free cells s.1+s.2.length
 |[],s,_=>QP _
 |x::l,s,h=>by
  refine JT (ru l (mB n s x) fun e he=>h e (QA _ he)) ?_;unfold mB;split
  ·rename_i f;have:=aGq (n:=n) (h x (QI ..)) f;grind
  omega
end
abbrev Pl:=Nat×Nat
def nbs (w h:Nat) (lf bl:Nat->Nat->Bool) (c:Pl):List Pl:=
 if c.1<w/\c.2<h then
  (if 0<c.1/\lf c.1 c.2=false then [(c.1-1,c.2)] else [])++(if c.1+1<w/\lf (c.1+1) c.2=false then [(c.1+1,c.2)] else [])++
  (if 0<c.2/\bl c.1 c.2=false then [(c.1,c.2-1)] else [])++(if c.2+1<h/\bl c.1 (c.2+1)=false then [(c.1,c.2+1)] else [])
 else []
def cellsOf (w h:Nat):List Pl:=(List.range h).flatMap fun k=>(List.range w).map fun i=>(i,k)
theorem vY {w h:Nat} {c:Pl}:c∈cellsOf w h↔c.1<w/\c.2<h:=by
 obtain⟨i,k⟩:=c;simp only[cellsOf,List.mem_flatMap,JH,JK,QX];grind
theorem T9 {w h:Nat} {lf bl:Nat->Nat->Bool} {c e:Pl} (he:e∈nbs w h lf bl c):c.1<w/\c.2<h:=by
 grind [nbs]
theorem U0 {w h:Nat} {lf bl:Nat->Nat->Bool} {c e:Pl} (he:e∈nbs w h lf bl c):e∈cellsOf w h:=by
 have f:=T9 he;rw[vY];unfold nbs at he;rw[JQ f] at he;simp only[QO] at he;grind
def Arr (code:Option Nat->Int) (w h:Nat) (f:zzZ) (L:Pl->Option Nat):Prop:=
 w<=f.length/\(∀i,i<w->h<=(f.getD i default).length)/\∀i k,i<w->k<h->(f.getD i default).getD k default=code (L (i,k))
theorem Arr.set {code:Option Nat->Int} {w h:Nat} {f:zzZ} {L:Pl->Option Nat} (a:Arr code w h f L) {i k n:Nat} (hi:i<w) (I:k<h):
  Arr code w h (f.set i ((f.getD i default).set k (code (some n)))) (upd L (i,k) n):=by
 obtain⟨S,O,J⟩:=a;refine⟨by grind,fun j u=>?_,fun j q u G=>?_⟩
 ·grind
 grind [uY,qS,Prod.mk.inj]
section
variable {β:Type}
noncomputable def pE (nb:Pl->List Pl) (rect:Pl->β) (s:(Pl->Option Nat)×List (List β)) (c:Pl):(Pl->Option Nat)×List (List β):=
 let L1:=if s.1 c=none then lY nb s.1 c s.2.length else s.1
 let f:=if s.1 c=none then s.2++[[]] else s.2
 (L1,f.set ((L1 c).getD 0) (f.getD ((L1 c).getD 0) default++[rect c]))
noncomputable def nW (nb:Pl->List Pl) (rect:Pl->β) (l:List Pl) (s:(Pl->Option Nat)×List (List β)):(Pl->Option Nat)×List (List β):=l.foldl (pE nb rect) s
noncomputable def yA (nb:Pl->List Pl) (rect:Pl->β) (cells:List Pl):List (List β):=(nW nb rect cells (fun _=>none,[])).2
inductive Path (nb:Pl->List Pl) (c:Pl):Pl->Prop
 |base:Path nb c c
 |step {d e:Pl}:Path nb c d->e∈nb d->Path nb c e
theorem Rch.path {nb:Pl->List Pl} {L:Pl->Option Nat} {c d:Pl} (h:Rch nb L c d):Path nb c d:=by
 induction h with
 |base=>exact .base
 |step _ he _ f=>exact .step f he
theorem Rch.none_ {nb:Pl->List Pl} {L:Pl->Option Nat} {c d:Pl} (h:Rch nb L c d) (f:L c=none):L d=none:=by
 cases h with
 |base=>exact f
 |step _ _ h=>exact h
structure lM (nb:Pl->List Pl) (rect:Pl->β) (done:List Pl) (L:Pl->Option Nat) (out:List (List β)):Prop where
 bound:∀d j,L d=some j->j<out.length
 used:∀j,j<out.length->∃d∈done,L d=some j
 lab:∀d∈done,L d≠none
 closed:∀d e j,L d=some j->e∈nb d->L e=some j
 root:∀j,∃r,∀d,L d=some j->Path nb r d
 perm:out.flatten.Perm (done.map rect)
theorem lM.nil (nb:Pl->List Pl) (rect:Pl->β):lM nb rect [] (fun _=>none) [] where
 bound d j h:=by cases h
 used j h:=by cases h
 lab d h:=by cases h
 closed d e j h:=by cases h
 root j:=⟨(0,0),fun d h=>by cases h⟩
 perm:=.refl _
theorem aGz {β:Type} (x:β):∀(l:List (List β)) (j:Nat),j<l.length->(l.set j (l.getD j default++[x])).flatten.Perm (l.flatten++[x])
 |[],j,h=>by cases h
 |y::l,0,_=>by
  grind [List.perm_append_comm]
 |y::l,j+1,h=>by
  simp only[List.set_cons_succ,List.getD_cons_succ,List.flatten_cons,KZ];exact List.Perm.append_left y (aGz x l j (by grind))
theorem lM.step {nb:Pl->List Pl} (V:∀d e,e∈nb d->d∈nb e) {rect:Pl->β} {done:List Pl} {L:Pl->Option Nat} {out:List (List β)} (h:lM nb rect done L out) (c:Pl):
  lM nb rect (done++[c]) (pE nb rect (L,out) c).1 (pE nb rect (L,out) c).2:=by
 have I:∀(L1:Pl->Option Nat) (G:List (List β)) (j:Nat),L1 c=some j->j<G.length->(∀d j,L1 d=some j->j<G.length)->(∀j,j<G.length->∃d∈done++[c],L1 d=some j)->(∀d∈done,L1 d≠none)->
   (∀d e j,L1 d=some j->e∈nb d->L1 e=some j)->(∀j,∃r,∀d,L1 d=some j->Path nb r d)->G.flatten.Perm (done.map rect)->
   lM nb rect (done++[c]) L1 (G.set ((L1 c).getD 0) (G.getD ((L1 c).getD 0) default++[rect c])):=fun L1 G j J hjl h1 h2 h3 h4 h5 h6=>by
  rw[J];refine⟨fun d j f=>by grind,fun j J=>h2 j (by grind),fun d f=>?_,h4,h5,?_⟩
  ·grind
  ·simp only[Option.getD_some];refine(aGz (rect c) G j hjl).trans ?_;rw[List.map_append,List.map_singleton];exact h6.append_right _
 unfold pE;simp only;cases S:L c with
 |some j=>
  simp only[reduceCtorEq,if_false];refine I L out j S (h.bound c j S) h.bound (fun j J=>?_) h.lab h.closed h.root h.perm;obtain⟨d,f,Z⟩:=h.used j J;grind
 |none=>
  simp only[if_true];have hcc:lY nb L c out.length c=some out.length:=by
   unfold lY;rw[JQ .base]
  refine I _ (out++[[]]) out.length hcc XQ (fun d j f=>?_) (fun j J=>?_) (fun d f=>?_) (fun d e j f he=>?_) (fun j=>?_) (by simpa using h.perm)
  ·unfold lY at f;split at f
   ·grind
   ·have:=h.bound d j f;grind
  ·rcases Nat.lt_or_ge j out.length with hlt|hge
   ·obtain⟨d,f,Z⟩:=h.used j hlt;refine⟨d,List.mem_append_left _ f,?_⟩;unfold lY;split
    ·rename_i u;rw[u.none_ S] at Z;cases Z
    omega
   grind
  ·unfold lY;split
   ·simp
   ·exact h.lab d f
  ·unfold lY at f ⊢
   by_cases u:Rch nb L c d
   ·rw[JQ u] at f;cases f;rw[JQ];refine .step u he ?_;cases O:L e with
    |none=>rfl
    |some m=>
     have:=h.closed e d m O (V d e he);rw[u.none_ S] at this;grind
   ·rw[QF u] at f;have O:=h.closed d e j f he;rw[QF]
    ·omega
    ·intro hre;rw[hre.none_ S] at O;grind
  ·by_cases J:j=out.length
   ·subst J;refine⟨c,fun d f=>?_⟩;unfold lY at f;split at f
    ·rename_i u;exact u.path
    ·have:=h.bound d _ f;omega
   ·obtain⟨r,u⟩:=h.root j;refine⟨r,fun d f=>u d ?_⟩;grind [lY]
theorem lM.run {nb:Pl->List Pl} (f:∀d e,e∈nb d->d∈nb e) {rect:Pl->β}:∀(l done:List Pl) (s:(Pl->Option Nat)×List (List β)),lM nb rect done s.1 s.2->lM nb rect (done++l) (nW nb rect l s).1 (nW nb rect l s).2
 |[],done,s,h=>by rw[JP];exact h
 |c::l,done,s,h=>by
  have:=lM.run f l (done++[c]) (pE nb rect s c) (h.step f c);rw[KZ,List.singleton_append] at this;exact this
theorem tv {nb:Pl->List Pl} (f:∀d e,e∈nb d->d∈nb e) (rect:Pl->β) (cells:List Pl):∃L,lM nb rect cells L (yA nb rect cells):=⟨_,by
 have:=lM.run f cells [] (fun _=>none,([]:List (List β))) (lM.nil nb rect);rwa [List.nil_append] at this⟩
theorem pig:∀(n:Nat) (l:List Nat),l.Nodup->(∀x∈l,x<n)->l.length<=n
 |0,l,_,h=>by
  cases l with
  |nil=>grind
  |cons x l=>grind [List.mem_cons_self]
 |n+1,l,f,h=>by
  have u:=pig n (l.erase n) (f.erase n) fun x j=>by
   grind
  grind
end
theorem Gf {w h:Nat} {lf bl:Nat->Nat->Bool}:∀(d e:Pl),e∈nbs w h lf bl d->d∈nbs w h lf bl e:=by
 intro d e he;have f:=T9 he;have j:=vY.1 (U0 he);obtain⟨i,k⟩:=d;obtain⟨a,b⟩:=e;unfold nbs at he ⊢;rw[JQ f] at he;rw[JQ j];simp only at f j;simp only[QO] at he ⊢;rcases he with ((he|he)|he)|he
 ·grind
 ·grind
 ·grind
 grind
end Go.Proofs.YtgcpildegdgekaaGreatDoor
namespace Go.Proofs.YtgcpildegdgekaaGreatDoor
open Go.Proofs.Tryz
open Go.RowKit Go.Vm
noncomputable section
def y9 (a0:Int):Bool:=((decide ((-1048576)<=a0))&&(decide (a0<=1048576)))
def Aa (u G f j:Int):Bool:=cond ((((((!(y9 u))||(!(y9 G)))||(decide (f<1)))||(decide (j<1)))||(decide (2097152<f)))||(decide (2097152<j))) (false) (((y9 (aB (u+f)))&&(y9 (aB (G+j)))))
def pC (u G L O f j J I:Int):Bool:=((((((Aa u G L O)&&(Aa f j J I))&&(decide (f<=u)))&&(decide (j<=G)))&&(decide ((aB (u+L))<=(aB (f+J)))))&&(decide ((aB (G+O))<=(aB (j+I)))))
def N0 (a0 a1:Int):Bool:=((decide ((aB (0-a1))<=a0))&&(decide (a0<=a1)))
def rZ (a0 a1 f:Int):Bool:=((decide (a1<=a0))&&(decide (a0<=f)))
def qA (S O:ByteArray) (L J u j:Int) (I G:List aA) (a1 f:Int):Bool:=((((decide (0<=a1))&&(decide (a1<=u)))&&(decide (0<=f)))&&(decide (f<=j)))
def iN (a0 a1 j f:Int):Int×Int×Int×Int:=(mi a0 j,mi a1 f,ma a0 j,ma a1 f)
def Fc (G f O I j u L J:Int):Bool:=cond (f==I) (((((decide (u<f))&&(decide (f<(aB (u+J)))))&&(decide (G<(aB (j+L)))))&&(decide (j<O)))) (((((decide (j<G))&&(decide (G<(aB (j+L)))))&&(decide (f<(aB (u+J)))))&&(decide (u<I))))
def rY (f G I L O J j u:Int):Int×Int:=cond (f==3) ((j,u)) ((G,I))
def xU (f J I G j u:Int):Bool:=cond (f==1) ((((G==0)&&(j==0))&&(u==0))) (cond (f==2) ((((G==0)&&(j==0))&&(u==0))) (cond (f==4) ((((G==0)&&(j==0))&&(u==0))) (cond (f==3) (u==0) (cond (f==5) ((((I==0)&&(G==0))&&(j==0))) (cond (f==6) (j==0) (false))))))
def Tx (a0 a1:Int):Bool:=((((N0 a0 1048576)&&(decide (0<a1)))&&(decide (a1<=2097152)))&&(decide ((aB (a0+a1))<=1048576)))
def lF (u G f j:Int):Bool:=((Tx u f)&&(Tx G j))
def tR (u G L O f j J I:Int):Bool:=((((((lF u G L O)&&(lF f j J I))&&(decide (f<=u)))&&(decide ((aB (u+L))<=(aB (f+J)))))&&(decide (j<=G)))&&(decide ((aB (G+O))<=(aB (j+I)))))
def Ab (a0 a1:Int):Bool:=((rZ a0 1 60)&&(rZ a1 0 2))
def Ff (O L:ByteArray) (J I j f:Int) (G u:List aA) (a1:Int):Int×Int×Int×Int×Bool:=(a1,a1,aB (j-(aB (2*a1))),aB (f-(aB (2*a1))),(lF a1 a1 (aB (j-(aB (2*a1)))) (aB (f-(aB (2*a1))))))
def Ii:CnT:=cnL [(0,⟨[2,5,6,7],[],[],[],[]⟩)]
abbrev bCn:=Bool->List aA->Int->Int->Prop
def aFA (a0:List aA) (Q:Bool->Prop) (f:bCn):Prop:=f false a0 (a0.length:Int) 0
def aEz (G L J:bCn):bCn:=fun I j u f=>cond (decide (f<u)) ((let e0:=(j.getD f.toNat default);((0<=f/\f<j.length)/\cond (!(lF e0.X e0.Y e0.W e0.H)) (L false j u f) (G I j u (aB (f+1)))))) (J I j u f)
def aVp (Q:Bool->Prop):bCn:=fun f G u j=>Q f
def aVo (Q:Bool->Prop):bCn:=fun G u j f=>Q true
def Jn (F:Nat) (j f:bCn):Nat->bCn
 |0=>fun _ _ _ _=>False
 |n+1=>aEz (Jn F j f n) j f
def yp (F:Nat) (Q:Bool->Prop):bCn:=fun G u j f=>Jn F (aVp Q) (aVo Q) F G u j f
def aKk (F:Nat) (a0:List aA) (Q:Bool->Prop):Prop:=aFA a0 Q (yp F Q)
theorem nR {α:Type} [Inhabited α] (l:List α) (i:Nat) (h:i<l.length):l.drop i=l.getD i default::l.drop (i+1):=by
 rw[List.drop_eq_getElem_cons h];simp[h]
theorem cN {n:Int} (j: -9223372036854775808<=n) (f:n<=9223372036854775807):aB n=n:=wrapped j f
theorem dX {i n:Nat} (h:i<n) (f:n<=1000000000):aB ((i:Int)+1)=((i+1:Nat):Int):=by
 rw[cN KI KI];rfl
theorem dD {p:Prop} [Decidable p] (h:p):decide p=true:=JA h
theorem dB {p:Prop} [Decidable p] (h:¬p):decide p=false:=JC h
theorem bBU {α:Type} [Inhabited α] (l:List α) (p:α->Bool) (O:l.length<=2000000) (W:Nat->Int->Prop) (X Y:Int->Prop)
  (I:∀n i,W (n+1) i=cond (decide (i<(l.length:Int))) ((0<=i/\i<(l.length:Int))/\cond (!(p (l.getD i.toNat default))) (X i) (W n (aB (i+1)))) (Y i)):∀(n i:Nat),i<=l.length->l.length<n+i->
  ((l.drop i).all p=false->∀j,X j)->((l.drop i).all p=true->Y l.length)->W n i:=by
 intro n
 induction n with
 |zero=>intro i L J;omega
 |succ n G=>
  intro i L J f u;rw[I]
  by_cases h:i<l.length
  ·rw[dD (show (i:Int)<l.length by omega),QY];refine⟨⟨KI,KI⟩,?_⟩;rw[nR l i h,List.all_cons] at f u;rw[QZ,dX h KI];cases hp:p (l.getD i default) with
   |false=>
    rw[hp] at f;exact f rfl _
   |true=>
    rw[hp,Bool.true_and] at f u;exact G (i+1) KI KI f u
  ·have e:i=l.length:=KI;subst e;rw[dB KI,QK];exact u (by rw[KK];rfl)
theorem Ia {α:Type} [Inhabited α] (l:List α) (p:α->Bool) (u:l.length<=2000000) (W:Nat->Int->Prop) (X Y:Int->Prop)
  (f:∀n i,W (n+1) i=cond (decide (i<(l.length:Int))) ((0<=i/\i<(l.length:Int))/\cond (!(p (l.getD i.toNat default))) (X i) (W n (aB (i+1)))) (Y i)) (n:Nat) (J:l.length<n)
  (I:l.all p=false->∀j,X j) (G:l.all p=true->Y l.length):W n 0:=
 bBU l p u W X Y f n 0 KI KI I G
def iV (r:aA):Bool:=lF r.X r.Y r.W r.H
def Aq (l:List aA):Prop:=l.length<=2000000
def kF (l:List aA):Bool:=l.all iV
theorem aRF (a0:List aA) (h:Aq a0):∃F,∀Q:Bool->Prop,Q (kF a0)->aKk F a0 Q:=by
 refine⟨a0.length+1,fun Q f=>?_⟩;show Jn _ _ _ (a0.length+1) false a0 a0.length 0;refine Ia a0 iV h (fun n i=>Jn (a0.length+1) _ _ n false a0 a0.length i) _ _ (fun n i=>rfl) (a0.length+1) KI (fun q j=>?_) (fun q=>?_)
 ·unfold kF at f;rw[q] at f;exact f
 ·unfold kF at f;rw[q] at f;exact f
def zY:CnT:=cnL [(1,⟨[2,3,70,71,72],[3],[],[],[]⟩),(3,⟨[2,3,70,71,72,76,77,78],[3],[],[],[]⟩)]
abbrev bCA:=Int->List (List aA)->Int->Int->Int->Int->Int->Int->Prop
def gp (S O:ByteArray) (L J I G:Int) (f j:List aA) (Q:Int->Prop) (V:bCA):Prop:=cond ((!(vn S))||(!(vn O))) (Q 2) (cond (((!(Ab L J))||(!(rZ I 1 1048576)))||(!(rZ G 1 1048576))) (Q 1) (cond ((decide (4<(f.length:Int)))||(decide (48<(j.length:Int)))) (Q 4) ((((Aq f)/\((!(kF f))=false->Aq j))/\cond ((!(kF f))||(!(kF j))) (Q 1) ((let u:=(Ff S O L J I G f j 0);V 0 ([f,j]) (([f,j]).length:Int) 0 u.1 u.2.1 u.2.2.1 u.2.2.2.1))))))
abbrev bCP:=Int->List (List aA)->Int->Int->List aA->Int->Int->Int->Int->Int->Int->Prop
def aFy (Z S x1:bCA) (G:Int) (j:List (List aA)) (u f L O J I:Int) (V:bCP):Prop:=cond (decide (f<u)) ((let e0:=(j.getD f.toNat default);((0<=f/\f<j.length)/\V G j u f e0 (e0.length:Int) 0 L O J I))) (S G j u f L O J I)
def aWH (Q:Int->Prop):bCA:=fun G u j f L O J I=>Q 0
def aWG (Q:Int->Prop):bCA:=fun f G u j L O J I=>Q f
def aFx (Z x0 x1:bCP):bCP:=fun t2 J I G j u f S V O L=>cond (decide (f<u)) ((let e0:=(j.getD f.toNat default);((0<=f/\f<j.length)/\(let r1:=(tR e0.X e0.Y e0.W e0.H S V O L);cond (!r1) (x0 13 J I G j u f S V O L) (Z t2 J I G j u (aB (f+1)) S V O L))))) (x1 t2 J I G j u f S V O L)
def aWF (rec x0 G:bCA):bCP:=fun I u j f t76 Z V O S L J=>G I u j f O S L J
def aWE (G x0 x1:bCA):bCP:=fun I u j f t76 Z V O S L J=>G I u j (aB (f+1)) O S L J
def Kb (F:Nat) (j f:bCP):Nat->bCP
 |0=>fun _ _ _ _ _ _ _ _ _ _ _=>False
 |n+1=>aFx (Kb F j f n) j f
def zb (F:Nat) (f S O:bCA):bCP:=fun V L J I G u j dF dE dK Z=>Kb F (aWF f S O) (aWE f S O) F V L J I G u j dF dE dK Z
def Er (F:Nat) (j f:bCA):Nat->bCA
 |0,_,_,_,_,_,_,_,_=>False
 |n+1,J,I,G,u,S,V,O,L=>aFy (Er F j f n) j f J I G u S V O L (zb F (Er F j f n) j f)
def zc (F:Nat) (Q:Int->Prop):bCA:=fun G u j f L O J I=>Er F (aWH Q) (aWG Q) F G u j f L O J I
def pv (F:Nat) (O L:ByteArray) (J I G u:Int) (j f:List aA) (Q:Int->Prop):Prop:=gp O L J I G u j f Q (zc F Q)
def Od (w h:Int) (r:aA):Bool:=tR r.X r.Y r.W r.H 0 0 (aB (w-aB (2*0))) (aB (h-aB (2*0)))
def jX (nm mt:ByteArray) (g gr w h:Int) (cl us:List aA):Int:=
 cond ((!(vn nm))||(!(vn mt))) 2 (cond (((!(Ab g gr))||(!(rZ w 1 1048576)))||(!(rZ h 1 1048576))) 1 (cond ((decide (4<(cl.length:Int)))||(decide (48<(us.length:Int)))) 4
  (cond ((!(kF cl))||(!(kF us))) 1 (cond (cl.all (Od w h)&&us.all (Od w h)) 0 13))))
theorem aBc (F:Nat) (J I:bCP) (L u f w h:Int) (G:List (List aA)) (l:List aA) (S:l.length<=2000000) (n:Nat) (O:l.length<n)
  (Z:l.all (Od w h)=false->∀j,J 13 G u f l l.length j 0 0 (aB (w-aB (2*0))) (aB (h-aB (2*0)))) (V:l.all (Od w h)=true->I L G u f l l.length l.length 0 0 (aB (w-aB (2*0))) (aB (h-aB (2*0)))):
  Kb F J I n L G u f l l.length 0 0 0 (aB (w-aB (2*0))) (aB (h-aB (2*0))):=
 Ia l (Od w h) S (fun n i=>Kb F J I n L G u f l l.length i 0 0 (aB (w-aB (2*0))) (aB (h-aB (2*0)))) _ _ (fun n i=>rfl) n O Z V
theorem aRX (V S:ByteArray) (O L J I:Int) (G u:List aA):
  ∃F,∀Q:Int->Prop,Q (jX V S O L J I G u)->pv F V S O L J I G u Q:=by
 refine⟨60,fun Q f=>?_⟩;unfold pv gp;unfold jX at f;cases h1:((!(vn V))||(!(vn S))) with
 |true=>
  rw[h1] at f;exact f
 |false=>
 rw[h1] at f;simp only[QK] at f ⊢;cases h2:(((!(Ab O L))||(!(rZ J 1 1048576)))||(!(rZ I 1 1048576))) with
 |true=>
  rw[h2] at f;exact f
 |false=>
 rw[h2] at f;simp only[QK] at f ⊢;cases Z:((decide (4<(G.length:Int)))||(decide (48<(u.length:Int)))) with
 |true=>
  rw[Z] at f;exact f
 |false=>
 rw[Z] at f;simp only[QK] at f ⊢;simp only[JG,JS] at Z;have hc:G.length<=4:=KI;have hu:u.length<=48:=KI;refine⟨⟨show _<=2000000 by omega,fun _=>show _<=2000000 by omega⟩,?_⟩;cases h4:((!(kF G))||(!(kF u))) with
 |true=>
  rw[h4] at f;exact f
 |false=>
 rw[h4] at f;simp only[QK] at f ⊢;show Er 60 _ _ 60 0 [G,u] 2 0 0 0 (aB (J-aB (2*0))) (aB (I-aB (2*0)));refine⟨show 0<=(0:Int)/\(0:Int)<2 by decide,?_⟩;refine aBc 60 _ _ 0 2 0 J I _ G KI 60 KI (fun q j=>?_) (fun q=>?_)
 ·rw[q] at f;exact f
 ·rw[q,Bool.true_and] at f;show Er 60 _ _ 59 0 [G,u] 2 (aB (0+1)) 0 0 (aB (J-aB (2*0))) (aB (I-aB (2*0)));refine⟨show 0<=aB (0+1)/\aB (0+1)<2 by decide,?_⟩;refine aBc 60 _ _ 0 2 (aB (0+1)) J I _ u KI 60 KI (fun q j=>?_) (fun q=>?_)
  ·rw[q] at f;exact f
  ·rw[q] at f;exact f
def Ir:CnT:=cnL [(0,⟨[2,15,16,17],[],[(.tmp 15,28,.int)],[],[]⟩)]
abbrev bCo:=Bool->Int->Int->zzI->Prop
def aFl (O G I j u f:Int) (Q:Bool->Prop) (L:bCo):Prop:=(let J:=(([G,I,j,u,f]).length:Int);L false J 0 ([G,I,j,u,f]))
def aFk (G L J:bCo):bCo:=fun I j f u=>cond (decide (f<j)) (((0<=f/\f<u.length)/\cond ((decide ((u.getD f.toNat default)<(-1048576)))||(decide (1048576<(u.getD f.toNat default)))) (L false j f u) (G I j (aB (f+1)) u))) (J I j f u)
def aFn (Q:Bool->Prop):bCo:=fun f u j G=>Q f
def aFm (Q:Bool->Prop):bCo:=fun u j f G=>Q true
def Jx (F:Nat) (j f:bCo):Nat->bCo
 |0=>fun _ _ _ _=>False
 |n+1=>aFk (Jx F j f n) j f
def yv (F:Nat) (Q:Bool->Prop):bCo:=fun u j f G=>Jx F (aFn Q) (aFm Q) F u j f G
def aKv (F:Nat) (f I J u G j:Int) (Q:Bool->Prop):Prop:=aFl f I J u G j Q (yv F Q)
def same {α:Type} (a b:α):Bool:=@decide (a=b) (Classical.propDecidable _)
def qJ (a b:Seg):Bool:=cond (a.Y1==a.Y2) (((b.Y1==b.Y2)&&(a.Y1==b.Y1))&&(decide (b.X1<=a.X2))) (((b.X1==b.X2)&&(a.X1==b.X1))&&(decide (b.Y1<=a.Y2)))
def qI (a b:Seg):Seg:=Seg.mk a.X1 a.Y1 (ma a.X2 b.X2) (ma a.Y2 b.Y2)
def zl (x:Seg):List Seg->List Seg
 |[]=>[x]
 |y::r=>bif qJ y x then qI y x::r else x::y::r
def nI (l:List Seg) (x:Seg):List Seg:=(zl x l.reverse).reverse
theorem zj (a:List Seg) (y x:Seg):nI (a++[y]) x=bif qJ y x then a++[qI y x] else a++[y,x]:=by
 unfold nI;rw[List.reverse_append];show (bif qJ y x then qI y x::a.reverse else x::y::a.reverse).reverse=_;cases qJ y x
 ·show (x::y::a.reverse).reverse=a++[y,x];simp
 ·show (qI y x::a.reverse).reverse=a++[qI y x];simp
theorem aEt {α:Type} [Inhabited α] (a:List α) (x:α) (b:List α):(a++x::b).getD a.length default=x:=by simp[List.getD_eq_getElem?_getD]
theorem tt {α:Type} (a:List α) (x y:α) (b:List α):(a++x::b).set a.length y=a++y::b:=XQ
theorem aLP {i:Nat} (h:0<i) (f:i<=1000000000):aB ((i:Int)-1)=((i-1:Nat):Int):=by
 rw[cN KI KI];omega
def inR (n:Int):Bool:=!((decide (n<(-1048576)))||(decide (1048576<n)))
def vA (k x y w h n:Int):Bool:=[x,y,w,h,n].all inR
theorem aRU (O I J u G f:Int):∃F,∀Q:Bool->Prop,Q (vA O I J u G f)->aKv F O I J u G f Q:=by
 refine⟨6,fun Q L=>?_⟩;unfold vA at L;show Jx 6 _ _ 6 false 5 0 [I,J,u,G,f];refine Ia [I,J,u,G,f] inR XQ (fun n i=>Jx 6 _ _ n false 5 i [I,J,u,G,f]) (fun j=>aFn Q false 5 j [I,J,u,G,f]) (fun j=>aFm Q false 5 j [I,J,u,G,f]) (fun n i=>?_) 6 XQ (fun q j=>?_) (fun q=>?_)
 ·show cond _ _ _=cond _ _ _;unfold inR;rw[Bool.not_not];rfl
 ·rw[q] at L;exact L
 ·rw[q] at L;exact L
def N1 (O L J I G u j f:Int):Bool:=(Fc G u j f O L J I)
def Jb:CnT:=cnL [(0,⟨[0,1,4,7,8],[],[],[],[]⟩)]
abbrev bC0:=List aA->Int->Int->Int->Int->Int->Int->Int->Prop
def aGb (l:List aA) (G u j f:Int) (Q:Int->Prop) (I:bC0):Prop:=I l G u j f 0 (l.length:Int) 0
def aGa (O Z V:bC0):bC0:=fun j L G I J S u f=>cond (decide (f<u)) ((let e0:=(j.getD f.toNat default);(let r1:=(N1 e0.X e0.Y e0.W e0.H L G I J);((0<=f/\f<j.length)/\cond r1 (Z j L G I J f u f) (O j L G I J S u (aB (f+1))))))) (V j L G I J S u f)
def jd (Q:Int->Prop):bC0:=fun G O I J L f u j=>Q f
def jc (Q:Int->Prop):bC0:=fun G O I J L u j f=>Q (-1)
def Ki (F:Nat) (j f:bC0):Nat->bC0
 |0=>fun _ _ _ _ _ _ _ _=>False
 |n+1=>aGa (Ki F j f n) j f
def zf (F:Nat) (Q:Int->Prop):bC0:=fun G O I J L u j f=>Ki F (jd Q) (jc Q) F G O I J L u j f
def aLK (F:Nat) (l:List aA) (G u j f:Int) (Q:Int->Prop):Prop:=aGb l G u j f Q (zf F Q)
def pJ {α:Type} (p:α->Bool):List α->Int->Int
 |[],_=> -1
 |x::r,i=>bif p x then i else pJ p r (i+1)
theorem Oi {α:Type} (p:α->Bool):∀(l:List α) (i:Int),0<=i->(decide (0<=pJ p l i))=l.any p
 |[],i,h=>rfl
 |x::r,i,h=>by
  unfold pJ;rw[List.any_cons];cases p x
  ·exact Oi p r (i+1) KI
  ·exact dD h
theorem Xz {α:Type} [Inhabited α] (l:List α) (p:α->Bool) (J:l.length<=2000000) (Q:Int->Prop) (W:Nat->Int->Prop) (u:∀n i,W (n+1) i=cond (decide (i<(l.length:Int))) ((0<=i/\i<(l.length:Int))/\cond (p (l.getD i.toNat default)) (Q i) (W n (aB (i+1)))) (Q (-1))):
  ∀(n i:Nat),i<=l.length->l.length<n+i->Q (pJ p (l.drop i) i)->W n i:=by
 intro n
 induction n with
 |zero=>intro i I G;omega
 |succ n j=>
  intro i I G f;rw[u]
  by_cases h:i<l.length
  ·rw[dD (show (i:Int)<l.length by omega),QY];refine⟨⟨KI,KI⟩,?_⟩;rw[nR l i h] at f;unfold pJ at f;rw[QZ,dX h KI];cases hp:p (l.getD i default) with
   |true=>
    rw[hp] at f;exact f
   |false=>
    rw[hp] at f;exact j (i+1) KI KI f
  ·have e:i=l.length:=KI;subst e;rw[dB KI,QK];rw[KK] at f;exact f
def w6 (a b c d:Int) (r:aA):Bool:=N1 r.X r.Y r.W r.H a b c d
def Vd (l:List aA) (a b c d:Int):Prop:=l.length<=2000000
def Tv (l:List aA) (a b c d:Int):Int:=pJ (w6 a b c d) l 0
theorem aRb (l:List aA) (G u j f:Int) (h:Vd l G u j f):∃F,∀Q:Int->Prop,Q (Tv l G u j f)->aLK F l G u j f Q:=by
 refine⟨l.length+1,fun Q L=>?_⟩;have J:∀(n i:Nat) (I:Int),i<=l.length->l.length<n+i->Q (pJ (w6 G u j f) (l.drop i) i)->Ki (l.length+1) (jd Q) (jc Q) n l G u j f I l.length i:=
  fun n i I=>Xz l (w6 G u j f) h Q (fun n i=>Ki (l.length+1) (jd Q) (jc Q) n l G u j f I l.length i) (fun n i=>rfl) n i
 exact J (l.length+1) 0 0 KI KI L
def lP (s:Seg):Prop:=((s.X1==s.X2)==(s.Y1==s.Y2))=false/\s.X1<=s.X2/\s.Y1<=s.Y2
def kK (l:List Seg):Prop:=∀s∈l,lP s
def As (l:List aA) (G u j f:Int):Prop:=(Vd l G u j f)
def vD (l:List aA) (G u j f:Int):Bool:=decide (0<=(Tv l G u j f))
def yM (x y z:Int):Int:=if x≠0 then x else if y≠0 then y else z
def rB (a b:Seg):Int:=
 if a.Y1=a.Y2/\¬b.Y1=b.Y2 then -1 else if b.Y1=b.Y2/\¬a.Y1=a.Y2 then 1 else
 if a.Y1=a.Y2 then yM (Lib.compareInt a.Y1 b.Y1) (Lib.compareInt a.X1 b.X1) (Lib.compareInt a.X2 b.X2)
 else yM (Lib.compareInt a.X1 b.X1) (Lib.compareInt a.Y1 b.Y1) (Lib.compareInt a.Y2 b.Y2)
theorem xq (a1 j u f I G:Int):yM (Lib.compareInt a1 j) (Lib.compareInt u f) (Lib.compareInt I G)<0↔(a1<j\/a1=j/\(u<f\/u=f/\I<G)):=by
 unfold yM Lib.compareInt
 by_cases O:a1<j
 ·simp[O]
 ·by_cases V:j<a1
  ·have:¬a1=j:=KI;simp[O,V,this]
  ·have e:a1=j:=KI;subst e
   by_cases L:u<f
   ·simp[L]
   ·by_cases S:f<u
    ·have:¬u=f:=KI;simp[L,S,this]
    ·have e:u=f:=KI;subst e
     by_cases J:I<G
     ·simp[J]
     ·by_cases h6:G<I
      ·simp[J,h6]
      ·simp[J,h6]
def ltS (a b:Seg):Prop:=(a.Y1=a.Y2/\¬b.Y1=b.Y2)\/(a.Y1=a.Y2/\b.Y1=b.Y2/\(a.Y1<b.Y1\/a.Y1=b.Y1/\(a.X1<b.X1\/a.X1=b.X1/\a.X2<b.X2)))\/
 (¬a.Y1=a.Y2/\¬b.Y1=b.Y2/\(a.X1<b.X1\/a.X1=b.X1/\(a.Y1<b.Y1\/a.Y1=b.Y1/\a.Y2<b.Y2)))
theorem aQf (a b:Seg):rB a b<0↔ltS a b:=by
 unfold rB ltS
 by_cases j:a.Y1=a.Y2<;>by_cases f:b.Y1=b.Y2
 ·simp only[j,f,true_and,not_true_eq_false,false_and,and_false,if_false,if_true,or_false,false_or];rw[xq]
 ·simp only[j,f,true_and,not_true_eq_false,not_false_eq_true,false_and,and_false,if_true,or_false,iff_true];decide
 ·simp only[j,f,true_and,not_true_eq_false,not_false_eq_true,false_and,and_false,if_false,if_true,or_false,iff_false];decide
 ·simp only[j,f,true_and,not_false_eq_true,false_and,and_false,if_false,false_or];rw[xq]
theorem aj (a b:Seg):ltOf rB a b=true↔ltS a b:=by
 unfold ltOf;rw[JN,aQf]
theorem Mp (a b:Seg):ltOf rB a b=false↔¬ltS a b:=by
 rw[<- aj,Bool.not_eq_true]
theorem xn:Go.Sort.SWO (ltOf rB) where
 irrefl x:=by rw[Mp];unfold ltS;omega
 trans x y z h1 h2:=by rw[aj] at*;unfold ltS at*;omega
 ntrans x y z h1 h2:=by rw[Mp] at*;unfold ltS at*;omega
def iX (l:List Seg):List Seg:=l.mergeSort (fun a b=>!(ltOf rB b a))
theorem yG (l:List Seg):(iX l).Perm l:=List.mergeSort_perm _ _
theorem wm (l:List Seg):(iX l).Pairwise (fun a b=>¬ltS b a):=by
 have h:(iX l).Pairwise (fun a b=>(!(ltOf rB b a))=true):=by
  refine List.pairwise_mergeSort ?_ ?_ _
  ·intro a b c f j;simp only[KH] at f j ⊢;exact xn.ntrans c b a j f
  ·intro a b;cases h:ltOf rB b a with
   |false=>simp
   |true=>
    have f:¬ltS a b:=by
     rw[aj] at h;unfold ltS at*;omega
    simp[(Mp a b).2 f]
 refine h.imp fun {a b} q=>?_
 rw[KH] at q;exact(Mp _ _).1 q
theorem Q9 (s:Seg):lP s↔(s.X1=s.X2↔¬s.Y1=s.Y2)/\s.X1<=s.X2/\s.Y1<=s.Y2:=by
 unfold lP
 by_cases j:s.X1=s.X2<;>by_cases f:s.Y1=s.Y2
 ·rw[KG.2 j,KG.2 f];simp[j,f]
 ·rw[KG.2 j,JL.2 f];simp[j,f]
 ·rw[JL.2 j,KG.2 f];simp[j,f]
 ·rw[JL.2 j,JL.2 f];simp[j,f]
theorem La {a b:Seg} (G:a.X1=b.X1) (u:a.Y1=b.Y1) (j:a.X2=b.X2) (f:a.Y2=b.Y2):a=b:=by
 cases a;cases b;cases G;cases u;cases j;cases f;rfl
theorem aTe {a b:Seg} (f:lP a) (hb:lP b) (u:¬ltS a b) (j:¬ltS b a):a=b:=by
 rw[Q9] at f hb;unfold ltS at u j;refine La ?_ ?_ ?_ ?_<;>omega
theorem aQF {l f:List Seg} (j:kK l) (hp:f.Perm l) (u:f.Pairwise (fun a b=>¬ltS b a)):f=iX l:=
 List.Perm.eq_of_pairwise (le:=fun a b=>¬ltS b a) (fun a b G hb J I=>aTe (j a (hp.mem_iff.1 G)) (j b ((yG l).mem_iff.1 hb)) I J) u (wm l) (hp.trans (yG l).symm)
theorem zz (a b:Int):a<=ma a b/\b<=ma a b/\(ma a b=a\/ma a b=b):=by
 unfold ma;split<;>omega
def joP (a b:Seg):Prop:=(a.Y1=a.Y2/\b.Y1=b.Y2/\a.Y1=b.Y1/\b.X1<=a.X2)\/(¬a.Y1=a.Y2/\b.X1=b.X2/\a.X1=b.X1/\b.Y1<=a.Y2)
theorem dr (a b:Seg):qJ a b=true↔joP a b:=by
 unfold qJ joP
 by_cases f:a.Y1=a.Y2
 ·have e1:(a.Y1==a.Y2)=true:=by simpa using f
  rw[e1];simp[f,and_assoc]
 ·have e1:(a.Y1==a.Y2)=false:=by simpa using f
  rw[e1];simp[f,and_assoc]
theorem aTn {z x:Seg} (u:lP z) (G:lP x) (h:joP z x):lP (qI z x):=by
 rw[Q9] at*;have j:=zz z.X2 x.X2;have f:=zz z.Y2 x.Y2;unfold joP at h;show (z.X1=ma z.X2 x.X2↔¬z.Y1=ma z.Y2 x.Y2)/\z.X1<=ma z.X2 x.X2/\z.Y1<=ma z.Y2 x.Y2;omega
theorem aTW {x:Seg} (j:lP x):∀{l:List Seg},kK l->kK (zl x l)
 |[],_=>fun s f=>by
  rw[JJ.1 f];exact j
 |z::r,h=>by
  show kK (bif qJ z x then qI z x::r else x::z::r);cases u:qJ z x with
  |false=>
   intro s f;rcases List.mem_cons.1 (show s∈x::z::r from f) with rfl|f
   ·exact j
   ·exact h s f
  |true=>
   intro s f;rcases List.mem_cons.1 (show s∈qI z x::r from f) with rfl|f
   ·exact aTn (h z XQ) j ((dr _ _).1 u)
   ·exact h s (by simp[f])
theorem zk {x:Seg} {l:List Seg} (j:lP x) (h:kK l):kK (nI l x):=by
 unfold nI;intro s f;exact aTW j (l:=l.reverse) (fun s f=>h s (List.mem_reverse.1 f)) s (List.mem_reverse.1 f)
theorem Ft {s:Seg} (h:lP s):(s.Y1=s.Y2/\s.X1<s.X2)\/(s.X1=s.X2/\s.Y1<s.Y2):=by
 rw[Q9] at h;omega
theorem aAA (a:Int):ma a a=a:=by unfold ma;split<;>rfl
theorem Nz {z x:Seg} (f:lP z) (u:x.Y1=x.Y2) (j:x.X1<x.X2):qJ z x=true↔z.Y1=z.Y2/\z.X1<z.X2/\z.Y1=x.Y1/\x.X1<=z.X2:=by
 rw[dr];unfold joP;rcases Ft f with ⟨a,b⟩|⟨a,b⟩
 ·constructor
  ·rintro (q|q)<;>omega
  ·intro q;left;omega
 ·constructor
  ·rintro (q|q)<;>omega
  ·intro q;omega
theorem Ny {z x:Seg} (f:lP z) (u:x.X1=x.X2) (j:x.Y1<x.Y2):qJ z x=true↔z.X1=z.X2/\z.Y1<z.Y2/\z.X1=x.X1/\x.Y1<=z.Y2:=by
 rw[dr];unfold joP;rcases Ft f with ⟨a,b⟩|⟨a,b⟩
 ·constructor
  ·rintro (q|q)<;>omega
  ·intro q;omega
 ·constructor
  ·rintro (q|q)<;>omega
  ·intro q;right;omega
def Io:CnT:=cnL [(0,⟨[4,13,14,15],[],[(.tmp 13,121,.seg),(.tmp 4,122,.seg)],[],[]⟩)]
abbrev bCf:=Int->Int->List Seg->List Seg->Prop
def aFc (a0:List Seg) (Q:List Seg->Prop) (f:bCf):Prop:=((a0.length<=2000000)/\((kK a0/\a0.length<=2000000)/\f ((iX a0).length:Int) 0 (iX a0) ([])))
def Ym (I x0:bCf):bCf:=fun G f u j=>cond (decide (f<G)) (((0<=f/\f<u.length)/\cond (decide (0<(j.length:Int))) (((0<=(aB ((j.length:Int)-1))/\(aB ((j.length:Int)-1))<j.length)/\cond (((u.getD f.toNat default).Y1)==((u.getD f.toNat default).Y2)) ((let v0:=(j.getD ((aB ((j.length:Int)-1)).toNat) default).Y1;(let v1:=(j.getD ((aB ((j.length:Int)-1)).toNat) default).Y2;cond (v0==v1) ((let v2:=(j.getD ((aB ((j.length:Int)-1)).toNat) default).Y1;cond (((u.getD f.toNat default).Y1)==v2) ((let v3:=(j.getD ((aB ((j.length:Int)-1)).toNat) default).X2;cond (decide (((u.getD f.toNat default).X1)<=v3)) ((let v4:=(j.getD ((aB ((j.length:Int)-1)).toNat) default).X2;I G (aB (f+1)) u (j.set ((aB ((j.length:Int)-1)).toNat) (Seg.mk ((j.getD ((aB ((j.length:Int)-1)).toNat) default).X1) ((j.getD ((aB ((j.length:Int)-1)).toNat) default).Y1) (ma v4 ((u.getD f.toNat default).X2)) ((j.getD ((aB ((j.length:Int)-1)).toNat) default).Y2))))) (cond (((u.getD f.toNat default).X1)==((u.getD f.toNat default).X2)) ((let v5:=(j.getD ((aB ((j.length:Int)-1)).toNat) default).X1;(let v6:=(j.getD ((aB ((j.length:Int)-1)).toNat) default).X2;cond (v5==v6) ((let v7:=(j.getD ((aB ((j.length:Int)-1)).toNat) default).X1;cond (((u.getD f.toNat default).X1)==v7) ((let v8:=(j.getD ((aB ((j.length:Int)-1)).toNat) default).Y2;cond (decide (((u.getD f.toNat default).Y1)<=v8)) ((let v9:=(j.getD ((aB ((j.length:Int)-1)).toNat) default).Y2;I G (aB (f+1)) u (j.set ((aB ((j.length:Int)-1)).toNat) (Seg.mk ((j.getD ((aB ((j.length:Int)-1)).toNat) default).X1) ((j.getD ((aB ((j.length:Int)-1)).toNat) default).Y1) ((j.getD ((aB ((j.length:Int)-1)).toNat) default).X2) (ma v9 ((u.getD f.toNat default).Y2)))))) ((((j.length+([(u.getD f.toNat default)]).length)*32<=140737488355328)/\I G (aB (f+1)) u (j++([(u.getD f.toNat default)])))))) ((((j.length+([(u.getD f.toNat default)]).length)*32<=140737488355328)/\I G (aB (f+1)) u (j++([(u.getD f.toNat default)])))))) ((((j.length+([(u.getD f.toNat default)]).length)*32<=140737488355328)/\I G (aB (f+1)) u (j++([(u.getD f.toNat default)]))))))) ((((j.length+([(u.getD f.toNat default)]).length)*32<=140737488355328)/\I G (aB (f+1)) u (j++([(u.getD f.toNat default)]))))))) (cond (((u.getD f.toNat default).X1)==((u.getD f.toNat default).X2)) ((let v10:=(j.getD ((aB ((j.length:Int)-1)).toNat) default).X1;(let v11:=(j.getD ((aB ((j.length:Int)-1)).toNat) default).X2;cond (v10==v11) ((let v12:=(j.getD ((aB ((j.length:Int)-1)).toNat) default).X1;cond (((u.getD f.toNat default).X1)==v12) ((let v13:=(j.getD ((aB ((j.length:Int)-1)).toNat) default).Y2;cond (decide (((u.getD f.toNat default).Y1)<=v13)) ((let v14:=(j.getD ((aB ((j.length:Int)-1)).toNat) default).Y2;I G (aB (f+1)) u (j.set ((aB ((j.length:Int)-1)).toNat) (Seg.mk ((j.getD ((aB ((j.length:Int)-1)).toNat) default).X1) ((j.getD ((aB ((j.length:Int)-1)).toNat) default).Y1) ((j.getD ((aB ((j.length:Int)-1)).toNat) default).X2) (ma v14 ((u.getD f.toNat default).Y2)))))) ((((j.length+([(u.getD f.toNat default)]).length)*32<=140737488355328)/\I G (aB (f+1)) u (j++([(u.getD f.toNat default)])))))) ((((j.length+([(u.getD f.toNat default)]).length)*32<=140737488355328)/\I G (aB (f+1)) u (j++([(u.getD f.toNat default)])))))) ((((j.length+([(u.getD f.toNat default)]).length)*32<=140737488355328)/\I G (aB (f+1)) u (j++([(u.getD f.toNat default)]))))))) ((((j.length+([(u.getD f.toNat default)]).length)*32<=140737488355328)/\I G (aB (f+1)) u (j++([(u.getD f.toNat default)]))))))) (cond (((u.getD f.toNat default).X1)==((u.getD f.toNat default).X2)) ((let v15:=(j.getD ((aB ((j.length:Int)-1)).toNat) default).X1;(let v16:=(j.getD ((aB ((j.length:Int)-1)).toNat) default).X2;cond (v15==v16) ((let v17:=(j.getD ((aB ((j.length:Int)-1)).toNat) default).X1;cond (((u.getD f.toNat default).X1)==v17) ((let v18:=(j.getD ((aB ((j.length:Int)-1)).toNat) default).Y2;cond (decide (((u.getD f.toNat default).Y1)<=v18)) ((let Z:=(j.getD ((aB ((j.length:Int)-1)).toNat) default).Y2;I G (aB (f+1)) u (j.set ((aB ((j.length:Int)-1)).toNat) (Seg.mk ((j.getD ((aB ((j.length:Int)-1)).toNat) default).X1) ((j.getD ((aB ((j.length:Int)-1)).toNat) default).Y1) ((j.getD ((aB ((j.length:Int)-1)).toNat) default).X2) (ma Z ((u.getD f.toNat default).Y2)))))) ((((j.length+([(u.getD f.toNat default)]).length)*32<=140737488355328)/\I G (aB (f+1)) u (j++([(u.getD f.toNat default)])))))) ((((j.length+([(u.getD f.toNat default)]).length)*32<=140737488355328)/\I G (aB (f+1)) u (j++([(u.getD f.toNat default)])))))) ((((j.length+([(u.getD f.toNat default)]).length)*32<=140737488355328)/\I G (aB (f+1)) u (j++([(u.getD f.toNat default)]))))))) ((((j.length+([(u.getD f.toNat default)]).length)*32<=140737488355328)/\I G (aB (f+1)) u (j++([(u.getD f.toNat default)])))))))) (cond (((u.getD f.toNat default).X1)==((u.getD f.toNat default).X2)) ((let V:=(j.getD ((aB ((j.length:Int)-1)).toNat) default).X1;(let S:=(j.getD ((aB ((j.length:Int)-1)).toNat) default).X2;cond (V==S) ((let O:=(j.getD ((aB ((j.length:Int)-1)).toNat) default).X1;cond (((u.getD f.toNat default).X1)==O) ((let L:=(j.getD ((aB ((j.length:Int)-1)).toNat) default).Y2;cond (decide (((u.getD f.toNat default).Y1)<=L)) ((let J:=(j.getD ((aB ((j.length:Int)-1)).toNat) default).Y2;I G (aB (f+1)) u (j.set ((aB ((j.length:Int)-1)).toNat) (Seg.mk ((j.getD ((aB ((j.length:Int)-1)).toNat) default).X1) ((j.getD ((aB ((j.length:Int)-1)).toNat) default).Y1) ((j.getD ((aB ((j.length:Int)-1)).toNat) default).X2) (ma J ((u.getD f.toNat default).Y2)))))) ((((j.length+([(u.getD f.toNat default)]).length)*32<=140737488355328)/\I G (aB (f+1)) u (j++([(u.getD f.toNat default)])))))) ((((j.length+([(u.getD f.toNat default)]).length)*32<=140737488355328)/\I G (aB (f+1)) u (j++([(u.getD f.toNat default)])))))) ((((j.length+([(u.getD f.toNat default)]).length)*32<=140737488355328)/\I G (aB (f+1)) u (j++([(u.getD f.toNat default)]))))))) ((((j.length+([(u.getD f.toNat default)]).length)*32<=140737488355328)/\I G (aB (f+1)) u (j++([(u.getD f.toNat default)]))))))) ((((j.length+([(u.getD f.toNat default)]).length)*32<=140737488355328)/\I G (aB (f+1)) u (j++([(u.getD f.toNat default)])))))) (x0 G f u j)
def aVz (Q:List Seg->Prop):bCf:=fun u j G f=>Q f
def o9 (F:Nat) (f:bCf):Nat->bCf
 |0=>fun _ _ _ _=>False
 |n+1=>Ym (o9 F f n) f
def yr (F:Nat) (Q:List Seg->Prop):bCf:=fun j f u G=>o9 F (aVz Q) F j f u G
def aKs (F:Nat) (a0:List Seg) (Q:List Seg->Prop):Prop:=aFc a0 Q (yr F Q)
def R3 (l:List Seg):Prop:=kK l/\l.length<=2000000
def nD (l:List Seg):List Seg:=(iX l).foldl nI []
theorem Ht {a b:Int} (h:a=b):(a==b)=true:=KG.2 h
theorem Hu {a b:Int} (h:¬a=b):(a==b)=false:=JL.2 h
theorem aTf (F:Nat) (Z:bCf) (l:List Seg) (hl:l.length<=2000000) (hp:kK l):∀(n i:Nat) (out:List Seg),i<=l.length->l.length<n+i->out.length<=i->kK out->Z l.length l.length l ((l.drop i).foldl nI out)->
  o9 F Z n l.length i l out:=by
 intro n
 induction n with
 |zero=>intro i out h1 h2;omega
 |succ n ih=>
  intro i out h1 h2 ho V G;show Ym _ _ _ _ _ _;unfold Ym
  by_cases h:i<l.length
  ·rw[dD (show (i:Int)<l.length by omega),QY,QZ,dX h KI];have S:lP (l.getD i default):=hp _ (by rw[List.getD_eq_getElem?_getD,JW h];exact QH h);rw[nR l i h,JY] at G;generalize l.getD i default=x at G S ⊢;refine⟨⟨KI,KI⟩,?_⟩;have j:kK (nI out x):=zk S V;rcases List.eq_nil_or_concat out with rfl|⟨a,y,rfl⟩
   ·rw[dB (by decide),QK];have app:(([]:List Seg).length+[x].length)*32<=140737488355328/\o9 F Z n l.length ((i+1:Nat):Int) l ([]++[x]):=
     ⟨XQ,ih (i+1) _ KI KI XQ j G⟩
    exact app
   ·rw[List.concat_eq_append] at ho G V j ⊢;have u:(a++[y]).length=a.length+1:=XQ;rw[u] at ho;have e0:aB (((a++[y]).length:Int)-1)=(a.length:Int):=by
     rw[aLP (by rw[u];omega) (by rw[u];omega),u];rfl
    rw[e0,dD (show (0:Int)<((a++[y]).length:Int) by rw[u];omega),QY];have g1:(a++[y]).getD (a.length:Int).toNat default=y:=by rw[QZ];exact aEt a y []
    have s1:∀z:Seg,(a++[y]).set (a.length:Int).toNat z=a++[z]:=fun z=>by rw[QZ];exact tt a y z []
    dsimp only;simp only[g1,s1];have f:lP y:=V y XQ;have hs:=zj a y x;refine⟨⟨KI,by rw[u];omega⟩,?_⟩;have app:qJ y x=false->((a++[y]).length+[x].length)*32<=140737488355328/\o9 F Z n l.length ((i+1:Nat):Int) l ((a++[y])++[x]):=fun hj=>by
     rw[hj] at hs;rw[hs] at G j;refine⟨by simp;omega,ih (i+1) _ KI KI (by simp;omega) ?_ ?_⟩
     ·simpa using j
     ·simpa using G
    have put:qJ y x=true->∀z,z=qI y x->o9 F Z n l.length ((i+1:Nat):Int) l (a++[z]):=fun hj z hz=>by
     rw[hj] at hs;rw[hs] at G j;subst hz;exact ih (i+1) _ KI KI (by simp;omega) j G
    rcases Ft S with ⟨e1,I⟩|⟨e1,I⟩
    ·rw[Ht e1,Hu (show ¬x.X1=x.X2 by omega)];simp only[QY,QK]
     by_cases O:y.Y1=y.Y2
     ·rw[Ht O,QY]
      by_cases L:x.Y1=y.Y1
      ·rw[Ht L,QY]
       by_cases J:x.X1<=y.X2
       ·rw[dD J,QY];refine put ((Nz f e1 I).2 ⟨O,by rcases Ft f with q|q<;>omega,L.symm,J⟩) _ (La rfl rfl rfl ?_)
        show y.Y2=ma y.Y2 x.Y2;rw[show x.Y2=y.Y2 by omega,aAA]
       ·rw[dB J,QK];exact app (JM.2 fun q=>J ((Nz f e1 I).1 q).2.2.2)
      ·rw[Hu L,QK];exact app (JM.2 fun q=>L ((Nz f e1 I).1 q).2.2.1.symm)
     ·rw[Hu O,QK];exact app (JM.2 fun q=>O ((Nz f e1 I).1 q).1)
    ·rw[Ht e1,Hu (show ¬x.Y1=x.Y2 by omega)];simp only[QY,QK]
     by_cases O:y.X1=y.X2
     ·rw[Ht O,QY]
      by_cases L:x.X1=y.X1
      ·rw[Ht L,QY]
       by_cases J:x.Y1<=y.Y2
       ·rw[dD J,QY];refine put ((Ny f e1 I).2 ⟨O,by rcases Ft f with q|q<;>omega,L.symm,J⟩) _ (La rfl rfl ?_ rfl)
        show y.X2=ma y.X2 x.X2;rw[show x.X2=y.X2 by omega,aAA]
       ·rw[dB J,QK];exact app (JM.2 fun q=>J ((Ny f e1 I).1 q).2.2.2)
      ·rw[Hu L,QK];exact app (JM.2 fun q=>L ((Ny f e1 I).1 q).2.2.1.symm)
     ·rw[Hu O,QK];exact app (JM.2 fun q=>O ((Ny f e1 I).1 q).1)
  ·have e:i=l.length:=KI;subst e;rw[dB KI,QK];rw[KK] at G;exact G
theorem aRQ (a0:List Seg) (h:R3 a0):∃F,∀Q:List Seg->Prop,Q (nD a0)->aKs F a0 Q:=by
 refine⟨a0.length+1,fun Q u=>?_⟩;have f:(iX a0).length=a0.length:=(yG a0).length_eq;refine⟨h.2,h,?_⟩;refine aTf _ _ (iX a0) (by rw[f];exact h.2) (fun s j=>h.1 s ((yG a0).mem_iff.1 j)) _ 0 [] KI (by rw[f];omega) XQ (fun s j=>by cases j) ?_;show Q (((iX a0).drop 0).foldl nI []);rw[List.drop_zero];exact u
def Iq:CnT:=cnL [(0,⟨[4,5,7,24,25,26],[4,23],[(.cell 23 11,50,.rect),(.cell 23 10,51,.seg)],[],[]⟩)]
abbrev bCk:=List Seg->List aA->Int->Prop
abbrev bCQ:=Int->List Opn->Int->Int->ByteArray->ByteArray->Int->Int->Int->Int->List aA->List aA->Int->Int->List aA->List Seg->Prop
def gd (S O:ByteArray) (L J I G:Int) (u j:List aA) (a1:List Opn) (Q:bCk) (V:bCQ):Prop:=(let f:=(jX S O L J I G u j);cond (f !=0) (Q ([]) ([]) f) (cond (decide (4000<(a1.length:Int))) (Q ([]) ([]) 4) (V 0 a1 (a1.length:Int) 0 S O L J I G u j 0 0 ([]) ([]))))
def Yn (rec x0 x1:bCQ):bCQ:=fun t5 j u f V Z jG jF O S G jE lL lK jA iJ=>cond (decide (f<u)) ((let e0:=(j.getD f.toNat default);((0<=f/\f<j.length)/\cond (e0.Kind==3) (cond (!(lF e0.X e0.Y e0.W e0.H)) (x0 16 j u f V Z jG jF O S G jE lL lK jA iJ) ((let r1:=(tR e0.X e0.Y e0.W e0.H 0 0 O S);cond (!r1) (x0 16 j u f V Z jG jF O S G jE lL lK jA iJ) ((((jA.length+([(aA.mk e0.X e0.Y e0.W e0.H)]).length)*32<=140737488355328)/\rec t5 j u (aB (f+1)) V Z jG jF O S G jE lL lK (jA++([(aA.mk e0.X e0.Y e0.W e0.H)])) iJ))))) (cond (e0.Kind==1) ((let r2:=(qA V Z jG jF O S G jE e0.X e0.Y);cond (!r2) (x0 16 j u f V Z jG jF O S G jE lL lK jA iJ) (cond (e0.Kind !=1) ((let L:=(iN lL lK e0.X e0.Y);(let r4:=(vD G L.1 L.2.1 L.2.2.1 L.2.2.2);((((L.1==L.2.2.1)==(L.2.1==L.2.2.2))=false->As G L.1 L.2.1 L.2.2.1 L.2.2.2)/\cond (((L.1==L.2.2.1)==(L.2.1==L.2.2.2))||r4) (x0 16 j u f V Z jG jF O S G jE lL lK jA iJ) ((((iJ.length+([(Seg.mk L.1 L.2.1 L.2.2.1 L.2.2.2)]).length)*32<=140737488355328)/\rec t5 j u (aB (f+1)) V Z jG jF O S G jE e0.X e0.Y jA (iJ++([(Seg.mk L.1 L.2.1 L.2.2.1 L.2.2.2)])))))))) (rec t5 j u (aB (f+1)) V Z jG jF O S G jE e0.X e0.Y jA iJ)))) (cond (e0.Kind==2) ((let r5:=(qA V Z jG jF O S G jE e0.X e0.Y);cond (!r5) (x0 16 j u f V Z jG jF O S G jE lL lK jA iJ) (cond (e0.Kind !=1) ((let J:=(iN lL lK e0.X e0.Y);(let r7:=(vD G J.1 J.2.1 J.2.2.1 J.2.2.2);((((J.1==J.2.2.1)==(J.2.1==J.2.2.2))=false->As G J.1 J.2.1 J.2.2.1 J.2.2.2)/\cond (((J.1==J.2.2.1)==(J.2.1==J.2.2.2))||r7) (x0 16 j u f V Z jG jF O S G jE lL lK jA iJ) ((((iJ.length+([(Seg.mk J.1 J.2.1 J.2.2.1 J.2.2.2)]).length)*32<=140737488355328)/\rec t5 j u (aB (f+1)) V Z jG jF O S G jE e0.X e0.Y jA (iJ++([(Seg.mk J.1 J.2.1 J.2.2.1 J.2.2.2)])))))))) (rec t5 j u (aB (f+1)) V Z jG jF O S G jE e0.X e0.Y jA iJ)))) (cond (e0.Kind==4) ((let r8:=(qA V Z jG jF O S G jE e0.X e0.Y);cond (!r8) (x0 16 j u f V Z jG jF O S G jE lL lK jA iJ) (cond (e0.Kind !=1) ((let I:=(iN lL lK e0.X e0.Y);(let r10:=(vD G I.1 I.2.1 I.2.2.1 I.2.2.2);((((I.1==I.2.2.1)==(I.2.1==I.2.2.2))=false->As G I.1 I.2.1 I.2.2.1 I.2.2.2)/\cond (((I.1==I.2.2.1)==(I.2.1==I.2.2.2))||r10) (x0 16 j u f V Z jG jF O S G jE lL lK jA iJ) ((((iJ.length+([(Seg.mk I.1 I.2.1 I.2.2.1 I.2.2.2)]).length)*32<=140737488355328)/\rec t5 j u (aB (f+1)) V Z jG jF O S G jE e0.X e0.Y jA (iJ++([(Seg.mk I.1 I.2.1 I.2.2.1 I.2.2.2)])))))))) (rec t5 j u (aB (f+1)) V Z jG jF O S G jE e0.X e0.Y jA iJ)))) (x0 16 j u f V Z jG jF O S G jE lL lK jA iJ))))))) (x1 t5 j u f V Z jG jF O S G jE lL lK jA iJ)
def aWD (Q:bCk):bCQ:=fun f G u j L O S V iU iT gM Z I J jA iJ=>Q ([]) ([]) f
def aWC (Q:bCk):bCQ:=fun J I G u S V Z jF iU iT gM jE L O f j=>((R3 j)/\((f.length<=2000000)/\Q (nD j) f 0))
def Jv (F:Nat) (j f:bCQ):Nat->bCQ
 |0=>fun _ _ _ _ _ _ _ _ _ _ _ _ _ _ _ _=>False
 |n+1=>Yn (Jv F j f n) j f
def yu (F:Nat) (Q:bCk):bCQ:=fun G u j f L O S V iU iT gM Z I J jA iJ=>Jv F (aWD Q) (aWC Q) F G u j f L O S V iU iT gM Z I J jA iJ
def pr (F:Nat) (O L:ByteArray) (J I G u:Int) (j f:List aA) (a1:List Opn) (Q:bCk):Prop:=gd O L J I G u j f a1 Q (yu F Q)
theorem Sz (a b c d:Int):lF a b c d=Aa a b c d:=by
 grind [cN,lF,Tx,N0,Aa,y9]
theorem aVC (a b c d x y w h:Int):tR a b c d x y w h=pC a b c d x y w h:=by
 grind [tR,pC,Sz]
def onB (w h x y:Int):Bool:=((((decide (0<=x))&&(decide (0<=y)))&&(decide (x<=w)))&&(decide (y<=h)))
theorem aM2 (nm mt:ByteArray) (g gr w h:Int) (cl us:List aA) (x y:Int):qA nm mt g gr w h cl us x y=onB w h x y:=by
 grind [qA,onB]
theorem aZJ (l:List aA) (a b c d:Int):vD l a b c d=l.any (w6 a b c d):=Oi (w6 a b c d) l 0 KI
theorem zo (a b:Int):mi a b<=ma a b:=by
 grind [mi,ma]
theorem zp (a b:Int):(mi a b==ma a b)=(a==b):=by
 grind [mi,ma]
abbrev CSt:=Int×Int×List Seg×List aA
def oX (x y a b:Int):Bool:=!((x==a)==(y==b))
def mD (x y a b:Int):Seg:=Seg.mk (mi x a) (mi y b) (ma x a) (ma y b)
def qU (s:Seg) (r:aA):Bool:=w6 s.X1 s.Y1 s.X2 s.Y2 r
def opC (w h:Int) (cl:List aA) (o:Opn) (s:CSt):Option CSt:=
 cond (o.Kind==3) (cond (pC o.X o.Y o.W o.H 0 0 w h) (some (s.1,s.2.1,s.2.2.1,s.2.2.2++[aA.mk o.X o.Y o.W o.H])) none)
  (cond ((((o.Kind==1)||(o.Kind==2))||(o.Kind==4))&&onB w h o.X o.Y)
   (cond (o.Kind==1) (some (o.X,o.Y,s.2.2.1,s.2.2.2))
    (cond (oX s.1 s.2.1 o.X o.Y&&!(cl.any (qU (mD s.1 s.2.1 o.X o.Y)))) (some (o.X,o.Y,s.2.2.1++[mD s.1 s.2.1 o.X o.Y],s.2.2.2)) none))
   none)
def gT (w h:Int) (cl:List aA):List Opn->CSt->Option CSt
 |[],s=>some s
 |o::r,s=>(opC w h cl o s).bind (gT w h cl r)
def Uh (w h:Int) (cl:List aA) (ops:List Opn):List Seg×List aA×Int:=
 match gT w h cl ops (0,0,[],[]) with
 |none=>([],[],16)
 |some s=>(nD s.2.2.1,s.2.2.2,0)
def iH (nm mt:ByteArray) (g gr w h:Int) (cl us:List aA) (ops:List Opn):List Seg×List aA×Int:=
 cond (jX nm mt g gr w h cl us !=0) ([],[],jX nm mt g gr w h cl us) (cond (decide (4000<(ops.length:Int))) ([],[],4) (Uh w h cl ops))
def Lt (nm mt:ByteArray) (g gr w h:Int) (cl us:List aA) (ops:List Opn):Prop:=True
theorem aQx (w h:Int) (cl:List aA) (o:Opn) (s t:CSt) (e:opC w h cl o s=some t) (G:kK s.2.2.1):kK t.2.2.1/\t.2.2.1.length<=s.2.2.1.length+1/\t.2.2.2.length<=s.2.2.2.length+1:=by
 obtain⟨x,y,ls,j⟩:=s;unfold opC at e;cases L:(o.Kind==3) with
 |true=>
  grind
 |false=>
  rw[L,QK] at e;cases J:((((o.Kind==1)||(o.Kind==2))||(o.Kind==4))&&onB w h o.X o.Y) with
  |false=>grind
  |true=>
   rw[J,QY] at e;cases I:(o.Kind==1) with
   |true=>
    grind
   |false=>
    rw[I,QK] at e;cases h6:(oX x y o.X o.Y&&!(cl.any (qU (mD x y o.X o.Y)))) with
    |false=> 
     grind
    |true=>
     have f:cond (oX x y o.X o.Y&&!(cl.any (qU (mD x y o.X o.Y)))) (some (o.X,o.Y,ls++[mD x y o.X o.Y],j)) none=some t:=e;rw[h6] at f;cases f;refine⟨fun z u=>?_,XQ,XQ⟩;rcases QO.1 u with q|q
     ·exact G z q
     ·rw[JJ.1 q];rw[QW] at h6;have h7:=h6.1;unfold oX at h7;refine⟨?_,zo _ _,zo _ _⟩;show ((mi x o.X==ma x o.X)==(mi y o.Y==ma y o.Y))=false;grind [zp]
theorem xr (w h:Int) (cl:List aA):∀(l:List Opn) (s t:CSt),gT w h cl l s=some t->kK s.2.2.1->kK t.2.2.1/\t.2.2.1.length<=s.2.2.1.length+l.length/\t.2.2.2.length<=s.2.2.2.length+l.length
 |[],s,t,e,f=>by
  cases e;grind
 |o::r,s,t,e,f=>by
  unfold gT at e;cases j:opC w h cl o s with
  |none=>grind
  |some u=>
   rw[j] at e;have G:=aQx w h cl o s u j f;have I:=xr w h cl r u t e G.1;grind
theorem aLc (cl:List aA) (x y a b:Int):((((iN x y a b).1==(iN x y a b).2.2.1)==((iN x y a b).2.1==(iN x y a b).2.2.2))||vD cl (iN x y a b).1 (iN x y a b).2.1 (iN x y a b).2.2.1 (iN x y a b).2.2.2)=!(oX x y a b&&!(cl.any (qU (mD x y a b)))):=by
 rw[aZJ];show (((mi x a==ma x a)==(mi y b==ma y b))||cl.any (w6 (mi x a) (mi y b) (ma x a) (ma y b)))=_;grind [zp,oX,qU,mD]
theorem aQw (w h:Int) (cl:List aA) (k j f u G I x y:Int) (ls:List Seg) (st:List aA) (L:(k==3)=false) (J:(k==1)=false) (O:(((k==1)||(k==2))||(k==4))=true):
  opC w h cl ⟨k,j,f,u,G,I⟩ (x,y,ls,st)=cond (onB w h j f) (cond (oX x y j f&&!(cl.any (qU (mD x y j f)))) (some (j,f,ls++[mD x y j f],st)) none) none:=by
 grind [opC]
theorem aQv (w h:Int) (cl:List aA) (j f u G I x y:Int) (ls:List Seg) (st:List aA):
  opC w h cl ⟨1,j,f,u,G,I⟩ (x,y,ls,st)=cond (onB w h j f) (some (j,f,ls,st)) none:=by
 rfl
theorem aQs (w h:Int) (cl:List aA) (j f u G I x y:Int) (ls:List Seg) (st:List aA):
  opC w h cl ⟨3,j,f,u,G,I⟩ (x,y,ls,st)=cond (pC j f u G 0 0 w h) (some (x,y,ls,st++[aA.mk j f u G])) none:=by
 rfl
theorem aQu (w h:Int) (cl:List aA) (k j f u G I:Int) (s:CSt) (J:(k==3)=false) (L:(((k==1)||(k==2))||(k==4))=false):
  opC w h cl ⟨k,j,f,u,G,I⟩ s=none:=by
 grind [opC]
theorem aTg (F:Nat) (O V:bCQ) (nm mt:ByteArray) (g gr w h:Int) (cl us:List aA) (hcl:cl.length<=2000000) (l:List Opn) (hl:l.length<=4000) (S:Int):
  ∀(n i:Nat) (x y:Int) (ls:List Seg) (st:List aA),i<=l.length->l.length<n+i->ls.length<=i->st.length<=i->
   (gT w h cl (l.drop i) (x,y,ls,st)=none->∀(j x y:Int) (ls:List Seg) (st:List aA),O 16 l l.length j nm mt g gr w h cl us x y st ls)->
   (∀(x' y':Int) (J:List Seg) (st':List aA),gT w h cl (l.drop i) (x,y,ls,st)=some (x',y',J,st')->V S l l.length l.length nm mt g gr w h cl us x' y' st' J)->
   Jv F O V n S l l.length i nm mt g gr w h cl us x y st ls:=by
 intro n
 induction n with
 |zero=>omega
 |succ n ih=>
  intro i x y ls st h1 h2 hls hst L I;show Yn _ _ _ S l l.length i nm mt g gr w h cl us x y st ls;unfold Yn
  by_cases hi:i<l.length
  ·rw[dD (show (i:Int)<l.length by omega),QY,QZ,dX hi KI];rw[nR l i hi] at L I;unfold gT at L I;generalize l.getD i default=o at L I ⊢;obtain⟨k,u,f,Z,oh,oN⟩:=o;dsimp only at L I ⊢;refine⟨⟨KI,KI⟩,?_⟩;rw[aM2,aVC,Sz,aLc];have hrec:∀(x y:Int) (J:List Seg) (st':List aA),opC w h cl ⟨k,u,f,Z,oh,oN⟩ (x,y,ls,st)=opC w h cl ⟨k,u,f,Z,oh,oN⟩ (x,y,ls,st):=fun _ _ _ _=>rfl
   by_cases k3:k=3
   ·grind [aQs,pC]
   ·have n3:(k==3)=false:=by grind
    rw[n3,QK]
    by_cases k1:k=1
    ·grind [aQv]
    ·have n1:(k==1)=false:=by grind
     have n1':(k !=1)=true:=by grind
     rw[n1,QK,n1']
     by_cases k24:k=2\/k=4
     ·have fJ:(((k==1)||(k==2))||(k==4))=true:=by
       grind
      rw[aQw w h cl k u f Z oh oN x y ls st n3 n1 fJ] at L I;have G:cond (!(onB w h u f)) (O 16 l l.length i nm mt g gr w h cl us x y st ls)
         (((((iN x y u f).1==(iN x y u f).2.2.1)==((iN x y u f).2.1==(iN x y u f).2.2.2))=false->As cl (iN x y u f).1 (iN x y u f).2.1 (iN x y u f).2.2.1 (iN x y u f).2.2.2)/\
        cond (!(oX x y u f&&!(cl.any (qU (mD x y u f))))) (O 16 l l.length i nm mt g gr w h cl us x y st ls) (((ls.length+([Seg.mk (iN x y u f).1 (iN x y u f).2.1 (iN x y u f).2.2.1 (iN x y u f).2.2.2]).length)*32<=140737488355328)/\Jv F O V n S l l.length ((i+1:Nat):Int) nm mt g gr w h cl us u f st (ls++[mD x y u f]))):=by
       cases hv:onB w h u f with
       |false=>
        grind
       |true=>
        rw[hv,QY] at L I;refine⟨fun _=>hcl,?_⟩;grind
      rcases k24 with rfl|rfl
      ·exact G
      ·exact G
     grind [aQu]
  ·have e:i=l.length:=KI;subst e;rw[dB KI,QK];rw[KK] at I;exact I _ _ _ _ rfl
theorem aRS (V S:ByteArray) (O L I G:Int) (u J:List aA) (a1:List Opn) (h:Lt V S O L I G u J a1):∃F,∀Q:List Seg->List aA->Int->Prop,Q ((iH V S O L I G u J a1).1) ((iH V S O L I G u J a1).2.1) ((iH V S O L I G u J a1).2.2)->pr F V S O L I G u J a1 Q:=by
 refine⟨4001,fun Q f=>?_⟩;unfold pr gd;unfold iH at f;dsimp only;cases h1:(jX V S O L I G u J !=0) with
 |true=>
  grind
 |false=>
 rw[h1] at f;simp only[QK] at f ⊢;have hcl:u.length<=4:=by
  grind [jX]
 by_cases h2:4000<(a1.length:Int)
 ·grind
 rw[dB h2] at f ⊢;simp only[QK] at f ⊢;unfold Uh at f;refine aTg 4001 _ _ V S O L I G u J KI a1 KI 0 4001 0 0 0 [] [] KI KI XQ XQ (fun q j x y ls Z=>?_) (fun x y ls Z q=>?_)
 ·rw[List.drop_zero] at q;rw[q] at f;exact f
 ·rw[List.drop_zero] at q;rw[q] at f;have hi:=xr I G u a1 _ _ q (by intro z hz;cases hz);have i2:ls.length<=0+a1.length:=hi.2.1;have i3:Z.length<=0+a1.length:=hi.2.2;refine⟨⟨hi.1,KI⟩,KI,?_⟩;exact f
def vQ (f J L G I O j u:Int):Prop:=(cond (f==3) (((([aB (J-j),aB (L-u)]).length+([G,I]).length)*8<=140737488355328)) (True))
def tN (f G I J L O j u:Int):(zzI):=cond (f==3) ((([aB (G-j),aB (I-u)])++([J,L]))) ([aB (G-j),aB (I-u)])
def Ly (f I J u G j L O:Int):Prop:=(vQ f I J u G j 0 0)
def Fe (f I J u G j L O:Int):(zzI):=(tN f I J u G j 0 0)
def c8:CnT:=cnL [(0,⟨[4,5,6,8,9,28,29,30],[6,8,9],[],[],[]⟩),(2,⟨[4,5,6,8,9,11,28,29,30,60,61,62],[6,8,9,11],[],[],[]⟩)]
abbrev bCF:=ByteArray->Int->List Opn->Int->Int->ByteArray->Int->Int->Prop
def jf (ops:List Opn) (Q:ByteArray->Int->Prop) (f:bCF):Prop:=cond (decide (4000<(ops.length:Int))) (Q (ByteArray.mk #[]) 4) (f (ByteArray.mk #[]) 0 ops (ops.length:Int) 0 ByteArray.empty 0 0)
abbrev bCB:=ByteArray->Int->List Opn->Int->Int->zzI->Int->Int->ByteArray->Int->Int->Int->Int->Int->Int->Int->Int->Prop
def aGh (rec Z V:bCF) (O:ByteArray) (L:Int) (j:List Opn) (u f:Int) (J:ByteArray) (I G:Int) (i1:bCB):Prop:=cond (decide (f<u)) ((let e0:=(j.getD f.toNat default);((0<=f/\f<j.length)/\(let r1:=(xU e0.Kind e0.X e0.Y e0.W e0.H e0.N);(let r2:=(vA e0.Kind e0.X e0.Y e0.W e0.H e0.N);cond (((!(kC [1,2,4,3] e0.Kind))||(!r1))||(!r2)) (Z (ByteArray.mk #[]) 16 j u f J I G) (((1<=(gI kW e0.Kind).size/\J.size+(gI kW e0.Kind).size<=140737488355328)/\(let S:=(Fe e0.Kind e0.X e0.Y e0.W e0.H e0.N I G);((Ly e0.Kind e0.X e0.Y e0.W e0.H e0.N I G)/\i1 O L j u f S (S.length:Int) 0 (J++(gI kW e0.Kind)) I G e0.Kind e0.X e0.Y e0.W e0.H e0.N))))))))) (V O L j u f J I G)
def aWZ (Q:ByteArray->Int->Prop):bCF:=fun j f I G u J O L=>Q j f
def aWY (Q:ByteArray->Int->Prop):bCF:=fun J I G u j f O L=>Q f 0
def aGg (O x0:bCB):bCB:=fun V S J I G j u f L aG aI iE iD iC iB iA Z=>cond (decide (f<u)) ((let e0:=(j.getD f.toNat default);((0<=f/\f<j.length)/\(((-9223372036854775808<=e0/\e0<=9223372036854775807)/\((((ByteArray.mk #[32]).size:Int)+(mL e0).size<=9223372036854775807)/\(1<=((ByteArray.mk #[32])++(mL e0)).size/\L.size+((ByteArray.mk #[32])++(mL e0)).size<=140737488355328)))/\O V S J I G j u (aB (f+1)) (L++((ByteArray.mk #[32])++(mL e0))) aG aI iE iD iC iB iA Z)))) (x0 V S J I G j u f L aG aI iE iD iC iB iA Z)
def aWX (G x0 x1:bCF):bCB:=fun O L u j f t60 t61 t62 J aG aI V Z iC iB iA S=>((1<=(ByteArray.mk #[10]).size/\J.size+(ByteArray.mk #[10]).size<=140737488355328)/\(let I:=(rY V Z iC iB iA S aG aI);G O L u j (aB (f+1)) (J++(ByteArray.mk #[10])) I.1 I.2))
def Sy (F:Nat) (f:bCB):Nat->bCB
 |0=>fun _ _ _ _ _ _ _ _ _ _ _ _ _ _ _ _ _=>False
 |n+1=>aGg (Sy F f n) f
def Y5 (F:Nat) (L S O:bCF):bCB:=fun Z V J I G u j f o8 aG aI iE iD iC iB iA nT=>Sy F (aWX L S O) F Z V J I G u j f o8 aG aI iE iD iC iB iA nT
def xH (F:Nat) (j f:bCF):Nat->bCF
 |0,_,_,_,_,_,_,_,_=>False
 |n+1,L,J,I,G,u,O,V,S=>aGh (xH F j f n) j f L J I G u O V S (Y5 F (xH F j f n) j f)
def zh (F:Nat) (Q:ByteArray->Int->Prop):bCF:=fun I G u j f J O L=>xH F (aWZ Q) (aWY Q) F I G u j f J O L
def rp (F:Nat) (ops:List Opn) (Q:ByteArray->Int->Prop):Prop:=jf ops Q (zh F Q)
def b7:CnT:=cnL [(0,⟨[4,5,6,8,9,28,29,30],[6,8,9],[],[],[]⟩),(2,⟨[4,5,6,8,9,11,28,29,30,60,61,62],[6,8,9,11],[],[],[]⟩)]
def je (ops:List Opn) (Q:ByteArray->Int->Prop) (f:bCF):Prop:=cond (decide (4000<(ops.length:Int))) (Q (ByteArray.mk #[]) 4) (f (ByteArray.mk #[]) 0 ops (ops.length:Int) 0 ByteArray.empty 0 0)
def aGf (rec Z V:bCF) (O:ByteArray) (L:Int) (j:List Opn) (u f:Int) (J:ByteArray) (I G:Int) (i1:bCB):Prop:=cond (decide (f<u)) ((let e0:=(j.getD f.toNat default);((0<=f/\f<j.length)/\(let r1:=(xU e0.Kind e0.X e0.Y e0.W e0.H e0.N);(let r2:=(vA e0.Kind e0.X e0.Y e0.W e0.H e0.N);cond (((!(kC [1,2,4,3] e0.Kind))||(!r1))||(!r2)) (Z (ByteArray.mk #[]) 16 j u f J I G) (((1<=(gI kV e0.Kind).size/\J.size+(gI kV e0.Kind).size<=140737488355328)/\(let S:=(tN e0.Kind e0.X e0.Y e0.W e0.H e0.N I G);((vQ e0.Kind e0.X e0.Y e0.W e0.H e0.N I G)/\i1 O L j u f S (S.length:Int) 0 (J++(gI kV e0.Kind)) I G e0.Kind e0.X e0.Y e0.W e0.H e0.N))))))))) (V O L j u f J I G)
def aWW (Q:ByteArray->Int->Prop):bCF:=fun j f I G u J O L=>Q j f
def aWV (Q:ByteArray->Int->Prop):bCF:=fun J I G u j f O L=>Q f 0
def aGe (O x0:bCB):bCB:=fun V S J I G j u f L aG aI iE iD iC iB iA Z=>cond (decide (f<u)) ((let e0:=(j.getD f.toNat default);((0<=f/\f<j.length)/\(((-9223372036854775808<=e0/\e0<=9223372036854775807)/\((((ByteArray.mk #[32]).size:Int)+(mL e0).size<=9223372036854775807)/\(1<=((ByteArray.mk #[32])++(mL e0)).size/\L.size+((ByteArray.mk #[32])++(mL e0)).size<=140737488355328)))/\O V S J I G j u (aB (f+1)) (L++((ByteArray.mk #[32])++(mL e0))) aG aI iE iD iC iB iA Z)))) (x0 V S J I G j u f L aG aI iE iD iC iB iA Z)
def aWU (G x0 x1:bCF):bCB:=fun O L u j f t60 t61 t62 J aG aI V Z iC iB iA S=>((1<=(ByteArray.mk #[10]).size/\J.size+(ByteArray.mk #[10]).size<=140737488355328)/\(let I:=(rY V Z iC iB iA S aG aI);G O L u j (aB (f+1)) (J++(ByteArray.mk #[10])) I.1 I.2))
def Sx (F:Nat) (f:bCB):Nat->bCB
 |0=>fun _ _ _ _ _ _ _ _ _ _ _ _ _ _ _ _ _=>False
 |n+1=>aGe (Sx F f n) f
def Y4 (F:Nat) (L S O:bCF):bCB:=fun Z V J I G u j f o8 aG aI iE iD iC iB iA nT=>Sx F (aWU L S O) F Z V J I G u j f o8 aG aI iE iD iC iB iA nT
def xG (F:Nat) (j f:bCF):Nat->bCF
 |0,_,_,_,_,_,_,_,_=>False
 |n+1,L,J,I,G,u,O,V,S=>aGf (xG F j f n) j f L J I G u O V S (Y4 F (xG F j f n) j f)
def zg (F:Nat) (Q:ByteArray->Int->Prop):bCF:=fun I G u j f J O L=>xG F (aWW Q) (aWV Q) F I G u j f J O L
def rn (F:Nat) (ops:List Opn) (Q:ByteArray->Int->Prop):Prop:=je ops Q (zg F Q)
def uX (b:ByteArray) (n:Int):ByteArray:=b++(ByteArray.mk #[32]++mL n)
def Ps (o:Opn):Bool:=xU o.Kind o.X o.Y o.W o.H o.N
def tX (o:Opn):Bool:=vA o.Kind o.X o.Y o.W o.H o.N
def gJ (o:Opn) (x y:Int):Int×Int:=rY o.Kind o.X o.Y o.W o.H o.N x y
def mP (f:zzI) (o:Opn):Bool:=((!(kC f o.Kind))||(!(Ps o)))||(!(tX o))
def pP (f:zzI) (wl:List (Int×ByteArray)) (wr:Opn->Int->Int->zzI):List Opn->ByteArray->Int->Int->ByteArray×Int
 |[],b,_,_=>(b,0)
 |o::l,b,x,y=>bif mP f o then (ByteArray.mk #[],16) else pP f wl wr l ((wr o x y).foldl uX (b++gI wl o.Kind)++ByteArray.mk #[10]) (gJ o x y).1 (gJ o x y).2
def nL (n:Int):Prop:= -9223372036854775808<=n/\n<=9223372036854775807
theorem aEe {n:Int} (h:nL n):(mL n).size<=21:=by
 have:=Lib.itoa_length_le n h.1 h.2;assumption
theorem td (n:Int):((ByteArray.mk #[32])++mL n).size=1+(mL n).size:=by
 rw[ByteArray.size_append];rfl
theorem aGx (l:zzI) (L:l.length<=1000) (G:∀n∈l,nL n) (V:Nat->Int->ByteArray->Prop) (X:Int->ByteArray->Prop)
  (u:∀n i b,V (n+1) i b=cond (decide (i<(l.length:Int))) ((0<=i/\i<l.length)/\(((-9223372036854775808<=l.getD i.toNat default/\l.getD i.toNat default<=9223372036854775807)/\((((ByteArray.mk #[32]).size:Int)+(mL (l.getD i.toNat default)).size<=9223372036854775807)/\(1<=((ByteArray.mk #[32])++(mL (l.getD i.toNat default))).size/\b.size+((ByteArray.mk #[32])++(mL (l.getD i.toNat default))).size<=140737488355328)))/\V n (aB (i+1)) (b++((ByteArray.mk #[32])++(mL (l.getD i.toNat default)))))) (X i b)):
  ∀(n i:Nat) (b:ByteArray),i<=l.length->l.length<n+i->b.size<=2000000+100*i->X l.length ((l.drop i).foldl uX b)->V n i b:=by
 intro n
 induction n with
 |zero=>omega
 |succ n j=>
  intro i b Z S hb f;rw[u]
  by_cases h:i<l.length
  ·rw[dD (show (i:Int)<l.length by omega),QY,QZ,dX h KI];rw[nR l i h,JY] at f;have he:nL (l.getD i default):=G _ (by grind);generalize l.getD i default=e at f he ⊢;have I:=aEe he;have J:=td e;have O:(ByteArray.mk #[32]).size=1:=rfl;refine⟨⟨KI,KI⟩,⟨he,KI,KI,KI⟩,?_⟩;refine j (i+1) _ KI KI ?_ f;grind
  grind
theorem Rm:∀(l:zzI) (b:ByteArray),(∀n∈l,nL n)->(l.foldl uX b).size<=b.size+22*l.length
 |[],b,_=>XQ
 |n::l,b,h=>by
  rw[JY];have f:=Rm l (uX b n) (fun m hm=>h m (by grind));grind [aEe,uX,td]
abbrev bCc:=Int->ByteArray->Int->Int->Prop
theorem aGw (G:zzI) (wl:List (Int×ByteArray)) (wr:Opn->Int->Int->zzI) (hw:∀k,kC G k=true->1<=(gI wl k).size/\(gI wl k).size<=10) (hn:∀o x y,tX o=true->(wr o x y).length<=4/\∀n∈wr o x y,nL n)
  (l:List Opn) (hl:l.length<=4000) (Q:ByteArray->Int->Prop) (X0 X1:bCc) (W:Nat->bCc) (I:Nat->Int->Opn->zzI->ByteArray->Int->Int->Prop)
  (hs:∀n i b x y,W (n+1) i b x y=cond (decide (i<(l.length:Int))) ((0<=i/\i<l.length)/\cond (mP G (l.getD i.toNat default)) (X0 i b x y) ((1<=(gI wl (l.getD i.toNat default).Kind).size/\b.size+(gI wl (l.getD i.toNat default).Kind).size<=140737488355328)/\I n i (l.getD i.toNat default) (wr (l.getD i.toNat default) x y) (b++gI wl (l.getD i.toNat default).Kind) x y)) (X1 i b x y))
  (hI:∀n i o f b x y,f.length<=4->(∀n∈f,nL n)->b.size<=1000000->W n (aB (i+1)) (f.foldl uX b++ByteArray.mk #[10]) (gJ o x y).1 (gJ o x y).2->I n i o f b x y)
  (hX0:∀i b x y,Q (ByteArray.mk #[]) 16->X0 i b x y) (J:∀i b x y,Q b 0->X1 i b x y):
  ∀(n i:Nat) (b:ByteArray) (x y:Int),i<=l.length->l.length<n+i->b.size<=200*i->Q (pP G wl wr (l.drop i) b x y).1 (pP G wl wr (l.drop i) b x y).2->W n i b x y:=by
 intro n
 induction n with
 |zero=>omega
 |succ n ih=>
  intro i b x y h1 h2 hb u;rw[hs]
  by_cases h:i<l.length
  ·rw[dD (show (i:Int)<l.length by omega),QY,QZ];rw[nR l i h] at u;generalize l.getD i default=o at u ⊢;refine⟨⟨KI,KI⟩,?_⟩;unfold pP at u;cases j:mP G o with
   |true=>
    grind
   |false=>
    rw[j,QK] at u;rw[QK];unfold mP at j;simp only[JG,Bool.not_eq_false'] at j;obtain⟨⟨Z,k2⟩,V⟩:=j;obtain⟨S,q2⟩:=hw _ Z;obtain⟨O,L⟩:=hn o x y V;have hbs:(b++gI wl o.Kind).size=b.size+(gI wl o.Kind).size:=ByteArray.size_append ..;refine⟨⟨S,KI⟩,hI _ _ _ _ _ _ _ O L KI ?_⟩;rw[dX h KI];refine ih (i+1) _ _ _ KI KI ?_ u;have Ou:(ByteArray.mk #[10]).size=1:=rfl;grind [Rm]
  ·have e:i=l.length:=KI;subst e;rw[dB KI,QK];rw[KK] at u;exact J _ _ _ _ u
theorem aVR {n:Int} (h:inR n=true):nL n:=by
 grind [inR,nL]
theorem aPF {o:Opn} (h:tX o=true):nL o.X/\nL o.Y/\nL o.W/\nL o.H/\nL o.N:=by
 grind [tX,vA,aVR]
theorem aLO (n:Int):nL (aB n):=by
 grind [IntKind.wrap,IntKind.bits,IntKind.signed,nL]
def o4 (o:Opn) (x y:Int):zzI:=Fe o.Kind o.X o.Y o.W o.H o.N x y
def uW (o:Opn) (x y:Int):zzI:=tN o.Kind o.X o.Y o.W o.H o.N x y
theorem pa (o:Opn) (x y:Int) (h:tX o=true):(uW o x y).length<=4/\∀n∈uW o x y,nL n:=by
 grind [aPF,uW,tN,aLO]
theorem aK7 (o:Opn) (x y:Int) (h:tX o=true):(o4 o x y).length<=4/\∀n∈o4 o x y,nL n:=pa o 0 0 h
theorem wo (k x y w h n a b:Int):vQ k x y w h n a b:=by
 grind [vQ]
theorem aEq {f:zzI} {k:Int} (h:kC f k=true):k∈f:=by
 induction f with
 |nil=>cases h
 |cons a l j=>
  grind [kC]
theorem aKc (k:Int) (h:kC [1,2,4,3] k=true):1<=(gI kW k).size/\(gI kW k).size<=10:=by
 have:=aEq h;simp only[List.mem_cons,List.not_mem_nil,or_false] at this;rcases this with rfl|rfl|rfl|rfl<;>decide
theorem aKb (k:Int) (h:kC [1,2,4,3] k=true):1<=(gI kV k).size/\(gI kV k).size<=10:=by
 have:=aEq h;simp only[List.mem_cons,List.not_mem_nil,or_false] at this;rcases this with rfl|rfl|rfl|rfl<;>decide
def R9 (ops:List Opn):Prop:=True
def qW (ops:List Opn):ByteArray×Int:=cond (decide (4000<(ops.length:Int))) (ByteArray.mk #[],4) (pP [1,2,4,3] kW o4 ops ByteArray.empty 0 0)
theorem aRe (ops:List Opn) (h:R9 ops):∃F,∀Q:ByteArray->Int->Prop,Q ((qW ops).1) ((qW ops).2)->rp F ops Q:=by
 refine⟨4001,fun Q hQ=>?_⟩;unfold qW at hQ;unfold rp jf
 by_cases hl:4000<(ops.length:Int)
 ·grind
 ·rw[dB hl] at hQ ⊢;simp only[QK] at hQ ⊢;show xH 4001 (fun L J I G u O V S=>Q L J) (fun L J I G u O V S=>Q O 0) 4001 (ByteArray.mk #[]) 0 ops (ops.length:Int) ((0:Nat):Int) ByteArray.empty 0 0;refine aGw [1,2,4,3] kW o4 aKc aK7 ops KI Q (fun i b x y=>Q (ByteArray.mk #[]) 16) (fun i b x y=>Q b 0) (fun n i b x y=>xH 4001 (fun L J I G u O V S=>Q L J) (fun L J I G u O V S=>Q O 0) n (ByteArray.mk #[]) 0 ops (ops.length:Int) i b x y)
   (fun n i o f b x y=>Ly o.Kind o.X o.Y o.W o.H o.N x y/\Y5 4001 (xH 4001 (fun L J I G u O V S=>Q L J) (fun L J I G u O V S=>Q O 0) n) (fun L J I G u O V S=>Q L J) (fun L J I G u O V S=>Q O 0) (ByteArray.mk #[]) 0 ops (ops.length:Int) i f (f.length:Int) 0 b x y o.Kind o.X o.Y o.W o.H o.N)
   (fun n i b x y=>rfl) (fun n i o f b x y h4 hr hb hW=>?_) (fun i b x y q=>q) (fun i b x y q=>q) 4001 0 ByteArray.empty 0 0 KI KI (by decide) ?_
  ·refine⟨wo _ _ _ _ _ _ _ _,?_⟩;refine aGx f KI hr (fun n' j Z=>Sy 4001 _ n' (ByteArray.mk #[]) 0 ops (ops.length:Int) i f (f.length:Int) j Z x y o.Kind o.X o.Y o.W o.H o.N) (fun j Z=>(1<=(ByteArray.mk #[10]).size/\Z.size+(ByteArray.mk #[10]).size<=140737488355328)/\xH 4001 (fun L J I G u O V S=>Q L J) (fun L J I G u O V S=>Q O 0) n (ByteArray.mk #[]) 0 ops (ops.length:Int) (aB (i+1)) (Z++ByteArray.mk #[10]) (gJ o x y).1 (gJ o x y).2) (fun n' j Z=>rfl) 4001 0 b KI KI KI ?_;have Ou:(ByteArray.mk #[10]).size=1:=rfl;grind [Rm]
  grind
def Vf (ops:List Opn):Prop:=True
def pD (ops:List Opn):ByteArray×Int:=cond (decide (4000<(ops.length:Int))) (ByteArray.mk #[],4) (pP [1,2,4,3] kV uW ops ByteArray.empty 0 0)
theorem aRd (ops:List Opn) (h:Vf ops):∃F,∀Q:ByteArray->Int->Prop,Q ((pD ops).1) ((pD ops).2)->rn F ops Q:=by
 refine⟨4001,fun Q hQ=>?_⟩;unfold pD at hQ;unfold rn je
 by_cases hl:4000<(ops.length:Int)
 ·grind
 ·rw[dB hl] at hQ ⊢;simp only[QK] at hQ ⊢;show xG 4001 (fun L J I G u O V S=>Q L J) (fun L J I G u O V S=>Q O 0) 4001 (ByteArray.mk #[]) 0 ops (ops.length:Int) ((0:Nat):Int) ByteArray.empty 0 0;refine aGw [1,2,4,3] kV uW aKb pa ops KI Q (fun i b x y=>Q (ByteArray.mk #[]) 16) (fun i b x y=>Q b 0) (fun n i b x y=>xG 4001 (fun L J I G u O V S=>Q L J) (fun L J I G u O V S=>Q O 0) n (ByteArray.mk #[]) 0 ops (ops.length:Int) i b x y)
   (fun n i o f b x y=>vQ o.Kind o.X o.Y o.W o.H o.N x y/\Y4 4001 (xG 4001 (fun L J I G u O V S=>Q L J) (fun L J I G u O V S=>Q O 0) n) (fun L J I G u O V S=>Q L J) (fun L J I G u O V S=>Q O 0) (ByteArray.mk #[]) 0 ops (ops.length:Int) i f (f.length:Int) 0 b x y o.Kind o.X o.Y o.W o.H o.N)
   (fun n i b x y=>rfl) (fun n i o f b x y h4 hr hb hW=>?_) (fun i b x y q=>q) (fun i b x y q=>q) 4001 0 ByteArray.empty 0 0 KI KI (by decide) ?_
  ·refine⟨wo _ _ _ _ _ _ _ _,?_⟩;refine aGx f KI hr (fun n' j Z=>Sx 4001 _ n' (ByteArray.mk #[]) 0 ops (ops.length:Int) i f (f.length:Int) j Z x y o.Kind o.X o.Y o.W o.H o.N) (fun j Z=>(1<=(ByteArray.mk #[10]).size/\Z.size+(ByteArray.mk #[10]).size<=140737488355328)/\xG 4001 (fun L J I G u O V S=>Q L J) (fun L J I G u O V S=>Q O 0) n (ByteArray.mk #[]) 0 ops (ops.length:Int) (aB (i+1)) (Z++ByteArray.mk #[10]) (gJ o x y).1 (gJ o x y).2) (fun n' j Z=>rfl) 4001 0 b KI KI KI ?_;have Ou:(ByteArray.mk #[10]).size=1:=rfl;grind [Rm]
  grind
def bBo:CnT:=cnL []
def aFB  (Q:Bool->Prop):Prop:=(let j:=(pD ([(Opn.mk 1 105 105 0 0 0),(Opn.mk 1 100 100 0 0 0),(Opn.mk 2 110 100 0 0 0)]));((Vf ([(Opn.mk 1 105 105 0 0 0),(Opn.mk 1 100 100 0 0 0),(Opn.mk 2 110 100 0 0 0)]))/\(let f:=(iH (ByteArray.mk #[115]) (ByteArray.mk #[115,116,101,101,108]) 1 0 9 9 ([]) ([]) ([(Opn.mk 2 4 0 0 0 0)]));((Lt (ByteArray.mk #[115]) (ByteArray.mk #[115,116,101,101,108]) 1 0 9 9 ([]) ([]) ([(Opn.mk 2 4 0 0 0 0)]))/\((((((j.2==0)&&(j.1==(ByteArray.mk #[109,32,49,48,53,32,49,48,53,10,109,32,45,53,32,45,53,10,108,32,49,48,32,48,10])))&&(f.2.2==0))&&((f.1.length:Int)==1))=true->0<=(0:Int)/\(0:Int)<f.1.length)/\Q (((((j.2==0)&&(j.1==(ByteArray.mk #[109,32,49,48,53,32,49,48,53,10,109,32,45,53,32,45,53,10,108,32,49,48,32,48,10])))&&(f.2.2==0))&&((f.1.length:Int)==1))&&((((f.1.getD 0 default).X1)==0)&&((((f.1.getD 0 default).Y1)==0)&&((((f.1.getD 0 default).X2)==4)&&((((f.1.getD 0 default).Y2)==0)&&true))))))))))
def pj (F:Nat)  (Q:Bool->Prop):Prop:=aFB  Q
def Tj:Bool:=true
theorem aUc:iH (ByteArray.mk #[115]) (ByteArray.mk #[115,116,101,101,108]) 1 0 9 9 ([]) ([]) ([(Opn.mk 2 4 0 0 0 0)])=([Seg.mk 0 0 4 0],[],0):=by
 have h:nD [Seg.mk 0 0 4 0]=[Seg.mk 0 0 4 0]:=by
  unfold nD iX;rw[List.mergeSort_singleton];rfl
 refine QG (b:=(nD [Seg.mk 0 0 4 0],[],0)) KA ?_;rw[h]
theorem aUd:pD ([(Opn.mk 1 105 105 0 0 0),(Opn.mk 1 100 100 0 0 0),(Opn.mk 2 110 100 0 0 0)])=(ByteArray.mk #[109,32,49,48,53,32,49,48,53,10,109,32,45,53,32,45,53,10,108,32,49,48,32,48,10],0):=by
 kernel_rfl
theorem aRG:∃F,∀Q:Bool->Prop,Q Tj->pj F  Q:=by
 refine⟨0,fun Q f=>?_⟩;unfold pj aFB;dsimp only;rw[aUc,aUd];exact⟨trivial,trivial,fun _=>by decide,f⟩
def Fb (qf Z:ByteArray) (V S O L:Int) (J I:List aA) (G u j f:Int):Bool:=cond ((!(qA qf Z V S O L J I G u))||(!(qA qf Z V S O L J I j f))) (false) ((((u==f)&&(decide (G<j)))||((G==j)&&(decide (u<f)))))
def Lz (a0 a1:Int):Prop:=(0<=(32:Int))/\(0<=(32:Int))/\(0<=(32:Int))/\(0<=(32:Int))/\(0<=(32:Int))
def qV (a0 a1:Int):Int×Int:=(IntKind.u64.wrap ((IntKind.u64.wrap ((IntKind.u64.wrap ((Int.fdiv a0 (2^(min 32 64)))*(Int.fdiv a1 (2^(min 32 64)))))+(Int.fdiv (IntKind.u64.wrap ((IntKind.u64.wrap ((Int.fdiv a0 (2^(min 32 64)))*(kO .u64 a1 4294967295)))+(Int.fdiv (IntKind.u64.wrap ((kO .u64 a0 4294967295)*(kO .u64 a1 4294967295))) (2^(min 32 64))))) (2^(min 32 64)))))+(Int.fdiv (IntKind.u64.wrap ((kO .u64 (IntKind.u64.wrap ((IntKind.u64.wrap ((Int.fdiv a0 (2^(min 32 64)))*(kO .u64 a1 4294967295)))+(Int.fdiv (IntKind.u64.wrap ((kO .u64 a0 4294967295)*(kO .u64 a1 4294967295))) (2^(min 32 64))))) 4294967295)+(IntKind.u64.wrap ((kO .u64 a0 4294967295)*(Int.fdiv a1 (2^(min 32 64))))))) (2^(min 32 64)))),IntKind.u64.wrap (a0*a1))
def Uz (a0 a1:Int):Prop:=(Lz a0 a1)
def tQ (a0 a1:Int):Int×Int:=((qV a0 a1).1,(qV a0 a1).2)
def Ty (a0:Int):Bool:=a0 !=a0
def N3 (a0 a1:Int):Bool:=(((Ty a0)&&(!(Ty a1)))||(decide (a0<a1)))
def To (a0:Int):Bool:=a0 !=a0
def Is:CnT:=cnL [(0,⟨[7,8],[],[(.tmp 7,48,.int)],[],[]⟩)]
def Yy (a0:zzI) (a1:Int) (Q:zzI->Prop) (u:Int->zzI->Prop):Prop:=cond (decide (a1<0)) (False) ((let f:=(tQ (IntKind.u64.wrap (a0.length:Int)) (IntKind.u64.wrap a1));((Uz (IntKind.u64.wrap (a0.length:Int)) (IntKind.u64.wrap a1))/\cond ((decide (0<f.1))||(decide (9223372036854775807<f.2))) (False) (((0<=(aB f.2)/\(aB f.2)=(aB f.2)/\(aB f.2)*8<=140737488355328)/\(let j:=(((min a0.length ((List.replicate ((aB f.2).toNat) (0:Int)).length-0)):Nat):Int);u j ((List.replicate ((aB f.2).toNat) (0:Int)).take 0++a0.take (min a0.length ((List.replicate ((aB f.2).toNat) (0:Int)).length-0))++(List.replicate ((aB f.2).toNat) (0:Int)).drop (0+(min a0.length ((List.replicate ((aB f.2).toNat) (0:Int)).length-0))))))))))
def Yx (u G:Int->zzI->Prop) (f:Int) (j:zzI):Prop:=cond (decide (f<(j.length:Int))) (((0<=f/\f<=j.length)/\((0<=f/\f<=j.length)/\(let I:=(((min ((j.take f.toNat).drop 0).length (j.length-f.toNat)):Nat):Int);u (aB (f+I)) (j.take f.toNat++((j.take f.toNat).drop 0).take (min ((j.take f.toNat).drop 0).length (j.length-f.toNat))++j.drop (f.toNat+(min ((j.take f.toNat).drop 0).length (j.length-f.toNat)))))))) (G f j)
def aGF (Q:zzI->Prop) (j:Int) (f:zzI):Prop:=Q f
def Kf (F:Nat) (f:Int->zzI->Prop):Nat->Int->zzI->Prop
 |0=>fun _ _=>False
 |n+1=>Yx (Kf F f n) f
def zd (F:Nat) (Q:zzI->Prop) (f:Int) (j:zzI):Prop:=Kf F (aGF Q) F f j
def aKy (F:Nat) (a0:zzI) (a1:Int) (Q:zzI->Prop):Prop:=Yy a0 a1 Q (zd F Q)
def It:CnT:=cnL [(0,⟨[0,1,6,7,8],[],[],[],[]⟩)]
abbrev bCm:=zzI->Int->Int->Int->Int->Prop
def aGJ (a0:zzI) (a1:Int) (Q:Int->Bool->Prop) (f:bCm):Prop:=f a0 a1 (a0.length:Int) 0 (a0.length:Int)
def Yz (u O:bCm):bCm:=fun j J L I G=>cond (decide (I<G)) ((let f:=Int.fdiv (IntKind.u64.wrap (aB (I+G))) (2^(min 1 64));((0<=(1:Int))/\(let e1:=(j.getD ((aB f).toNat) default);((0<=(aB f)/\(aB f)<j.length)/\cond (N3 e1 J) (u j J L (aB ((aB f)+1)) G) (u j J L I (aB f))))))) (O j J L I G)
def ib (Q:Int->Bool->Prop):bCm:=fun u j G f I=>(let e0:=(u.getD f.toNat default);(((decide (f<G))=true->((0<=f/\f<u.length)/\((e0==j)=false->0<=f/\f<u.length)))/\Q f ((decide (f<G))&&((e0==j)||((To e0)&&(To j))))))
def Sg (F:Nat) (f:bCm):Nat->bCm
 |0=>fun _ _ _ _ _=>False
 |n+1=>Yz (Sg F f n) f
def ze (F:Nat) (Q:Int->Bool->Prop):bCm:=fun I G u j f=>Sg F (ib Q) F I G u j f
def aLA (F:Nat) (a0:zzI) (a1:Int) (Q:Int->Bool->Prop):Prop:=aGJ a0 a1 Q (ze F Q)
theorem Ta {n:Int} (j:0<=n) (f:n<=18446744073709551615):IntKind.u64.wrap n=n:=by
 grind [IntKind.wrap,IntKind.bits,IntKind.signed]
theorem me {n:Int} (u:0<=n) (j:n<=4294967295):kO .u64 n 4294967295=n:=by
 obtain⟨k,rfl⟩:∃k:Nat,n=k:=⟨n.toNat,KI⟩;unfold kO;have hb:IntKind.u64.bits=64:=rfl;have e1:(BitVec.ofInt IntKind.u64.bits (k:Int)).toNat=k:=by
  grind
 have f:(BitVec.ofInt IntKind.u64.bits (4294967295:Int)).toNat=2^32-1:=by
  rfl
 rw[BitVec.toNat_and,e1,f,Nat.and_two_pow_sub_one_eq_mod,Nat.mod_eq_of_lt KI];grind [Ta]
theorem aTT {n:Int} (f:0<=n) (j:n<=2000000):tQ 1 n=(0,n):=by
 have e1:kO .u64 1 4294967295=1:=me KI KI;have G:kO .u64 n 4294967295=n:=me f KI;have hp:(2:Int)^(min 32 64)=4294967296:=by decide
 have f1:Int.fdiv 1 4294967296=0:=by decide
 have f2:Int.fdiv n 4294967296=0:=by
  grind
 have u:Int.fdiv 0 4294967296=0:=by decide
 have I:kO .u64 0 4294967295=0:=me KI KI;grind [Ta,tQ,qV]
def R7 (l:zzI) (n:Int):Prop:=l.length=1/\0<=n/\n<=2000000
def Kr (l:zzI) (n:Int):zzI:=List.replicate n.toNat (l.getD 0 default)
theorem aRZ (a0:zzI) (a1:Int) (h:R7 a0 a1):∃F,∀Q:zzI->Prop,Q (Kr a0 a1)->aKy F a0 a1 Q:=by
 obtain⟨L,h0,h1⟩:=h;obtain⟨x,rfl⟩:=List.length_eq_one_iff.1 L;obtain⟨N,rfl⟩:∃k:Nat,a1=k:=⟨a1.toNat,KI⟩;have hN:N<=2000000:=KI;refine⟨N+2,fun Q hQ=>?_⟩;have j:∀n m:Nat,m<=N->(1<=m\/N=0)->N<n+m->Kf (N+2) (fun u G=>aGF Q u G) n m (List.replicate m x++List.replicate (N-m) 0):=by
  intro n
  induction n with
  |zero=>omega
  |succ n I=>
   intro m hm h2 h3;show Yx _ _ _ _;unfold Yx;have f:(List.replicate m x++List.replicate (N-m) (0:Int)).length=N:=by grind
   rw[f]
   by_cases Z:m<N
   ·rw[dD (show (m:Int)<(N:Int) by omega),QY];have J:(List.replicate m x++List.replicate (N-m) (0:Int)).take m=List.replicate m x:=by
     grind
    have e1:aB ((m:Int)+((min m (N-m):Nat):Int))=((m+min m (N-m):Nat):Int):=by rw[cN KI KI];omega
    refine⟨KI,KI,?_⟩;simp only[QZ,J,List.drop_zero,KP,e1];have O:(List.replicate m x++List.replicate (N-m) (0:Int)).drop (m+min m (N-m))=List.replicate (N-(m+min m (N-m))) 0:=by
     rw[List.drop_append,KP,List.drop_eq_nil_of_le XQ,List.nil_append,List.drop_replicate];congr 1;omega
    rw[O,List.take_replicate];have V:List.replicate m x++List.replicate (min (min m (N-m)) m) x=List.replicate (m+min m (N-m)) x:=by
     simp_all
    rw[V];exact I (m+min m (N-m)) KI KI KI
   ·rw[dB KI,QK];have e:m=N:=KI;subst e;show Q _;simp_all[Kr]
 show Yy _ _ _ _;unfold Yy;rw[dB KI,QK];have S:IntKind.u64.wrap ((([x]:zzI).length:Nat):Int)=1:=by rfl
 rw[S,Ta KI KI,aTT KI KI];refine⟨⟨KI,KI,KI,KI,KI⟩,?_⟩;rw[dB (show ¬(0:Int)<(0,(N:Int)).1 by simp),dB (show ¬(9223372036854775807:Int)<(0,(N:Int)).2 by omega)];simp only[Bool.or_self,QK];rw[cN KI KI];refine⟨⟨KI,XQ,KI⟩,?_⟩;show Kf _ _ _ _ _;have hk:=j (N+2) (min 1 N) KI KI KI;grind
def dU (l:zzI) (x:Int):Nat:=(l.takeWhile fun y=>decide (y<x)).length
theorem below_le (l:zzI) (x:Int):dU l x<=l.length:=by
 grind [dU,List.takeWhile_sublist]
theorem Ce:∀(l:zzI) (x:Int),l.Pairwise (·<=·)->∀h,h<l.length->(l.getD h default<x↔h<dU l x)
 |[],x,_,h,hh=>by grind
 |y::l,x,j,h,hh=>by
  obtain⟨G,u⟩:=List.pairwise_cons.1 j;unfold dU;rw[List.takeWhile_cons]
  by_cases f:y<x
  ·rw[dD f,JQ rfl,QN];cases h with
   |zero=>grind
   |succ h=>
    have:=Ce l x u h (by grind);grind [dU]
  grind [List.getElem_mem]
def Uu (l:zzI) (x:Int):Prop:=l.Pairwise (·<=·)/\l.length<=2000000
def x9 (l:zzI) (x:Int):Int×Bool:=(dU l x,decide (dU l x<l.length)&&(l.getD (dU l x) default==x))
theorem aR1 (a0:zzI) (a1:Int) (h:Uu a0 a1):∃F,∀Q:Int->Bool->Prop,Q ((x9 a0 a1).1) ((x9 a0 a1).2)->aLA F a0 a1 Q:=by
 obtain⟨I,J⟩:=h;refine⟨a0.length+2,fun Q L=>?_⟩;have f:∀n i j:Nat,i<=dU a0 a1->dU a0 a1<=j->j<=a0.length->j<n+i->Sg (a0.length+2) (ib Q) n a0 a1 a0.length i j:=by
  intro n
  induction n with
  |zero=>omega
  |succ n G=>
   intro i j Z V S O;show Yz _ _ _ _ _ _ _;unfold Yz
   by_cases u:i<j
   ·rw[dD (show (i:Int)<(j:Int) by omega),QY];have ev:Int.fdiv (IntKind.u64.wrap (aB ((i:Int)+j))) (2^(min 1 64))=(((i+j) / 2:Nat):Int):=by
     grind [cN,Ta]
    have e2:aB (((i+j) / 2:Nat):Int)=(((i+j) / 2:Nat):Int):=cN KI KI;grind [Int.toNat_natCast,Ce,N3,Ty,dX]
   grind [ib,To,x9]
 exact f (a0.length+2) 0 a0.length KI (below_le _ _) KI KI
theorem bAs (l:zzI) (x:Int):(∀h,h<dU l x->l.getD h default<x)/\(dU l x<l.length->¬l.getD (dU l x) default<x):=by
 induction l with
 |nil=>simp_all[dU]
 |cons y l j=>
  unfold dU;rw[List.takeWhile_cons]
  by_cases f:y<x
  ·rw[dD f,JQ rfl,QN];refine⟨fun h hh=>?_,fun h=>?_⟩
   ·cases h with
    |zero=>grind
    |succ h=>
     grind [dU]
   grind [dU]
  grind
end
end Go.Proofs.YtgcpildegdgekaaGreatDoor
namespace Go.Proofs
open Go.Proofs.Tryz
open Go.Shelf
def aUW:Go.Shelf.Ren:=⟨fun|189=>120|125=>110|257=>166|128=>151|129=>152|294=>189|295=>190|296=>191|297=>192|298=>193|299=>194|216=>123|300=>195|301=>196|328=>217|329=>175|330=>176|331=>218|332=>219|215=>153|343=>224|n=>n,fun|28=>55|3=>3|46=>196|0=>0|51=>246|53=>248|4=>4|183=>240|182=>239|131=>160|5=>5|9=>9|218=>267|222=>271|228=>296|229=>126|n=>n,fun|n=>n⟩
theorem aDL:Go.Proofs.Lays.n189 prog aUW:=⟨KA,XJ func110,XJ func151,XJ func152,XJ func120,XJ func153,XJ func123,XJ func166,XJ func189,XJ func190,XJ func191,XJ func192,XJ func193,XJ func194,XJ func195,XJ func196,XJ func217,XJ func175,XJ func176,XJ func218,XJ func219,XJ func224,underlying0,isAgg0,sizeOf0,zeroValue0,underlying3,isAgg3,sizeOf3,zeroValue3,underlying4,isAgg4,sizeOf4,zeroValue4,underlying5,isAgg5,sizeOf5,zeroValue5,underlying9,isAgg9,sizeOf9,zeroValue9,underlying55,isAgg55,sizeOf55,zeroValue55,underlying196,isAgg196,sizeOf196,zeroValue196,underlying246,isAgg246,sizeOf246,zeroValue246,underlying248,isAgg248,sizeOf248,zeroValue248,underlying160,isAgg160,sizeOf160,zeroValue160,underlying239,isAgg239,sizeOf239,zeroValue239,underlying240,isAgg240,sizeOf240,zeroValue240,underlying267,isAgg267,sizeOf267,zeroValue267,underlying271,isAgg271,sizeOf271,zeroValue271,underlying296,isAgg296,sizeOf296,zeroValue296,underlying126,isAgg126,sizeOf126,zeroValue126⟩
open Go.Sort Go.RowKit in
theorem slices_Sort_int (blk off cap:Nat) (f:List Int) (w:World) (hH:Holds (Value.int .i64) w blk off f.toArray) (j:blk<w.heap.size) (u:f.length<4611686018427387904):
  Calls prog 120 #[.slice (some ⟨blk,off,none⟩) f.length cap] w fun e w'=>
   e=.returned (.tuple #[])/\∃n G,w'=grow (putRow (Value.int .i64) (Sort.ahead w n) blk off (f.mergeSort fun x y=>decide (x<=y)).toArray) G:=Any.slices_Sort_int aDL blk off cap f w hH j u
def aUO:Go.Shelf.Ren:=⟨fun|20=>121|n=>n,fun|22=>55|3=>3|4=>4|0=>0|n=>n,fun|n=>n⟩
theorem aDK:Go.Proofs.Lays2.n20 prog aUO:=⟨KA,XJ func121,underlying0,isAgg0,sizeOf0,zeroValue0,underlying3,isAgg3,sizeOf3,zeroValue3,underlying4,isAgg4,sizeOf4,zeroValue4,underlying55,isAgg55,sizeOf55,zeroValue55,KA⟩
open Go.RowKit Go.Lib Go.Sort in
theorem slices_Compact_int (blk off cap:Nat) (f:List Int) (w:World) (hH:Holds (Value.int .i64) w blk off f.toArray) (u:f.length<=9223372036854775807) (j:f.length<=cap):
  Calls prog 121 #[.slice (some ⟨blk,off,none⟩) f.length cap] w fun e w'=>e=.returned (.slice (some ⟨blk,off,none⟩) (Lib.compact f).length cap)/\∃q,w'=putRow (Value.int .i64) (Sort.ahead w q) blk off (Lib.compact f++List.replicate (f.length-(Lib.compact f).length) 0).toArray:=Any.slices_Compact_int aDK blk off cap f w hH u j
open Go.RowKit Go.Lib Go.Sort in
theorem slices_Compact_int_empty (a:Option Addr) (cap:Nat) (w:World):
  Calls prog 121 #[.slice a 0 cap] w fun e w'=>e=.returned (.slice a 0 cap)/\w'=w:=Any.slices_Compact_int_empty aDK a cap w
open Go.RowKit Go.Sort in
theorem slices_Sort_int_none (p:Option Addr) (cap:Nat) (w:World):
  Calls prog 120 #[.slice p 0 cap] w fun e w'=>e=.returned (.tuple #[])/\w'=w:=Any.slices_Sort_int_none aDL p cap w
end Go.Proofs
namespace Go.Proofs.YtgcpildegdgekaaGreatDoor
open Go.Proofs.Tryz
open Go.RowKit Go.Vm
noncomputable section
def asc (l:zzI):Prop:=l.Pairwise (· < ·)
def cY (l:zzI):zzI:=Lib.compact (l.mergeSort fun x y=>decide (x<=y))
theorem aZH (f:zzI) (h:f.Pairwise (·<=·)):asc (Lib.compact f):=by
 unfold asc Lib.compact Lib.compactUpTo;rw[List.pairwise_map];have hp:(List.range f.length).Pairwise (· < ·):=List.pairwise_lt_range;refine List.Pairwise.imp_of_mem ?_ (hp.filter _);intro i j hi L S;obtain⟨I,J⟩:=List.mem_filter.1 L;have u:j<f.length:=JH.1 I;have G:=JU J;have e:∀k (G:k<f.length),f.toArray[k]! =f[k]:=fun k G=>by simp[G]
 rcases G with rfl|G
 ·omega
 ·rw[e j u,e (j-1) KI] at G;rw[e i KI,e j u];have Z:f[j-1]<=f[j]:=List.pairwise_iff_getElem.1 h (j-1) j KI u KI;have V:f[i]<=f[j-1]:=by
   by_cases O:i=j-1
   ·subst O;exact Int.le_refl _
   ·exact List.pairwise_iff_getElem.1 h i (j-1) KI KI KI
  omega
theorem aZG (f:zzI) (x:Int):x∈Lib.compact f↔x∈f:=by
 have e:∀k (j:k<f.length),f.toArray[k]! =f[k]:=fun k j=>by simp[j]
 unfold Lib.compact Lib.compactUpTo;rw[JK];constructor
 ·rintro ⟨i,hi,rfl⟩
  have u:=JH.1 (List.mem_filter.1 hi).1;rw[e i u];exact QH u
 ·intro L;obtain⟨i,hi,rfl⟩:=List.getElem_of_mem L;have G:∀i (hi:i<f.length),∃a∈(List.range f.length).filter (Lib.keeps f.toArray),f.toArray[a]! =f[i]:=by
   intro i
   induction i with
   |zero=>exact fun hi=>⟨0,List.mem_filter.2 ⟨JH.2 hi,by simp[Lib.keeps]⟩,e 0 hi⟩
   |succ i J=>
    intro hi
    by_cases j:Lib.keeps f.toArray (i+1)=true
    ·exact⟨i+1,List.mem_filter.2 ⟨JH.2 hi,j⟩,e _ hi⟩
    ·have I:f.toArray[i+1]! =f.toArray[i]!:=by
      unfold Lib.keeps at j;rw[JN] at j;have:=not_or.1 j;simpa using this.2
     obtain⟨a,S,O⟩:=J KI;refine⟨a,S,?_⟩;rw[O,<- e i KI,<- I,e _ hi]
  exact G i hi
theorem xO (l:zzI):asc (cY l):=by
 unfold cY;refine aZH _ ?_;have:=List.pairwise_mergeSort (le:=fun x y:Int=>decide (x<=y)) (fun a b c j f=>by simp at*;omega) (fun a b=>by simp;omega) l;exact this.imp (fun h=>by simpa using h)
theorem xN (l:zzI) (x:Int):x∈cY l↔x∈l:=by
 unfold cY;rw[aZG,List.mem_mergeSort]
theorem Ey (l:zzI):(cY l).length<=l.length:=by
 unfold cY;rw[<- List.length_mergeSort (le:=fun x y:Int=>decide (x<=y)) l];unfold Lib.compact Lib.compactUpTo;rw[KJ];refine JT (List.length_filter_le _ _) ?_;simp
def Tab (m n:Nat) (t:zzB) (f:Nat->Nat->Bool):Prop:=
 t.length=m/\(∀i,i<m->(t.getD i default).length=n)/\∀i k,i<m->k<n->(t.getD i default).getD k default=f i k
theorem Tab.congr {m n:Nat} {t:zzB} {f g:Nat->Nat->Bool} (a:Tab m n t f) (h:∀i k,i<m->k<n->f i k=g i k):Tab m n t g:=
 ⟨a.1,a.2.1,fun i k hi j=>by rw[a.2.2 i k hi j,h i k hi j]⟩
theorem Tab.rep (m n:Nat):Tab m n (List.replicate m (List.replicate n false)) (fun _ _=>false):=by
 have e:∀i,i<m->(List.replicate m (List.replicate n false)).getD i default=List.replicate n false:=fun i hi=>by
  grind
 refine⟨XQ,fun i hi=>by grind,fun i k hi f=>?_⟩;grind
theorem Tab.set {m n:Nat} {t:zzB} {f:Nat->Nat->Bool} (a:Tab m n t f) {i k:Nat} (hi:i<m) (I:k<n):
  Tab m n (t.set i ((t.getD i default).set k true)) (fun x y=>f x y||decide (x=i/\y=k)):=by
 obtain⟨O,L,J⟩:=a;refine⟨by grind,fun j u=>?_,fun j q u G=>?_⟩
 ·grind
 grind
def cdP (x:Option Nat):Int:=match x with
 |none=> -1
 |some j=>j
theorem lr (x:Option Nat):cdP x<0↔x=none:=by
 cases x with
 |none=>simp[cdP]
 |some j=>simp[cdP]
def Bw (c:Pl):Par:=⟨c.1,c.2⟩
def uA (G:Prop) (o:Bool) (a b n:Int) (f:zzZ) (j:List Par) (K:zzZ->List Par->Prop):Prop:=
 (G/\(let u:=((f.getD a.toNat default).getD b.toNat default);((o=true->((0<=a/\a<f.length)/\0<=b/\b<(f.getD a.toNat default).length))/\
  cond (o&&(decide (u<0))) (((0<=a/\a<f.length)/\((0<=b/\b<(f.getD a.toNat default).length)/\(((j.length+([(Par.mk a b)]).length)*16<=140737488355328)/\
   K (f.set a.toNat ((f.getD a.toNat default).set b.toNat n)) (j++[(Par.mk a b)]))))) (K f j))))
theorem Wy {w h n:Nat} {I:zzZ} {G:List Par} {L:Pl->Option Nat} {S:List Pl} {V:Prop} {o:Bool} {a b:Int} {K:zzZ->List Par->Prop} {l:List Pl}
  (A:Arr cdP w h I L) (hT:G=S.map Bw) (hr:free (cellsOf w h) L+S.length<=2000000) (O:V)
  (hl:(o=false/\l=[])\/(o=true/\∃i j:Nat,a=i/\b=j/\i<w/\j<h/\l=[(i,j)]))
  (hk:∀u f s',s'=visit n l (L,S)->Arr cdP w h u s'.1->f=s'.2.map Bw->free (cellsOf w h) s'.1+s'.2.length<=2000000->K u f):uA V o a b n I G K:=by
 unfold uA;refine⟨O,?_⟩;rcases hl with ⟨rfl,rfl⟩|⟨rfl,i,j,rfl,rfl,hi,J,rfl⟩
 ·refine⟨(fun q=>by cases q),?_⟩;rw[Bool.false_and,QK];exact hk _ _ (L,S) rfl A hT hr
 ·obtain⟨A1,A2,A3⟩:=id A;have h2:=A2 i hi;have e3:=A3 i j hi J;rw[QZ,QZ];refine⟨fun _=>⟨⟨KI,KI⟩,KI,KI⟩,?_⟩;simp only[e3,Bool.true_and]
  by_cases Z:L (i,j)=none
  ·rw[dD ((lr _).2 Z),QY];have hv:visit n [(i,j)] (L,S)=(upd L (i,j) n,S++[(i,j)]):=by
    show mB n (L,S) (i,j)=_;grind [mB]
   have hfr:=aGq (n:=n) (vY.2 ⟨hi,J⟩) Z;subst hT;refine⟨⟨KI,KI⟩,⟨KI,KI⟩,by grind,?_⟩;refine hk _ _ _ hv.symm ?_ ?_ ?_
   ·exact A.set hi J
   ·rw[List.map_append];rfl
   grind
  grind [lr,visit,mB]
theorem asc.le {l:zzI} (h:asc l):l.Pairwise (·<=·):=List.Pairwise.imp (fun h=>Int.le_of_lt h) h
theorem asc.get {l:zzI} (h:asc l) {i j:Nat} (f:i<j) (u:j<l.length):l.getD i default<l.getD j default:=by
 have:=List.pairwise_iff_getElem.1 h i j KI u f;grind
theorem uO {l:zzI} (h:asc l) {x:Int} (f:x∈l):dU l x<l.length/\l.getD (dU l x) default=x:=by
 obtain⟨i,hi,rfl⟩:=List.getElem_of_mem f;have e:l.getD i default=l[i]:=by grind
 have j:=Ce l l[i] h.le i hi;rw[e] at j;have G:dU l l[i]<=i:=by
  omega
 have u:=(bAs l l[i]).2 KI;refine⟨KI,?_⟩
 by_cases q:dU l l[i]=i
 ·grind
 ·have:=h.get (show dU l l[i]<i by omega) hi;omega
def gxs (w:Int) (ls:List Seg):zzI:=cY ([0,w]++ls.flatMap fun s=>[s.X1,s.X2])
def gys (h:Int) (ls:List Seg):zzI:=cY ([0,h]++ls.flatMap fun s=>[s.Y1,s.Y2])
def lfG (xs ys:zzI) (ls:List Seg) (i k:Nat):Bool:=ls.any fun s=>decide (i=dU xs s.X1/\dU ys s.Y1<=k/\k<dU ys s.Y2)
def blG (xs ys:zzI) (ls:List Seg) (i k:Nat):Bool:=ls.any fun s=>decide (dU xs s.X1<=i/\i<dU xs s.X2/\k=dU ys s.Y1)
def hG (xs ys:zzI) (c:Pl):aA:=⟨xs.getD c.1 default,ys.getD c.2 default,xs.getD (c.1+1) default-xs.getD c.1 default,ys.getD (c.2+1) default-ys.getD c.2 default⟩
def nbG (xs ys:zzI) (ls:List Seg):Pl->List Pl:=nbs (xs.length-1) (ys.length-1) (lfG xs ys ls) (blG xs ys ls)
def pF (w h:Int) (ls:List Seg):List (List aA):=yA (nbG (gxs w ls) (gys h ls) ls) (hG (gxs w ls) (gys h ls)) (cellsOf ((gxs w ls).length-1) ((gys h ls).length-1))
def jY (w h:Int) (s:Seg):Prop:=(0<=s.X1/\s.X1<=w/\0<=s.Y1/\s.Y1<=h/\0<=s.X2/\s.X2<=w/\0<=s.Y2/\s.Y2<=h)/\((s.Y1=s.Y2/\s.X1<s.X2)\/(s.X1=s.X2/\s.Y1<s.Y2))
theorem nP {w:Int} {ls:List Seg} {x:Int}:x∈gxs w ls↔x=0\/x=w\/∃s∈ls,x=s.X1\/x=s.X2:=by
 grind [gxs,xN]
theorem nO {h:Int} {ls:List Seg} {x:Int}:x∈gys h ls↔x=0\/x=h\/∃s∈ls,x=s.Y1\/x=s.Y2:=by
 grind [gys,xN]
theorem lX (w:Int) (ls:List Seg):asc (gxs w ls):=xO _
theorem lW (h:Int) (ls:List Seg):asc (gys h ls):=xO _
theorem Zi (f g:Seg->Int):∀ls:List Seg,(ls.flatMap fun s=>[f s,g s]).length=2*ls.length
 |[]=>rfl
 |s::ls=>by
  rw[List.flatMap_cons,QM,Zi f g ls];grind
theorem aVd (w:Int) (ls:List Seg):(gxs w ls).length<=2+2*ls.length:=by
 refine JT (Ey _) ?_;rw[QM,Zi];simp
theorem aVb (h:Int) (ls:List Seg):(gys h ls).length<=2+2*ls.length:=by
 refine JT (Ey _) ?_;rw[QM,Zi];simp
theorem Yj (w:Int) (ls:List Seg):0<(gxs w ls).length:=List.length_pos_of_mem (nP.2 (.inl rfl))
theorem Yi (h:Int) (ls:List Seg):0<(gys h ls).length:=List.length_pos_of_mem (nO.2 (.inl rfl))
theorem lq (w h:Nat):(cellsOf w h).length=h*w:=by
 unfold cellsOf
 induction h with
 |zero=>simp
 |succ h f=>
  grind [List.range_succ]
theorem O3 {β:Type} (nb:Pl->List Pl) (rect:Pl->β):∀(l:List Pl) (s:(Pl->Option Nat)×List (List β)),(nW nb rect l s).2.length<=s.2.length+l.length
 |[],s=>QP _
 |c::l,s=>by
  refine JT (O3 nb rect l (pE nb rect s c)) ?_;grind [pE]
theorem aMb {β:Type} (nb:Pl->List Pl) (rect:Pl->β) (a b:List Pl) (s:(Pl->Option Nat)×List (List β)):nW nb rect (a++b) s=nW nb rect b (nW nb rect a s):=by
 unfold nW;grind
theorem aHA {β:Type}:∀(l:List (List β)) (j:Nat),(l.getD j default).length<=l.flatten.length
 |[],j=>by simp[List.getD_eq_getElem?_getD];rfl
 |x::l,0=>XQ
 |x::l,j+1=>by
  have:=aHA l j;grind
def dI:CnT:=cnL [(0,⟨[1,2,4,5,19,20,21],[2],[],[],[]⟩),(34000,⟨[1,6,7,23,24,25],[],[(.tmp 6,34188,.int),(.tmp 7,34189,.int)],[],[]⟩),(34002,⟨[1,10,68,69],[34049],[(.cell 34049 0,34188,.int),(.cell 34049 1,34189,.int),(.cell 34049 2,34190,.bools),(.cell 34049 3,34191,.bools),(.cell 34049 4,34192,.ints)],[],[34190,34191,34192]⟩),(34004,⟨[10,118,119,120],[34049],[(.cell 34049 0,34188,.int),(.cell 34049 1,34189,.int),(.cell 34049 2,34190,.bools),(.cell 34049 3,34191,.bools),(.cell 34049 4,34192,.ints)],[],[34190,34191,34192]⟩),(34006,⟨[10,12,13,15,118,119,120],[34012,34049],[(.cell 34049 0,34188,.int),(.cell 34049 1,34189,.int),(.cell 34049 2,34190,.bools),(.cell 34049 3,34191,.bools),(.cell 34049 4,34192,.ints)],[],[34190,34191,34192]⟩),(40000,⟨[0,3,12,13],[34049],[(.cell 34049 0,40114,.int),(.cell 34049 1,40115,.int),(.cell 34049 2,40116,.bools),(.cell 34049 3,40117,.bools),(.cell 34049 4,40118,.ints),(.tmp 3,40119,.rects)],[],[40116,40117,40118,40119]⟩),(34008,⟨[10,12,13,15,118,119,120],[34012,34049],[(.cell 34049 0,34188,.int),(.cell 34049 1,34189,.int),(.cell 34049 2,34190,.bools),(.cell 34049 3,34191,.bools),(.cell 34049 4,34192,.ints)],[],[34190,34191,34192]⟩),(40002,⟨[0,3,4,12,13,21,22],[34049],[(.cell 34049 0,40114,.int),(.cell 34049 1,40115,.int),(.cell 34049 2,40116,.bools),(.cell 34049 3,40117,.bools),(.cell 34049 4,40118,.ints),(.tmp 3,40119,.rects)],[],[40116,40117,40118,40119]⟩),(40042000,⟨[4,7,8,2000000,2000003,2000004,2000005,2000012,2000013,2000021,2000022],[34049,40042004,40042007,40042008],[(.cell 34049 0,40042145,.int),(.cell 34049 1,40042146,.int),(.cell 34049 2,40042147,.bools),(.cell 34049 3,40042148,.bools),(.cell 34049 4,40042149,.ints),(.cell 40042008 0,40042150,.par),(.tmp 2000003,40042151,.rects)],[],[40042147,40042148,40042149,40042151]⟩)]
abbrev bC1:=List Seg->Int->List Seg->Int->Int->ByteArray->ByteArray->Int->Int->Int->Int->List aA->List aA->Prop
def gg (S O:ByteArray) (L J I G:Int) (u j:List aA) (a1:List Seg) (Q:List (List aA)->Int->Prop) (V:bC1):Prop:=(let f:=(jX S O L J I G u j);cond (f !=0) (Q ([]) f) (cond (decide (200<(a1.length:Int))) (Q ([]) 4) (V a1 0 a1 (a1.length:Int) 0 S O L J I G u j)))
def aFr (rec x0 x1:bC1):bC1:=fun t1 t5 j u f V Z O S J L G I=>cond (decide (f<u)) ((let e0:=(j.getD f.toNat default);((0<=f/\f<j.length)/\(let r1:=(Fb V Z O S J L G I e0.X1 e0.Y1 e0.X2 e0.Y2);cond (!r1) (x0 t1 1 j u f V Z O S J L G I) (rec t1 t5 j u (aB (f+1)) V Z O S J L G I))))) (x1 t1 t5 j u f V Z O S J L G I)
def aFw (Q:List (List aA)->Int->Prop):bC1:=fun I f G u j bE bD V Z O S J L=>Q ([]) f
abbrev bCd:=List Seg->List Seg->Int->Int->zzI->zzI->Prop
def aFv (Q:List (List aA)->Int->Prop) (t1:List Seg) (L:Int) (J:List Seg) (I G:Int) (bE bD:ByteArray) (V Z j u:Int) (O S:List aA) (f:bCd):Prop:=f t1 t1 (t1.length:Int) 0 ([0,j]) ([0,u])
def Yv (J O:bCd):bCd:=fun L j u f I G=>cond (decide (f<u)) ((let e0:=(j.getD f.toNat default);((0<=f/\f<j.length)/\(((I.length+([e0.X1,e0.X2]).length)*8<=140737488355328)/\(((G.length+([e0.Y1,e0.Y2]).length)*8<=140737488355328)/\J L j u (aB (f+1)) (I++([e0.X1,e0.X2])) (G++([e0.Y1,e0.Y2]))))))) (O L j u f I G)
abbrev bCO:=List Seg->Int->Int->zzI->zzI->zzB->zzB->zzZ->Prop
def Ox (Q:List (List aA)->Int->Prop) (t1 L:List Seg) (J I:Int) (f j:zzI) (G:bCO):Prop:=((f.length<=1000)/\((j.length<=1000)/\(let u:=aB ((aB (((cY f).length:Int)-1))*(aB (((cY j).length:Int)-1)));cond (decide (6000<u)) (Q ([]) 4) (G t1 ((cY f).length:Int) 0 (cY f) (cY j) ([]) ([]) ([])))))
def Yu (O V:bCO):bCO:=fun S u j L f J I G=>cond (decide (j<u)) (((0<=(f.length:Int)/\(f.length:Int)=(f.length:Int)/\(f.length:Int)*1<=140737488355328)/\(((J.length+1)*24<=140737488355328)/\((0<=(f.length:Int)/\(f.length:Int)=(f.length:Int)/\(f.length:Int)*1<=140737488355328)/\(((I.length+1)*24<=140737488355328)/\((R7 ([(-1)]) (f.length:Int))/\(((G.length+1)*24<=140737488355328)/\O S u (aB (j+1)) L f (J++[(List.replicate ((f.length:Int).toNat) (false:Bool))]) (I++[(List.replicate ((f.length:Int).toNat) (false:Bool))]) (G++[(Kr ([(-1)]) (f.length:Int))])))))))) (V S u j L f J I G)
def gn (Q:List (List aA)->Int->Prop) (t1:List Seg) (O L:Int) (I G:zzI) (u j:zzB) (f:zzZ) (J:bCO):Prop:=J t1 (t1.length:Int) 0 I G u j f
abbrev bCJ:=Int->Int->List Seg->Int->Int->Int->Int->Int->Int->zzI->zzI->zzB->zzB->zzZ->Prop
def Yt (rec S:bCO) (j:List Seg) (u f:Int) (I G:zzI) (O L:zzB) (J:zzZ) (i4:bCJ):Prop:=cond (decide (f<u)) ((let e0:=(j.getD f.toNat default);((0<=f/\f<j.length)/\(let Z:=(x9 I e0.X1);((Uu I e0.X1)/\(let V:=(x9 G e0.Y1);((Uu G e0.Y1)/\i4 Z.1 V.1 j u f e0.X1 e0.Y1 e0.X2 e0.Y2 I G O L J))))))) (S j u f I G O L J)
abbrev bCR:=Int->Int->zzI->zzI->zzB->zzB->zzZ->List (List aA)->Prop
def gl (Q:List (List aA)->Int->Prop) (O:List Seg) (L J:Int) (I f:zzI) (G u:zzB) (j:zzZ) (S:bCR):Prop:=S (aB ((f.length:Int)-1)) 0 I f G u j ([])
def Ys (rec x0:bCJ):bCJ:=fun f j L J I qbc qbd O qbf G Z V u S=>((0<=f/\f<G.length)/\cond (decide ((G.getD f.toNat default)<O)) ((((0<=f/\f<u.length)/\(0<=j/\j<(u.getD f.toNat default).length))/\rec (aB (f+1)) j L J I qbc qbd O qbf G Z V (u.set f.toNat ((u.getD f.toNat default).set j.toNat true)) S)) (x0 f j L J I qbc qbd O qbf G Z V u S))
def gh (rec x0:bCO) (I G:Int) (u:List Seg) (j f qbc qbd qbe Z:Int) (V S:zzI) (O L:zzB) (J:zzZ) (i6:bCJ):Prop:=i6 I G u j f qbc qbd qbe Z V S O L J
abbrev bCK:=Int->Int->Int->Int->Int->zzI->zzI->zzB->zzB->zzZ->List (List aA)->Prop
def Yr (Z S:bCR) (j f:Int) (u O:zzI) (L J:zzB) (I:zzZ) (G:List (List aA)) (V:bCK):Prop:=cond (decide (f<j)) (V f j f (aB ((u.length:Int)-1)) 0 u O L J I G) (S j f u O L J I G)
def aFu (Q:List (List aA)->Int->Prop):bCR:=fun u j O L J I G f=>Q f 0
def Yq (rec x0:bCJ):bCJ:=fun j f L J I qbc qbd qbe O Z G u V S=>((0<=f/\f<G.length)/\cond (decide ((G.getD f.toNat default)<O)) ((((0<=j/\j<u.length)/\(0<=f/\f<(u.getD j.toNat default).length))/\rec j (aB (f+1)) L J I qbc qbd qbe O Z G (u.set j.toNat ((u.getD j.toNat default).set f.toNat true)) V S)) (x0 j f L J I qbc qbd qbe O Z G u V S))
def aFt (G x0:bCO):bCJ:=fun Z V u j f qbc qbd qbe qbf S O L J I=>G u j (aB (f+1)) S O L J I
abbrev bCU:=Int->Int->Int->Int->Int->Int->Int->zzI->zzI->zzB->zzB->zzZ->List Par->List (List aA)->Prop
def Yp (rec x0:bCK) (G V S O f:Int) (j I:zzI) (qca Z:zzB) (u:zzZ) (J:List (List aA)) (i8:bCU):Prop:=cond (decide (f<O)) ((let v0:=((u.getD f.toNat default).getD G.toNat default);(((0<=f/\f<u.length)/\(0<=G/\G<(u.getD f.toNat default).length))/\cond (decide (v0<0)) (((0<=f/\f<u.length)/\((0<=G/\G<(u.getD f.toNat default).length)/\i8 G f V S O f (J.length:Int) j I qca Z (u.set f.toNat ((u.getD f.toNat default).set G.toNat (J.length:Int))) ([(Par.mk f G)]) J))) ((let L:=((u.getD f.toNat default).getD G.toNat default);(((0<=f/\f<u.length)/\(0<=G/\G<(u.getD f.toNat default).length))/\((0<=L/\L<J.length)/\((0<=f/\f<j.length)/\((0<=G/\G<I.length)/\((0<=(aB (f+1))/\(aB (f+1))<j.length)/\(let v2:=(j.getD ((aB (f+1)).toNat) default);((0<=f/\f<j.length)/\((0<=(aB (G+1))/\(aB (G+1))<I.length)/\((0<=G/\G<I.length)/\(let v3:=aB ((I.getD ((aB (G+1)).toNat) default)-(I.getD G.toNat default));((((J.getD L.toNat default).length+([(aA.mk (j.getD f.toNat default) (I.getD G.toNat default) (aB (v2-(j.getD f.toNat default))) v3)]).length)*32<=140737488355328)/\((0<=L/\L<(J.set L.toNat ((J.getD L.toNat default)++([(aA.mk (j.getD f.toNat default) (I.getD G.toNat default) (aB (v2-(j.getD f.toNat default))) v3)]))).length)/\((L.toNat=L.toNat/\L.toNat=L.toNat)/\rec G V S O (aB (f+1)) j I qca Z u (J.set L.toNat ((J.getD L.toNat default)++([(aA.mk (j.getD f.toNat default) (I.getD G.toNat default) (aB (v2-(j.getD f.toNat default))) v3)]))))))))))))))))))))) (x0 G V S O f j I qca Z u J)
def aFs (u x0:bCR):bCK:=fun t4 j f Z V S O L J I G=>u j (aB (f+1)) S O L J I G
def Yo (rec x0:bCU):bCU:=fun qcf qcg qch qci Z V L S O J I u f qbx=>cond (decide (0<(f.length:Int))) (((0<=(aB ((f.length:Int)-1))/\(aB ((f.length:Int)-1))<f.length)/\((0<=(0:Int)/\(0:Int)<2)/\(let j:=(f.getD ((aB ((f.length:Int)-1)).toNat) default).e0;((0<=(aB ((f.length:Int)-1))/\(aB ((f.length:Int)-1))<f.length)/\((0<=(1:Int)/\(1:Int)<2)/\(let G:=(f.getD ((aB ((f.length:Int)-1)).toNat) default).e1;((0<=(aB ((f.length:Int)-1))/\(aB ((f.length:Int)-1))<=f.length)/\uA ((decide (0<j))=true->((0<=j/\j<J.length)/\0<=G/\G<(J.getD j.toNat default).length)) ((decide (0<j))&&(!((J.getD j.toNat default).getD G.toNat default))) (ma (aB (j-1)) 0) G L u (f.take ((aB ((f.length:Int)-1)).toNat)) fun u f=>uA ((decide ((aB (j+2))<(S.length:Int)))=true->((0<=(aB (j+1))/\(aB (j+1))<J.length)/\0<=G/\G<(J.getD ((aB (j+1)).toNat) default).length)) ((decide ((aB (j+2))<(S.length:Int)))&&(!((J.getD ((aB (j+1)).toNat) default).getD G.toNat default))) (aB (j+1)) G L u f fun u f=>uA ((decide (0<G))=true->((0<=j/\j<I.length)/\0<=G/\G<(I.getD j.toNat default).length)) ((decide (0<G))&&(!((I.getD j.toNat default).getD G.toNat default))) j (ma (aB (G-1)) 0) L u f fun u f=>uA ((decide ((aB (G+2))<(O.length:Int)))=true->((0<=j/\j<I.length)/\0<=(aB (G+1))/\(aB (G+1))<(I.getD j.toNat default).length)) ((decide ((aB (G+2))<(O.length:Int)))&&(!((I.getD j.toNat default).getD ((aB (G+1)).toNat) default))) j (aB (G+1)) L u f fun u f=>rec qcf qcg qch qci Z V L S O J I u f qbx)))))))) (x0 qcf qcg qch qci Z V L S O J I u f qbx)
def Yw (V x0:bCK):bCU:=fun j f qch qci qcj Z qbg G u qbt qbu L qbw I=>(((I.length+([[]]:List (List aA)).length)*24<=140737488355328)/\(let J:=((L.getD f.toNat default).getD j.toNat default);(((0<=f/\f<L.length)/\(0<=j/\j<(L.getD f.toNat default).length))/\((0<=J/\J<(I++([[]]:List (List aA))).length)/\((0<=f/\f<G.length)/\((0<=j/\j<u.length)/\((0<=(aB (f+1))/\(aB (f+1))<G.length)/\(let v1:=(G.getD ((aB (f+1)).toNat) default);((0<=f/\f<G.length)/\(let S:=aB (v1-(G.getD f.toNat default));((0<=(aB (j+1))/\(aB (j+1))<u.length)/\(let v3:=(u.getD ((aB (j+1)).toNat) default);((0<=j/\j<u.length)/\(let O:=aB (v3-(u.getD j.toNat default));(((((I++([[]]:List (List aA))).getD J.toNat default).length+([(aA.mk (G.getD f.toNat default) (u.getD j.toNat default) S O)]).length)*32<=140737488355328)/\((0<=J/\J<((I++([[]]:List (List aA))).set J.toNat (((I++([[]]:List (List aA))).getD J.toNat default)++([(aA.mk (G.getD f.toNat default) (u.getD j.toNat default) S O)]))).length)/\((J.toNat=J.toNat/\J.toNat=J.toNat)/\V j qch qci qcj (aB (Z+1)) G u qbt qbu L ((I++([[]]:List (List aA))).set J.toNat (((I++([[]]:List (List aA))).getD J.toNat default)++([(aA.mk (G.getD f.toNat default) (u.getD j.toNat default) S O)]))))))))))))))))))))
def Jz (F:Nat) (x0:bCJ):Nat->bCJ
 |0,_,_,_,_,_,_,_,_,_,_,_,_,_,_=>False
 |n+1,I,G,u,j,f,qbc,qbd,qbe,Z,V,S,O,L,J=>Yq (Jz F x0 n) x0 I G u j f qbc qbd qbe Z V S O L J
def V9 (F:Nat) (J x0:bCO):bCJ:=fun I G u j f qbc qbd qbe qbf Z V S O L=>Jz F (aFt J x0) F I G u j f qbc qbd qbe qbf Z V S O L
def En (F:Nat) (x0:bCJ):Nat->bCJ
 |0,_,_,_,_,_,_,_,_,_,_,_,_,_,_=>False
 |n+1,I,G,u,j,f,qbc,qbd,qbe,Z,V,S,O,L,J=>Ys (En F x0 n) x0 I G u j f qbc qbd qbe Z V S O L J
def yy (F:Nat) (rec x0:bCO):bCJ:=fun I G u j f qbc qbd qbe Z V S O L J=>En F (fun I G u j f qbc qbd qbe Z V S O L J=>gh rec x0 I G u j f qbc qbd qbe Z V S O L J (V9 F rec x0)) F I G u j f qbc qbd qbe Z V S O L J
def Jy (F:Nat) (x0:bCU):Nat->bCU
 |0,_,_,_,_,_,_,_,_,_,_,_,_,_,_=>False
 |n+1,J,I,G,u,j,f,qbg,qbr,qbs,Z,V,S,O,L=>Yo (Jy F x0 n) x0 J I G u j f qbg qbr qbs Z V S O L
def yw (F:Nat) (f x0:bCK):bCU:=fun L J I G u j qbg qbr qbs qbt Z V S O=>Jy F (Yw f x0) F L J I G u j qbg qbr qbs qbt Z V S O
def p8 (F:Nat) (f:bCK):Nat->bCK
 |0,_,_,_,_,_,_,_,_,_,_,_=>False
 |n+1,t4,I,G,u,j,Z,V,S,O,L,J=>Yp (p8 F f n) f t4 I G u j Z V S O L J (yw F (p8 F f n) f)
def yx (F:Nat) (I x0:bCR):bCK:=fun t4 G u j f Z V S O L J=>p8 F (aFs I x0) F t4 G u j f Z V S O L J
def xE (F:Nat) (f:bCR):Nat->bCR
 |0,_,_,_,_,_,_,_,_=>False
 |n+1,u,j,S,O,L,J,I,G=>Yr (xE F f n) f u j S O L J I G (yx F (xE F f n) f)
def W0 (F:Nat) (Q:List (List aA)->Int->Prop):bCR:=fun j f O L J I G u=>xE F (aFu Q) F j f O L J I G u
def rU (F:Nat) (G:bCO):Nat->bCO
 |0,_,_,_,_,_,_,_,_=>False
 |n+1,u,j,f,S,O,L,J,I=>Yt (rU F G n) G u j f S O L J I (yy F (rU F G n) G)
def W4 (F:Nat) (Q:List (List aA)->Int->Prop):bCO:=fun u j f O L J I G=>rU F (fun u j f O L J I G=>gl Q u j f O L J I G (W0 F Q)) F u j f O L J I G
def Eo (F:Nat) (O:bCO):Nat->bCO
 |0,_,_,_,_,_,_,_,_=>False
 |n+1,S,j,f,L,J,I,G,u=>Yu (Eo F O n) O S j f L J I G u
def Wg (F:Nat) (Q:List (List aA)->Int->Prop):bCO:=fun O j f L J I G u=>Eo F (fun O j f L J I G u=>gn Q O j f L J I G u (W4 F Q)) F O j f L J I G u
def Ep (F:Nat) (J:bCd):Nat->bCd
 |0,_,_,_,_,_,_=>False
 |n+1,L,u,j,f,I,G=>Yv (Ep F J n) J L u j f I G
def yz (F:Nat) (Q:List (List aA)->Int->Prop):bCd:=fun J u j f I G=>Ep F (fun J u j f I G=>Ox Q J u j f I G (Wg F Q)) F J u j f I G
def Ka (F:Nat) (I G:bC1):Nat->bC1
 |0,_,_,_,_,_,_,_,_,_,_,_,_,_=>False
 |n+1,L,J,u,j,f,bE,bD,bG,bF,V,Z,O,S=>aFr (Ka F I G n) I G L J u j f bE bD bG bF V Z O S
def za (F:Nat) (Q:List (List aA)->Int->Prop):bC1:=fun I G u j f bE bD V Z O S J L=>Ka F (aFw Q) (fun I G u j f bE bD V Z O S J L=>aFv Q I G u j f bE bD V Z O S J L (yz F Q)) F I G u j f bE bD V Z O S J L
def pt (F:Nat) (O L:ByteArray) (J I G u:Int) (j f:List aA) (a1:List Seg) (Q:List (List aA)->Int->Prop):Prop:=gg O L J I G u j f a1 Q (za F Q)
set_option maxRecDepth 20000
def Gh (nm mt:ByteArray) (g gr w h:Int) (cl us:List aA) (s:Seg):Bool:=Fb nm mt g gr w h cl us s.X1 s.Y1 s.X2 s.Y2
def Ut (nm mt:ByteArray) (g gr w h:Int) (cl us:List aA) (ls:List Seg):Prop:=True
def kG (nm mt:ByteArray) (g gr w h:Int) (cl us:List aA) (ls:List Seg):List (List aA)×Int:=
 cond (jX nm mt g gr w h cl us !=0) ([],jX nm mt g gr w h cl us) (cond (decide (200<(ls.length:Int))) ([],4) (cond (!(ls.all (Gh nm mt g gr w h cl us))) ([],1)
  (cond (decide (6000<(((gxs w ls).length:Int)-1)*(((gys h ls).length:Int)-1))) ([],4) (pF w h ls,0))))
theorem aDE {nm mt:ByteArray} {g gr w h:Int} {cl us:List aA} {s:Seg}:Gh nm mt g gr w h cl us s=true↔jY w h s:=by
 simp_all[qA,and_assoc,Gh,Fb,jY]
theorem tm {nm mt:ByteArray} {g gr w h:Int} {cl us:List aA} (f:(jX nm mt g gr w h cl us !=0)=false):1<=w/\w<=1048576/\1<=h/\h<=1048576:=by
 grind [jX,rZ]
abbrev LI:=zzI
abbrev LB:=zzB
abbrev XS:=LI->LI->LB->LB->zzZ->Prop
abbrev X4:=Int->Int->List Seg->Int->Int->Int->Int->Int->Int->XS
abbrev X3:=List Seg->Int->Int->XS
abbrev X5:=Int->Int->LI->LI->LB->LB->zzZ->List (List aA)->Prop
abbrev X7:=Int->Int->Int->X5
abbrev X8:=Int->Int->Int->Int->Int->Int->Int->LI->LI->LB->LB->zzZ->List Par->List (List aA)->Prop
theorem lp1 (F:Nat) (f:List Seg->List Seg->Int->Int->LI->LI->Prop) (ls:List Seg) (G:ls.length<=200):∀(n i:Nat) (xs ys:LI),i<=ls.length->ls.length<n+i->xs.length=2+2*i->ys.length=2+2*i->
  f ls ls ls.length ls.length (xs++(ls.drop i).flatMap fun s=>[s.X1,s.X2]) (ys++(ls.drop i).flatMap fun s=>[s.Y1,s.Y2])->Ep F f n ls ls ls.length i xs ys:=by
 intro n
 induction n with
 |zero=>omega
 |succ n j=>
  intro i xs ys O L J I u;show Yv _ _ _ _ _ _ _ _;unfold Yv
  by_cases h:i<ls.length
  ·rw[dD (show (i:Int)<ls.length by omega),QY];simp only[QZ];refine⟨⟨KI,KI⟩,by grind,by grind,?_⟩;rw[dX h KI];refine j (i+1) _ _ KI KI (by grind) (by grind) ?_;grind [nR]
  grind
theorem lp2 (F:Nat) (f:X3) (ls:List Seg) (xs ys:LI) (L:xs.length<=1000) (J:ys.length<=1000) (u:f ls xs.length xs.length xs ys (List.replicate xs.length (List.replicate ys.length false)) (List.replicate xs.length (List.replicate ys.length false)) (List.replicate xs.length (List.replicate ys.length (-1)))):
  ∀(n i:Nat),i<=xs.length->xs.length<n+i->Eo F f n ls xs.length i xs ys (List.replicate i (List.replicate ys.length false)) (List.replicate i (List.replicate ys.length false)) (List.replicate i (List.replicate ys.length (-1))):=by
 intro n
 induction n with
 |zero=>omega
 |succ n j=>
  intro i I G;show Yu _ _ _ _ _ _ _ _ _ _;unfold Yu
  by_cases h:i<xs.length
  ·rw[dD (show (i:Int)<xs.length by omega),QY];simp only[QZ,KP];refine⟨⟨KI,by trivial,KI⟩,KI,⟨KI,by trivial,KI⟩,KI,⟨rfl,KI,KI⟩,KI,?_⟩;grind [dX,Kr,List.replicate_succ']
  grind
theorem lp4 (F:Nat) (x0:X4) (ls:List Seg) (I G c0 c1 L c3:Int) (xs ys:LI) (lf:LB) (J:zzZ) (k:Nat) (hk:k<ys.length) (sN:xs.length<=1000) (hs:asc xs) (hm:L∈xs):
  ∀(n a:Nat) (bl:LB) (f:Nat->Nat->Bool),Tab xs.length ys.length bl f->xs.length<n+a->
  (∀b u,(b=max a (dU xs L))->Tab xs.length ys.length u (fun i j=>f i j||decide (a<=i/\i<dU xs L/\j=k))->x0 b k ls I G c0 c1 L c3 xs ys lf u J)->
  a<xs.length->En F x0 n a k ls I G c0 c1 L c3 xs ys lf bl J:=by
 obtain⟨hb,hbv⟩:=uO hs hm;intro n
 induction n with
 |zero=>omega
 |succ n ih=>
  intro a bl f V h2 hx S;show Ys _ _ _ _ _ _ _ _ _ _ _ _ _ _ _ _;unfold Ys;simp only[QZ];refine⟨⟨KI,KI⟩,?_⟩;have O:=Ce xs L hs.le a S
  by_cases h:a<dU xs L
  ·rw[dD (O.2 h),QY];have hr:=V.2.1 a S;have hl:=V.1;refine⟨⟨⟨KI,KI⟩,KI,KI⟩,?_⟩;rw[dX S KI];refine ih (a+1) _ _ (V.set S hk) KI (fun b u hb' Z=>hx b u KI (Z.congr fun i j hi hj=>?_)) KI;grind
  ·rw[dB (fun q=>h (O.1 q)),QK];refine hx a bl KI (V.congr fun i j hi hj=>?_);grind [decide_eq_false]
theorem lp6 (F:Nat) (x0:X4) (ls:List Seg) (I G c0 c1 c2 L:Int) (xs ys:LI) (bl:LB) (J:zzZ) (b:Nat) (hb:b<xs.length) (sN:ys.length<=1000) (hs:asc ys) (hm:L∈ys):
  ∀(n a:Nat) (lf:LB) (f:Nat->Nat->Bool),Tab xs.length ys.length lf f->ys.length<n+a->
  (∀t u,Tab xs.length ys.length u (fun i j=>f i j||decide (i=b/\a<=j/\j<dU ys L))->x0 b t ls I G c0 c1 c2 L xs ys u bl J)->
  a<ys.length->Jz F x0 n b a ls I G c0 c1 c2 L xs ys lf bl J:=by
 obtain⟨hbb,hbv⟩:=uO hs hm;intro n
 induction n with
 |zero=>omega
 |succ n ih=>
  intro a lf f S h2 hx V;show Yq _ _ _ _ _ _ _ _ _ _ _ _ _ _ _ _;unfold Yq;simp only[QZ];refine⟨⟨KI,KI⟩,?_⟩;have O:=Ce ys L hs.le a V
  by_cases h:a<dU ys L
  ·rw[dD (O.2 h),QY];have hr:=S.2.1 b hb;have hl:=S.1;refine⟨⟨⟨KI,KI⟩,KI,KI⟩,?_⟩;rw[dX V KI];refine ih (a+1) _ _ (S.set hb V) KI (fun t u Z=>hx t u (Z.congr fun i j hi hj=>?_)) KI;grind
  ·rw[dB (fun q=>h (O.1 q)),QK];refine hx a lf (S.congr fun i j hi hj=>?_);grind [decide_eq_false]
theorem aTz (xs ys:LI) (ls:List Seg) (s:Seg) (i k:Nat):lfG xs ys (ls++[s]) i k=(lfG xs ys ls i k||decide (i=dU xs s.X1/\dU ys s.Y1<=k/\k<dU ys s.Y2)):=by
 unfold lfG;simp
theorem bAi (xs ys:LI) (ls:List Seg) (s:Seg) (i k:Nat):blG xs ys (ls++[s]) i k=(blG xs ys ls i k||decide (dU xs s.X1<=i/\i<dU xs s.X2/\k=dU ys s.Y1)):=by
 unfold blG;simp
theorem M1 {α:Type} [Inhabited α] (l:List α) (i:Nat) (h:i<l.length):l.take (i+1)=l.take i++[l.getD i default]:=by
 simp_all
theorem lp3 (F:Nat) (u:X3) (ls:List Seg) (hl:ls.length<=200) (w h:Int) (xs ys:LI) (sN:xs.length<=1000) (Gq:ys.length<=1000) (j:asc xs) (G:asc ys) (hF:2000<F) (f:zzZ)
  (hls:∀s∈ls,jY w h s/\s.X1∈xs/\s.X2∈xs/\s.Y1∈ys/\s.Y2∈ys)
  (hx:∀lf bl,Tab xs.length ys.length lf (lfG xs ys ls)->Tab xs.length ys.length bl (blG xs ys ls)->u ls ls.length ls.length xs ys lf bl f):
  ∀(n i:Nat) (lf bl:LB),i<=ls.length->ls.length<n+i->Tab xs.length ys.length lf (lfG xs ys (ls.take i))->Tab xs.length ys.length bl (blG xs ys (ls.take i))->rU F u n ls ls.length i xs ys lf bl f:=by
 intro n
 induction n with
 |zero=>omega
 |succ n ih=>
  intro i lf bl h1 h2 hT hU;show Yt _ _ _ _ _ _ _ _ _ _ _;unfold Yt
  by_cases hi:i<ls.length
  ·rw[dD (show (i:Int)<ls.length by omega),QY];simp only[QZ];have L:ls.getD i default∈ls:=by
    grind
   have O:=M1 ls i hi;generalize ls.getD i default=s at L O;obtain⟨⟨ho1,ho2⟩,m1,m2,m3,m4⟩:=hls s L;refine⟨⟨KI,KI⟩,⟨j.le,KI⟩,⟨G.le,KI⟩,?_⟩;show En F (fun t13 t15 Z V S qbc qbd qbe qbf qbm qbn qbo qbp qbq=>gh (rU F u n) u t13 t15 Z V S qbc qbd qbe qbf qbm qbn qbo qbp qbq (V9 F (rU F u n) u)) F (dU xs s.X1:Nat) (dU ys s.Y1:Nat) ls ls.length i s.X1 s.Y1 s.X2 s.Y2 xs ys lf bl f;obtain⟨b1,v1⟩:=uO j m1;obtain⟨b2,v2⟩:=uO j m2;obtain⟨b3,v3⟩:=uO G m3;obtain⟨b4,v4⟩:=uO G m4;have mono:∀{l:LI},asc l->∀{x y:Int},x∈l->y∈l->x<=y->dU l x<=dU l y:=fun {l} hl {x y} hx hy hxy=>by
    obtain⟨c1,u1⟩:=uO hl hx;obtain⟨c2,u2⟩:=uO hl hy
    by_cases q:dU l x<=dU l y
    ·exact q
    ·have:=hl.get (show dU l y<dU l x by omega) c1;omega
   have g1:=mono j m1 m2 KI;refine lp4 F _ ls _ _ _ _ _ _ xs ys lf f (dU ys s.Y1) b3 sN j m2 F (dU xs s.X1) bl _ hU KI (fun b I hb hU'=>?_) b1;have dR:b=dU xs s.X2:=KI;subst dR;show Jz F (aFt (rU F u n) u) F (dU xs s.X2:Nat) (dU ys s.Y1:Nat) ls ls.length i s.X1 s.Y1 s.X2 s.Y2 xs ys lf I f;refine lp6 F _ ls _ _ _ _ _ _ xs ys I f (dU xs s.X2) b2 Gq G m4 F (dU ys s.Y1) lf _ hT KI (fun t J hT'=>?_) b3;show rU F u n ls ls.length (aB ((i:Int)+1)) xs ys J I f;rw[dX hi KI];refine ih (i+1) J I KI KI (hT'.congr fun a c ha hc=>?_) (hU'.congr fun a c ha hc=>?_)
   ·grind [aTz]
   ·rw[O,bAi]
  grind
theorem aO9 (S x0:X8) (Z V O L J I n:Int) (xs ys:LI) (lf bl:LB) (j:zzZ) (f:List Par) (out:List (List aA)):
  Yo S x0 Z V O L J I n xs ys lf bl j f out=
  cond (decide (0<(f.length:Int))) (((0<=(aB ((f.length:Int)-1))/\(aB ((f.length:Int)-1))<f.length)/\((0<=(0:Int)/\(0:Int)<2)/\(let u:=(f.getD ((aB ((f.length:Int)-1)).toNat) default).e0;
   ((0<=(aB ((f.length:Int)-1))/\(aB ((f.length:Int)-1))<f.length)/\((0<=(1:Int)/\(1:Int)<2)/\(let G:=(f.getD ((aB ((f.length:Int)-1)).toNat) default).e1;
   ((0<=(aB ((f.length:Int)-1))/\(aB ((f.length:Int)-1))<=f.length)/\
   uA ((decide (0<u))=true->((0<=u/\u<lf.length)/\0<=G/\G<(lf.getD u.toNat default).length)) ((decide (0<u))&&(!((lf.getD u.toNat default).getD G.toNat default))) (ma (aB (u-1)) 0) G n j (f.take ((aB ((f.length:Int)-1)).toNat)) fun j f=>
   uA ((decide ((aB (u+2))<(xs.length:Int)))=true->((0<=(aB (u+1))/\(aB (u+1))<lf.length)/\0<=G/\G<(lf.getD ((aB (u+1)).toNat) default).length)) ((decide ((aB (u+2))<(xs.length:Int)))&&(!((lf.getD ((aB (u+1)).toNat) default).getD G.toNat default))) (aB (u+1)) G n j f fun j f=>
   uA ((decide (0<G))=true->((0<=u/\u<bl.length)/\0<=G/\G<(bl.getD u.toNat default).length)) ((decide (0<G))&&(!((bl.getD u.toNat default).getD G.toNat default))) u (ma (aB (G-1)) 0) n j f fun j f=>
   uA ((decide ((aB (G+2))<(ys.length:Int)))=true->((0<=u/\u<bl.length)/\0<=(aB (G+1))/\(aB (G+1))<(bl.getD u.toNat default).length)) ((decide ((aB (G+2))<(ys.length:Int)))&&(!((bl.getD u.toNat default).getD ((aB (G+1)).toNat) default))) u (aB (G+1)) n j f fun j f=>
   S Z V O L J I n xs ys lf bl j f out)))))))) (x0 Z V O L J I n xs ys lf bl j f out):=rfl
theorem lp8 (F:Nat) (x0:X8) (t4 t5 Z V O J:Int) (xs ys:LI) (lf bl:LB) (f g:Nat->Nat->Bool) (w h n:Nat) (hw:xs.length=w+1) (hh:ys.length=h+1) (wF:w<=1000) (Yc:h<=1000)
  (hT:Tab xs.length ys.length lf f) (hU:Tab xs.length ys.length bl g) (out:List (List aA)) (L0:Pl->Option Nat) (c0:Pl) (h0:L0 c0=none) (hf:∀d,L0 d≠some n)
  (hx:∀G,Arr cdP w h G (lY (nbs w h f g) L0 c0 n)->x0 t4 t5 Z V O J n xs ys lf bl G [] out):
  ∀(m:Nat) (L:Pl->Option Nat) (S:List Pl) (u:zzZ) (j:List Par),Arr cdP w h u L->j=S.map Bw->mW (nbs w h f g) (cellsOf w h) L0 c0 n (fun _=>False) L S->free (cellsOf w h) L+S.length<=2000000->free (cellsOf w h) L+S.length<m->
   Jy F x0 m t4 t5 Z V O J n xs ys lf bl u j out:=by
 intro m
 induction m with
 |zero=>omega
 |succ m ih=>
  intro L S u j A hTd W hr hm;show Yo _ _ _ _ _ _ _ _ _ _ _ _ _ _ _ _;rw[aO9];rcases List.eq_nil_or_concat S with rfl|⟨S',c,rfl⟩
  ·subst hTd;rw[dB XQ,QK];refine hx u ?_;rw[<- W.done h0];exact A
  ·rw[List.concat_eq_append] at hTd W hr hm;obtain⟨hcn,hcc⟩:=W.mem c XQ;obtain⟨i,k⟩:=c;obtain⟨hci,hck⟩:=vY.1 hcc;replace hci:i<w:=hci;replace hck:k<h:=hck;rw[QM,JE] at hr hm;have hlen:j.length=S'.length+1:=by grind
   have e1:aB ((j.length:Int)-1)=(S'.length:Nat):=by
    grind [cN]
   have e2:j.getD S'.length default=Bw (i,k):=by
    grind
   have e3:j.take S'.length=S'.map Bw:=by
    grind
   rw[dD (show (0:Int)<(j.length:Int) by omega),QY,e1];have e4:(Bw (i,k)).e0=(i:Int):=rfl;have e5:(Bw (i,k)).e1=(k:Int):=rfl;have e6:aB ((i:Int)+1)=((i+1:Nat):Int):=by grind [cN]
   have e7:aB ((k:Int)+1)=((k+1:Nat):Int):=by grind [cN]
   have e8:aB ((i:Int)+2)=(i:Int)+2:=cN KI KI;have e9:aB ((k:Int)+2)=(k:Int)+2:=cN KI KI;have e10:ma (aB ((i:Int)-1)) 0=((i-1:Nat):Int):=by
    grind [cN,ma]
   have km:ma (aB ((k:Int)-1)) 0=((k-1:Nat):Int):=by
    grind [cN,ma]
   obtain⟨T1,T2,T3⟩:=hT;obtain⟨U1,U2,U3⟩:=hU;simp only[QZ,e2,e3,e4,e5,e6,e7,e8,e9,e10,km];refine⟨KI,KI,KI,KI,KI,?_⟩;have hnb:nbs w h f g (i,k)=(if 0<i/\f i k=false then [(i-1,k)] else [])++(if i+1<w/\f (i+1) k=false then [(i+1,k)] else [])++(if 0<k/\g i k=false then [(i,k-1)] else [])++(if k+1<h/\g i (k+1)=false then [(i,k+1)] else []):=by
    grind [nbs]
   refine Wy (w:=w) (h:=h) (L:=L) (S:=S') (n:=n) (l:=if 0<i/\f i k=false then [(i-1,k)] else []) A rfl KI (fun q=>?_) ?_ fun part1 todo1 s1 wH A1 hT1 fD=>?_
   ·grind
   ·by_cases p:0<i/\f i k=false
    ·grind
    ·refine .inl ⟨?_,QF p⟩;grind
   refine Wy (w:=w) (h:=h) (L:=s1.1) (S:=s1.2) (n:=n) (l:=if i+1<w/\f (i+1) k=false then [(i+1,k)] else []) A1 hT1 fD (fun q=>?_) ?_ fun part2 todo2 s2 Ol A2 hT2 mN=>?_
   ·have:=T2 (i+1) KI;omega
   ·by_cases p:i+1<w/\f (i+1) k=false
    ·grind
    grind
   refine Wy (w:=w) (h:=h) (L:=s2.1) (S:=s2.2) (n:=n) (l:=if 0<k/\g i k=false then [(i,k-1)] else []) A2 hT2 mN (fun q=>?_) ?_ fun part3 todo3 s3 hs3 A3 hT3 hr3=>?_
   ·grind
   ·by_cases p:0<k/\g i k=false
    ·grind
    ·refine .inl ⟨?_,QF p⟩;grind
   refine Wy (w:=w) (h:=h) (L:=s3.1) (S:=s3.2) (n:=n) (l:=if k+1<h/\g i (k+1)=false then [(i,k+1)] else []) A3 hT3 hr3 (fun q=>?_) ?_ fun part4 todo4 s4 hs4 A4 hT4 hr4=>?_
   ·have:=U2 i KI;omega
   ·by_cases p:k+1<h/\g i (k+1)=false
    ·grind
    grind
   have hv:visit n (nbs w h f g (i,k)) (L,S')=s4:=by
    grind [visit]
   have I:=ru (n:=n) (cells:=cellsOf w h) (nbs w h f g (i,k)) (L,S') (fun e he=>U0 he);rw[hv] at I;simp only at I;have hW:=W.next (c:=(i,k)) (rest:=S') (l:=nbs w h f g (i,k)) XQ (fun d hd=>by
    grind) (fun d hd=>List.mem_append_left _ hd) hf (fun e he=>⟨he,U0 he⟩) (fun e he=>he)
   grind
def oO (w k i:Nat):List Pl:=cellsOf w k++(List.range i).map fun i=>(i,k)
theorem aQH (w k i:Nat):oO w k (i+1)=oO w k i++[(i,k)]:=by
 grind [oO,List.range_succ]
theorem aQI (w k:Nat):oO w k w=oO w (k+1) 0:=by
 grind [oO,cellsOf,List.range_succ]
theorem aQJ (w k i:Nat):(oO w k i).length=k*w+i:=by
 grind [oO,lq]
theorem aW4 (cells:List Pl) (L:Pl->Option Nat):free cells L<=cells.length:=List.length_filter_le _ _
theorem lp7 (F:Nat) (x0:X7) (xs ys:LI) (lf bl:LB) (f g:Nat->Nat->Bool) (w h:Nat) (hw:xs.length=w+1) (hh:ys.length=h+1) (wF:w<=1000) (Yc:h<=1000) (hF:2000000<F+1) (hwh:h*w<=10000)
  (hbx:∀j,j<xs.length->0<=xs.getD j default/\xs.getD j default<=1048576) (hby:∀j,j<ys.length->0<=ys.getD j default/\ys.getD j default<=1048576)
  (hT:Tab xs.length ys.length lf f) (hU:Tab xs.length ys.length bl g) (k:Nat) (V:k<h)
  (hx:∀u J L',nW (nbs w h f g) (hG xs ys) (oO w k w) (fun _=>none,[])=(L',J)->Arr cdP w h u L'->x0 k h k w w xs ys lf bl u J):
  ∀(n i:Nat) (G:zzZ) (out:List (List aA)) (L:Pl->Option Nat),i<=w->w<n+i->nW (nbs w h f g) (hG xs ys) (oO w k i) (fun _=>none,[])=(L,out)->Arr cdP w h G L->
   p8 F x0 n k h k w i xs ys lf bl G out:=by
 intro n
 induction n with
 |zero=>omega
 |succ n ih=>
  intro i G out L h1 h2 O A;show Yp _ _ _ _ _ _ _ _ _ _ _ _ _ _;unfold Yp
  by_cases hi:i<w
  ·rw[dD (show (i:Int)<(w:Int) by omega),QY];have I:=lM.run (Gf (w:=w) (h:=h) (lf:=f) (bl:=g)) (rect:=hG xs ys) (oO w k i) [] (fun _=>none,[]) (lM.nil _ _);rw[O,List.nil_append] at I;simp only at I;have hpl:(oO w k i).length<=10000:=by
    rw[aQJ];have:(k+1)*w<=h*w:=QC w V;grind
   have hol:out.length<=10000:=by
    grind [O3]
   have hml:∀j,(out.getD j default).length<=10000:=fun j=>by
    refine JT (aHA out j) ?_;rw[I.perm.length_eq,KJ];omega
   have hnext:nW (nbs w h f g) (hG xs ys) (oO w k (i+1)) (fun _=>none,[])=pE (nbs w h f g) (hG xs ys) (L,out) (i,k):=by
    rw[aQH,aMb,O];rfl
   obtain⟨A1,A2,A3⟩:=id A;have a2:=A2 i hi;have a3:=A3 i k hi V;have e1:aB ((i:Int)+1)=((i+1:Nat):Int):=by grind [cN]
   have e2:aB ((k:Int)+1)=((k+1:Nat):Int):=by grind [cN]
   have er:aA.mk (xs.getD i default) (ys.getD k default) (aB (xs.getD (i+1) default-xs.getD i default)) (aB (ys.getD (k+1) default-ys.getD k default))=hG xs ys (i,k):=by
    have b1:=hbx i KI;have b2:=hbx (i+1) KI;have b3:=hby k KI;have b4:=hby (k+1) KI;rw[cN KI KI,cN KI KI];rfl
   simp only[QZ,e1,e2,er,a3];refine⟨⟨⟨KI,KI⟩,KI,KI⟩,?_⟩;cases Z:L (i,k) with
   |none=>
    rw[Z] at a3;rw[dD ((lr none).2 rfl),QY];refine⟨⟨KI,KI⟩,⟨KI,KI⟩,?_⟩;show Jy F (Yw (p8 F x0 n) x0) F k i h k w i (out.length:Nat) xs ys lf bl (G.set i ((G.getD i default).set k (out.length:Nat))) [Par.mk i k] out;have hf:∀d,L d≠some out.length:=fun d q=>by
     have:=I.bound d _ q;omega
    have hcm:(i,k)∈cellsOf w h:=vY.2 ⟨hi,V⟩;have hfl:=aW4 (cellsOf w h) (upd L (i,k) out.length);rw[lq] at hfl;refine lp8 F _ _ _ _ _ _ _ xs ys lf bl f g w h out.length hw hh wF Yc hT hU out L (i,k) Z hf (fun u A'=>?_) F (upd L (i,k) out.length) [(i,k)] _ _ (A.set hi V) rfl (mW.init Z hcm hf) (by grind) (by grind);obtain⟨B1,B2,B3⟩:=id A';have b2:=B2 i hi;have b3:=B3 i k hi V;have hcc:lY (nbs w h f g) L (i,k) out.length (i,k)=some out.length:=by
     unfold lY;rw[JQ .base]
    rw[hcc] at b3;show Yw _ _ _ _ _ _ _ _ _ _ _ _ _ _ _ _;unfold Yw;have b4:(u.getD i default).getD k default=((out.length:Nat):Int):=b3;have Gv:(out++[[]]).getD out.length default=([]:List aA):=XQ;have S:(out++[([]:List aA)]).length=out.length+1:=XQ;simp only[QZ,e1,e2,er,b4,S,Gv,KR,KW,JE,List.nil_append];refine⟨KI,⟨⟨KI,KI⟩,KI,KI⟩,⟨KI,KI⟩,⟨KI,KI⟩,⟨KI,KI⟩,⟨KI,KI⟩,⟨KI,KI⟩,⟨KI,KI⟩,⟨KI,KI⟩,KI,⟨KI,KI⟩,⟨by trivial,by trivial⟩,?_⟩;grind [pE]
   |some j=>
    rw[Z] at a3;have hjb:=I.bound _ _ Z;have pO:cdP (some j)=((j:Nat):Int):=rfl;have hm:=hml j;simp only[pO,QZ,KR,JE];grind [pE]
  grind
theorem lp5 (F:Nat) (I:X5) (xs ys:LI) (lf bl:LB) (f g:Nat->Nat->Bool) (w h:Nat) (hw:xs.length=w+1) (hh:ys.length=h+1) (wF:w<=1000) (Yc:h<=1000) (hF:2000000<F+1) (S:h*w<=10000)
  (Z:∀j,j<xs.length->0<=xs.getD j default/\xs.getD j default<=1048576) (V:∀j,j<ys.length->0<=ys.getD j default/\ys.getD j default<=1048576)
  (hT:Tab xs.length ys.length lf f) (hU:Tab xs.length ys.length bl g)
  (hx:∀u,I h h xs ys lf bl u (yA (nbs w h f g) (hG xs ys) (cellsOf w h))):
  ∀(n k:Nat) (u:zzZ) (out:List (List aA)) (L:Pl->Option Nat),k<=h->h<n+k->nW (nbs w h f g) (hG xs ys) (oO w k 0) (fun _=>none,[])=(L,out)->Arr cdP w h u L->
   xE F I n h k xs ys lf bl u out:=by
 intro n
 induction n with
 |zero=>omega
 |succ n ih=>
  intro k u out L h1 h2 O A;show Yr _ _ _ _ _ _ _ _ _ _ _;unfold Yr
  by_cases hk:k<h
  ·rw[dD (show (k:Int)<(h:Int) by omega),QY];have e1:aB ((xs.length:Int)-1)=(w:Nat):=by
    grind [cN]
   rw[e1];show p8 F (aFs (xE F I n) I) F k h k w (0:Nat) xs ys lf bl u out;refine lp7 F _ xs ys lf bl f g w h hw hh wF Yc hF S Z V hT hU k hk (fun G J L' hrun' A'=>?_) F 0 u out L KI KI O A;show xE F I n h (aB ((k:Int)+1)) xs ys lf bl G J;grind [dX,aQI]
  grind [oO,yA]
theorem bBC (w h m n:Nat) (hw:w<=m) (hh:h<=n):Arr cdP w h (List.replicate m (List.replicate n (-1))) (fun _=>none):=by
 have e:∀i,i<m->(List.replicate m (List.replicate n (-1:Int))).getD i default=List.replicate n (-1):=fun i hi=>by
  grind
 refine⟨by grind,fun i hi=>by grind,fun i k hi f=>?_⟩;rw[e i KI,List.getD_eq_getElem?_getD,List.getElem?_replicate,JQ KI];rfl
theorem aEu {l:LI} {j:Nat} (h:j<l.length):l.getD j default∈l:=by
 grind
theorem aRW (qf qg:ByteArray) (qh qi f G:Int) (Z V:List aA) (a1:List Seg) (h:Ut qf qg qh qi f G Z V a1):∃F,∀Q:List (List aA)->Int->Prop,Q ((kG qf qg qh qi f G Z V a1).1) ((kG qf qg qh qi f G Z V a1).2)->pt F qf qg qh qi f G Z V a1 Q:=by
 refine⟨2000001,fun Q I=>?_⟩;generalize hFq:2000001=F;have hF:2000000<F:=KI;clear hFq;unfold pt gg;unfold kG at I;dsimp only;cases h1:(jX qf qg qh qi f G Z V !=0) with
 |true=>
  grind
 |false=>
 rw[h1] at I;simp only[QK] at I ⊢
 by_cases h2:200<(a1.length:Int)
 ·grind
 rw[dB h2] at I ⊢;simp only[QK] at I ⊢;obtain⟨w1,w2,w3,w4⟩:=tm h1;refine Ia a1 (Gh qf qg qh qi f G Z V) KI (fun n i=>Ka F _ _ n a1 0 a1 a1.length i qf qg qh qi f G Z V) _ _ (fun n i=>rfl) F KI (fun q j=>?_) (fun q=>?_)
 ·rw[q] at I;exact I
 rw[q] at I;simp only[Bool.not_true,QK] at I;have hok:∀s∈a1,jY f G s:=fun s J=>aDE.1 (QT.1 q s J)
 show Ep F (fun t1 t23 t24 t25 O L=>Ox Q t1 t23 t24 t25 O L (Wg F Q)) F a1 a1 a1.length (0:Nat) [0,f] [0,G];refine lp1 F _ a1 KI F 0 _ _ KI KI rfl rfl ?_;rw[List.drop_zero];show Ox _ _ _ _ _ _ _ _;unfold Ox;have lx:([0,f]++a1.flatMap fun s=>[s.X1,s.X2]).length=2+2*a1.length:=by rw[QM,Zi];rfl
 have ly:([0,G]++a1.flatMap fun s=>[s.Y1,s.Y2]).length=2+2*a1.length:=by simp_all
 refine⟨KI,KI,?_⟩;have gx:=aVd f a1;have gy:=aVb G a1;have px:=Yj f a1;have py:=Yi G a1;have ax:=lX f a1;have ay:=lW G a1;have mx:=fun x=>nP (w:=f) (ls:=a1) (x:=x)
 have my:=fun x=>nO (h:=G) (ls:=a1) (x:=x)
 unfold pF nbG at I;change cond (decide (6000<aB ((aB (((gxs f a1).length:Int)-1))*(aB (((gys G a1).length:Int)-1))))) (Q [] 4) (Wg F Q a1 ((gxs f a1).length:Int) 0 (gxs f a1) (gys G a1) [] [] []);generalize gxs f a1=xs at*;generalize gys G a1=u at*;have hxw:∃w:Nat,xs.length=w+1:=⟨xs.length-1,KI⟩;have hyh:∃w:Nat,u.length=w+1:=⟨u.length-1,KI⟩;obtain⟨w,hw⟩:=hxw;obtain⟨hh,hhh⟩:=hyh;have ew:((xs.length:Int)-1)=(w:Nat):=KI;have eh:((u.length:Int)-1)=(hh:Nat):=KI;have ew':xs.length-1=w:=KI;have eh':u.length-1=hh:=KI;have hmul:w*hh<=1000*1000:=Nat.mul_le_mul KI KI;have S:(w:Int)*(hh:Int)=((w*hh:Nat):Int):=by rfl
 rw[ew,eh,S,ew',eh'] at I;rw[ew,eh,cN (n:=(w:Int)) KI KI,cN (n:=(hh:Int)) KI KI,S,cN KI KI]
 by_cases h3:6000<((w*hh:Nat):Int)
 ·grind
 rw[dB h3] at I ⊢;simp only[QK] at I ⊢;have hls:∀s∈a1,jY f G s/\s.X1∈xs/\s.X2∈xs/\s.Y1∈u/\s.Y2∈u:=fun s J=>
  ⟨hok s J,(mx _).2 (.inr (.inr ⟨s,J,.inl rfl⟩)),(mx _).2 (.inr (.inr ⟨s,J,.inr rfl⟩)),(my _).2 (.inr (.inr ⟨s,J,.inl rfl⟩)),(my _).2 (.inr (.inr ⟨s,J,.inr rfl⟩))⟩
 have hbx:∀j,j<xs.length->0<=xs.getD j default/\xs.getD j default<=1048576:=fun j hj=>by
  rcases(mx _).1 (aEu hj) with e|e|⟨s,J,e⟩
  ·omega
  ·omega
  ·have:=(hok s J).1;omega
 have hby:∀j,j<u.length->0<=u.getD j default/\u.getD j default<=1048576:=fun j hj=>by
  rcases(my _).1 (aEu hj) with e|e|⟨s,J,e⟩
  ·omega
  ·omega
  ·have:=(hok s J).1;omega
 show Eo F (fun t1 t68 t69 O L qbo qbp qbq=>gn Q t1 t68 t69 O L qbo qbp qbq (W4 F Q)) F a1 xs.length (0:Nat) xs u (List.replicate 0 (List.replicate u.length false)) (List.replicate 0 (List.replicate u.length false)) (List.replicate 0 (List.replicate u.length (-1)));refine lp2 F _ a1 xs u KI KI ?_ F 0 KI KI;show rU F (fun t118 t119 t120 O L qbo qbp qbq=>gl Q t118 t119 t120 O L qbo qbp qbq (W0 F Q)) F a1 a1.length (0:Nat) xs u _ _ _;refine lp3 F _ a1 KI f G xs u KI KI ax ay KI _ hls (fun lf bl hT hU=>?_) F 0 _ _ KI KI (Tab.rep _ _) (Tab.rep _ _);show xE F (aFu Q) F (aB ((u.length:Int)-1)) (0:Nat) xs u lf bl _ [];rw[eh,cN KI KI];refine lp5 F _ xs u lf bl _ _ w hh hw hhh KI KI KI (by grind) hbx hby hT hU (fun part=>?_) F 0 _ [] (fun _=>none) KI KI ?_ (bBC w hh _ _ KI KI)
 ·exact I
 rfl
def Kv (u G L O f j J I:Int):Bool:=((((((lF u G L O)&&(lF f j J I))&&(decide (u<(aB (f+J)))))&&(decide (f<(aB (u+L)))))&&(decide (G<(aB (j+I)))))&&(decide (j<(aB (G+O)))))
def Fg (u G L O f j J I:Int):Int:=cond ((!(lF u G L O))||(!(lF f j J I))) (0) (ma (ma (ma (ma 0 (aB ((aB (f-u))-L))) (aB ((aB (u-f))-J))) (aB ((aB (j-G))-O))) (aB ((aB (G-j))-I)))
def M7 (u G L O f j J I:Int):Bool:=((((aB ((mi (aB (u+L)) (aB (f+J)))-(ma u f)))==0)&&(decide (0<(aB ((mi (aB (G+O)) (aB (j+I)))-(ma G j))))))||(((aB ((mi (aB (G+O)) (aB (j+I)))-(ma G j)))==0)&&(decide (0<(aB ((mi (aB (u+L)) (aB (f+J)))-(ma u f)))))))
def Ku (u G L O f j J I:Int):Int:=aB ((ma (aB ((mi (aB (u+L)) (aB (f+J)))-(ma u f))) 0)*(ma (aB ((mi (aB (G+O)) (aB (j+I)))-(ma G j))) 0))
def M8 (O L J I G u j f:Int):Bool:=(Kv G u j f O L J I)
def Ja:CnT:=cnL [(0,⟨[0,1,4,7,8],[],[],[],[]⟩)]
abbrev Dd:=List aA->Int->Int->Int->Int->Int->Int->Int->Prop
def aG9 (l:List aA) (G u j f:Int) (Q:Int->Prop) (I:Dd):Prop:=I l G u j f 0 (l.length:Int) 0
def aG8 (O Z V:Dd):bC0:=fun j L G I J S u f=>cond (decide (f<u)) ((let e0:=(j.getD f.toNat default);(let r1:=(M8 e0.X e0.Y e0.W e0.H L G I J);((0<=f/\f<j.length)/\cond r1 (Z j L G I J f u f) (O j L G I J S u (aB (f+1))))))) (V j L G I J S u f)
def Sv (F:Nat) (j f:Dd):Nat->Dd
 |0=>fun _ _ _ _ _ _ _ _=>False
 |n+1=>aG8 (Sv F j f n) j f
def Wr (F:Nat) (Q:Int->Prop):Dd:=Sv F (fun _ _ _ _ _ f _ _=>Q f) (fun _ _ _ _ _ _ _ _=>Q (-1)) F
def aLJ (F:Nat) (l:List aA) (G u j f:Int) (Q:Int->Prop):Prop:=aG9 l G u j f Q (Wr F Q)
def Mg (a b c d:Int) (r:aA):Bool:=M8 r.X r.Y r.W r.H a b c d
def Vc (l:List aA) (a b c d:Int):Prop:=l.length<=2000000
def Tu (l:List aA) (a b c d:Int):Int:=pJ (Mg a b c d) l 0
theorem aRa (l:List aA) (G u j f:Int) (h:Vc l G u j f):∃F,∀Q:Int->Prop,Q (Tu l G u j f)->aLJ F l G u j f Q:=by
 refine⟨l.length+1,fun Q J=>?_⟩;show Wr (l.length+1) Q l G u j f 0 (l.length:Int) 0;unfold Wr;exact Xz l (Mg G u j f) h Q (fun n i=>Sv (l.length+1) (fun _ _ _ _ _ I _ _=>Q I) (fun _ _ _ _ _ _ _ _=>Q (-1)) n l G u j f 0 l.length i) (fun n i=>rfl) (l.length+1) 0 KI KI J
theorem aIX {α:Type} [Inhabited α] (l:List α) (p:α->Bool) (u:l.length<=2000000) (W:Nat->Int->Prop) (X Y:Int->Prop)
  (J:∀n i,W (n+1) i=cond (decide (i<(l.length:Int))) ((0<=i/\i<(l.length:Int))/\cond (p (l.getD i.toNat default)) (X i) (W n (aB (i+1)))) (Y i)) (n:Nat) (f:l.length<n)
  (I:l.any p=true->∀j,X j) (G:l.any p=false->Y l.length):W n 0:=by
 have e:l.all (fun x=>!p x)=!l.any p:=by grind
 refine Ia l (fun x=>!p x) u W X Y (fun n i=>by grind) n f (fun q=>I ?_) (fun q=>G ?_)
 ·grind
 grind
theorem sQ (len:Nat) (bad:Nat->Bool) (X Y:Prop) (W:Nat->Int->Prop) (u:∀n (i:Nat),i<len->(bad i=true->X)->(bad i=false->W n ((i+1:Nat):Int))->W (n+1) i)
  (J:∀n,Y->W (n+1) len) (n:Nat) (L:len<n) (G:(List.range len).any bad=true->X) (S:(List.range len).any bad=false->Y):W n 0:=by
 have I:∀(n i:Nat),i<=len->len<n+i->(∀j,j<i->bad j=false)->W n i:=by
  intro n
  induction n with
  |zero=>omega
  |succ n f=>
   intro i Z V hb
   by_cases h:i<len
   ·refine u n i h (fun q=>G (KV.2 ⟨i,JH.2 h,q⟩)) (fun q=>f (i+1) KI KI fun j O=>?_);grind
   grind
 grind
def Mc (l:List aA) (G u j f:Int):Prop:=(Vc l G u j f)
def Fl (l:List aA) (G u j f:Int):Bool:=decide (0<=(Tu l G u j f))
def Fy (u G f j:Int) (a1:List aA):Prop:=(Mc a1 u G f j)
def tS (u G f j:Int) (a1:List aA):Bool:=(Fl a1 u G f j)
def Iu:CnT:=cnL [(0,⟨[1,2,7,13,14],[],[(.tmp 7,67,.rect)],[],[]⟩)]
abbrev Cz:=Int->Int->Int->Int->List aA->Prop
def aGL (a0:List aA) (a1 j:Int) (Q:List aA->Prop) (f:Cz):Prop:=((a0.length<=2000000)/\f a1 j (a0.length:Int) 0 a0)
def aGK (I L:Cz):Cz:=fun G J u f j=>cond (decide (f<u)) (((0<=f/\f<j.length)/\cond ((((decide (((j.getD f.toNat default).X)<(-4194304)))||(decide (4194304<((j.getD f.toNat default).X))))||(decide (((j.getD f.toNat default).Y)<(-4194304))))||(decide (4194304<((j.getD f.toNat default).Y)))) (I G J u (aB (f+1)) (j.set f.toNat (aA.mk ((j.getD f.toNat default).X) ((j.getD f.toNat default).Y) 0 ((j.getD f.toNat default).H)))) ((let O:=((j.set f.toNat (aA.mk (aB (((j.getD f.toNat default).X)-G)) ((j.getD f.toNat default).Y) ((j.getD f.toNat default).W) ((j.getD f.toNat default).H))).getD f.toNat default).Y;I G J u (aB (f+1)) ((j.set f.toNat (aA.mk (aB (((j.getD f.toNat default).X)-G)) ((j.getD f.toNat default).Y) ((j.getD f.toNat default).W) ((j.getD f.toNat default).H))).set f.toNat (aA.mk (((j.set f.toNat (aA.mk (aB (((j.getD f.toNat default).X)-G)) ((j.getD f.toNat default).Y) ((j.getD f.toNat default).W) ((j.getD f.toNat default).H))).getD f.toNat default).X) (aB (O-J)) (((j.set f.toNat (aA.mk (aB (((j.getD f.toNat default).X)-G)) ((j.getD f.toNat default).Y) ((j.getD f.toNat default).W) ((j.getD f.toNat default).H))).getD f.toNat default).W) (((j.set f.toNat (aA.mk (aB (((j.getD f.toNat default).X)-G)) ((j.getD f.toNat default).Y) ((j.getD f.toNat default).W) ((j.getD f.toNat default).H))).getD f.toNat default).H))))))) (L G J u f j)
def Sh (F:Nat) (f:Cz):Nat->Cz
 |0=>fun _ _ _ _ _=>False
 |n+1=>aGK (Sh F f n) f
def Wk (F:Nat) (Q:List aA->Prop):Cz:=Sh F (fun _ _ _ _ f=>Q f) F
def aLB (F:Nat) (a0:List aA) (a1 f:Int) (Q:List aA->Prop):Prop:=aGL a0 a1 f Q (Wk F Q)
def Zo (r:aA):Bool:=(((decide (r.X<(-4194304)))||(decide (4194304<r.X)))||(decide (r.Y<(-4194304))))||(decide (4194304<r.Y))
def oW (x y:Int) (r:aA):aA:=cond (Zo r) (aA.mk r.X r.Y 0 r.H) (aA.mk (aB (r.X-x)) (aB (r.Y-y)) r.W r.H)
def Lv (l:List aA) (x y:Int):Prop:=l.length<=2000000
def xR (l:List aA) (x y:Int):List aA:=l.map (oW x y)
theorem aT9 {α:Type} [Inhabited α] (l:List α) (f:α->α) (Z:l.length<=2000000) (Q:List α->Prop) (W:Nat->Int->List α->Prop)
  (J:∀n (i:Nat) (m:List α),m.length=l.length->i<l.length->W n ((i+1:Nat):Int) (m.set i (f (m.getD i default)))->W (n+1) i m) (L:∀n m,m.length=l.length->Q m->W (n+1) l.length m):
  ∀(n i:Nat),i<=l.length->l.length<n+i->Q (l.map f)->W n i ((l.take i).map f++l.drop i):=by
 intro n
 induction n with
 |zero=>intro i S O;omega
 |succ n I=>
  intro i S O u
  by_cases h:i<l.length
  ·refine J n i _ (by simp;omega) h ?_;have e:((l.take i).map f++l.drop i).set i (f (((l.take i).map f++l.drop i).getD i default))=(l.take (i+1)).map f++l.drop (i+1):=by
    have j:((l.take i).map f).length=i:=by simp;omega
    rw[nR l i h];have e1:=aEt ((l.take i).map f) (l.getD i default) (l.drop (i+1));rw[j] at e1;rw[e1];have G:=tt ((l.take i).map f) (l.getD i default) (f (l.getD i default)) (l.drop (i+1));rw[j] at G;have V:l.take (i+1)=l.take i++[l.getD i default]:=by
     rw[List.take_add_one];simp[List.getD_eq_getElem?_getD,h]
    rw[G,V,List.map_append,KZ];rfl
   rw[e];exact I (i+1) KI KI u
  ·have e:i=l.length:=KI;subst e;refine L n _ XQ ?_;rw[List.take_length,KK,JP];exact u
theorem aR2 (a0:List aA) (a1 f:Int) (h:Lv a0 a1 f):∃F,∀Q:List aA->Prop,Q (xR a0 a1 f)->aLB F a0 a1 f Q:=by
 refine⟨a0.length+1,fun Q G=>?_⟩;refine⟨h,?_⟩;have hh:a0.length<=2000000:=h;show Wk (a0.length+1) Q a1 f (a0.length:Int) 0 a0;unfold Wk;refine aT9 a0 (oW a1 f) KI Q (fun n i m=>Sh (a0.length+1) (fun _ _ _ _ I=>Q I) n a1 f (a0.length:Int) i m) (fun n i m hm hi hw=>?_) (fun n m hm j=>?_) (a0.length+1) 0 KI KI G
 ·show cond (decide ((i:Int)<(a0.length:Int))) _ _;rw[dD KI,QY];refine⟨⟨KI,KI⟩,?_⟩;rw[QZ,dX hi KI];unfold oW at hw;show cond (Zo (m.getD i default)) _ _;cases hf:Zo (m.getD i default) with
  |true=>
   rw[hf] at hw;exact hw
  |false=>
   rw[hf] at hw;have u:∀A:aA,(m.set i A).getD i default=A:=fun A=>by simp[List.getD_eq_getElem?_getD,show i<m.length by omega]
   simp only[QK,u,List.set_set];exact hw
 ·show cond (decide ((a0.length:Int)<(a0.length:Int))) _ _;rw[dB KI,QK];exact j
def Il:CnT:=cnL [(0,⟨[2,4,7,8,9],[2],[],[],[]⟩)]
abbrev Cv:=Bool->List aA->Int->Int->Int->Int->Int->Int->Prop
def aFR (G I j u:Int) (a1:List aA) (Q:Bool->Prop) (f:Cv):Prop:=f false a1 (a1.length:Int) 0 G I j u
def aFQ (O Z V:Cv):Cv:=fun S j I f u G J L=>cond (decide (f<I)) ((let e0:=(j.getD f.toNat default);((0<=f/\f<j.length)/\cond ((((decide (e0.X<u))&&(decide (e0.Y<G)))&&(decide ((aB (u+J))<(aB (e0.X+e0.W)))))&&(decide ((aB (G+L))<(aB (e0.Y+e0.H))))) (Z true j I f u G J L) (O S j I (aB (f+1)) u G J L)))) (V S j I f u G J L)
def Rv (F:Nat) (j f:Cv):Nat->Cv
 |0=>fun _ _ _ _ _ _ _ _=>False
 |n+1=>aFQ (Rv F j f n) j f
def Vz (F:Nat) (Q:Bool->Prop):Cv:=Rv F (fun f _ _ _ _ _ _ _=>Q f) (fun _ _ _ _ _ _ _ _=>Q false) F
def aKn (F:Nat) (u G f j:Int) (a1:List aA) (Q:Bool->Prop):Prop:=aFR u G f j a1 Q (Vz F Q)
def Tf (x y w h:Int) (e:aA):Bool:=(((decide (e.X<x))&&(decide (e.Y<y)))&&(decide ((aB (x+w))<(aB (e.X+e.W)))))&&(decide ((aB (y+h))<(aB (e.Y+e.H))))
def R2:Cz:=fun x y w h l=>l.length<=2000000
def w9 (x y w h:Int) (l:List aA):Bool:=l.any (Tf x y w h)
theorem aRL (G I f u:Int) (a1:List aA) (h:R2 G I f u a1):∃F,∀Q:Bool->Prop,Q (w9 G I f u a1)->aKn F G I f u a1 Q:=by
 refine⟨a1.length+1,fun Q J=>?_⟩;show Vz (a1.length+1) Q false a1 (a1.length:Int) 0 _ _ _ _;unfold Vz;refine aIX a1 (Tf G I f u) h (fun n i=>Rv (a1.length+1) _ _ n false a1 a1.length i _ _ _ _) _ _ (fun n i=>rfl) (a1.length+1) KI (fun q j=>?_) (fun q=>?_)
 ·grind [w9]
 grind [w9]
def wU:CnT:=cnL [(0,⟨[1,2,3,16,17,18],[1,12],[],[],[]⟩),(2,⟨[2,3,46,47,48],[12],[],[],[]⟩),(4,⟨[2,3,7,46,47,48,55,56,57],[7,12],[],[],[]⟩)]
abbrev Cs:=Int->Int->Int->ByteArray->ByteArray->Int->Int->List aA->List aA->List aA->List aA->Prop
def aFF (J I:ByteArray) (G u:Int) (L f j:List aA) (Q:Int->Prop) (O:Cs):Prop:=((f.length*32<=140737488355328)/\(((f.length+j.length)*32<=140737488355328)/\O 0 ((f++j).length:Int) 0 J I G u L f j (f++j)))
def aFE (Z x0 x1:Cs):Cs:=fun t2 u f J L O S I G V j=>cond (decide (f<u)) (((0<=f/\f<j.length)/\(let r0:=(w9 ((j.getD f.toNat default).X) ((j.getD f.toNat default).Y) ((j.getD f.toNat default).W) ((j.getD f.toNat default).H) I);((((decide (f<(G.length:Int)))&&((((j.getD f.toNat default).W)==1)||(((j.getD f.toNat default).H)==1)))=false->R2 ((j.getD f.toNat default).X) ((j.getD f.toNat default).Y) ((j.getD f.toNat default).W) ((j.getD f.toNat default).H) I)/\cond (((decide (f<(G.length:Int)))&&((((j.getD f.toNat default).W)==1)||(((j.getD f.toNat default).H)==1)))||(!r0)) (x0 13 u f J L O S I G V j) (Z t2 u (aB (f+1)) J L O S I G V j))))) (x1 t2 u f J L O S I G V j)
def fq (Q:Int->Prop):Cs:=fun f u j I J L O Z S V G=>Q f
abbrev zQ:=Int->Int->Int->List aA->Prop
def fp (Q:Int->Prop) (u:zQ):Cs:=fun j I G J L O S aF V Z f=>u j (f.length:Int) 0 f
abbrev Cr:=Int->Int->Int->Nat->Int->Int->Int->Int->Int->Int->List aA->Prop
def aFD (L I O:zQ) (J:Cr):zQ:=fun G u f j=>cond (decide (f<u)) (((0<=f/\f<j.length)/\((0<=f/\f<=j.length)/\J G u f f.toNat ((f.toNat-0:Nat):Int) 0 ((j.getD f.toNat default).X) ((j.getD f.toNat default).Y) ((j.getD f.toNat default).W) ((j.getD f.toNat default).H) j))) (I G u f j)
def aFC (Z x0 x1:Cr):Cr:=fun t2 J I u j f V S O L G=>cond (decide (f<j)) (((0<=f/\f<((u-0:Nat):Int))/\(let r0:=(Fg V S O L ((G.getD (0+f.toNat) default).X) ((G.getD (0+f.toNat) default).Y) ((G.getD (0+f.toNat) default).W) ((G.getD (0+f.toNat) default).H));cond (r0==0) (x0 7 J I u j f V S O L G) (Z t2 J I u j (aB (f+1)) V S O L G)))) (x1 t2 J I u j f V S O L G)
def Rq (F:Nat) (j f:Cr):Nat->Cr
 |0=>fun _ _ _ _ _ _ _ _ _ _ _=>False
 |n+1=>aFC (Rq F j f n) j f
def U5 (F:Nat) (I L J:zQ):Cr:=Rq F (fun u j f _ _ _ _ _ _ _ G=>J u j f G) (fun u j f _ _ _ _ _ _ _ G=>I u j (aB (f+1)) G) F
def o5 (F:Nat) (j f:zQ):Nat->zQ
 |0=>fun _ _ _ _=>False
 |n+1=>aFD (o5 F j f n) j f (U5 F (o5 F j f n) j f)
def Mk (F:Nat) (Q:Int->Prop):zQ:=o5 F (fun _ _ _ _=>Q 0) (fun f _ _ _=>Q f) F
def Jo (F:Nat) (j f:Cs):Nat->Cs
 |0=>fun _ _ _ _ _ _ _ _ _ _ _=>False
 |n+1=>aFE (Jo F j f n) j f
def Vx (F:Nat) (Q:Int->Prop):Cs:=Jo F (fq Q) (fp Q (Mk F Q)) F
def aKl (F:Nat) (J I:ByteArray) (G u:Int) (L j f:List aA) (Q:Int->Prop):Prop:=aFF J I G u L j f Q (Vx F Q)
def Om (f:Int) (R:List aA) (i:Int) (h:aA):Bool:=((decide (i<f))&&((h.W==1)||(h.H==1)))||(!(w9 h.X h.Y h.W h.H R))
def u7 (a b:aA):Bool:=Fg a.X a.Y a.W a.H b.X b.Y b.W b.H==0
def Oc (R C H:List aA):Int:=cond ((List.range H.length).any fun i=>Om C.length R i (H.getD i default)) 13 (cond ((List.range H.length).any fun i=>(List.range i).any fun j=>u7 (H.getD i default) (H.getD j default)) 7 0)
def R0 (nm mt:ByteArray) (g gr:Int) (R C M:List aA):Prop:=R.length<=2000000/\C.length<=1000/\M.length<=1000
def Tk (nm mt:ByteArray) (g gr:Int) (R C M:List aA):Int:=Oc R C (C++M)
theorem aRH (qf Z:ByteArray) (V S:Int) (I f G:List aA) (h:R0 qf Z V S I f G):
  ∃F,∀Q:Int->Prop,Q (Tk qf Z V S I f G)->aKl F qf Z V S I f G Q:=by
 obtain⟨h1,h2,h3⟩:=h;refine⟨(f++G).length+1,fun Q u=>?_⟩;refine⟨KI,KI,?_⟩;have O:(f++G).length<=2000:=by simp;omega
 unfold Tk Oc at u;generalize f++G=H at u O ⊢;show Vx (H.length+1) Q 0 (H.length:Int) 0 _ _ _ _ _ _ _ H;unfold Vx;refine sQ H.length (fun i=>Om f.length I i (H.getD i default)) (Q 13) (Mk (H.length+1) Q 0 (H.length:Int) 0 H) (fun n i=>Jo (H.length+1) (fq Q) (fp Q (Mk (H.length+1) Q)) n 0 (H.length:Int) i qf Z V S I f G H) (fun n i hi L hw=>?_) (fun n J=>?_) (H.length+1) KI (fun q=>?_) (fun q=>?_)
 ·show cond (decide ((i:Int)<(H.length:Int))) _ _;rw[dD KI,QY];refine⟨⟨KI,KI⟩,fun _=>h1,?_⟩;rw[QZ,dX hi KI];show cond (Om f.length I i (H.getD i default)) _ _;cases hb:Om f.length I i (H.getD i default) with
  |true=>exact L hb
  |false=>exact hw hb
 ·show cond (decide ((H.length:Int)<(H.length:Int))) _ _;rw[dB KI,QK];exact J
 ·rw[q] at u;exact u
 ·rw[q,QK] at u;unfold Mk;refine sQ H.length (fun i=>(List.range i).any fun j=>u7 (H.getD i default) (H.getD j default)) (Q 7) (Q 0) (fun n i=>o5 (H.length+1) (fun _ _ _ _=>Q 0) (fun t2 _ _ _=>Q t2) n 0 (H.length:Int) i H) (fun n i hi L hw=>?_) (fun n J=>?_) (H.length+1) KI (fun q=>?_) (fun q=>?_)
  ·show cond (decide ((i:Int)<(H.length:Int))) _ _;rw[dD KI,QY];refine⟨⟨KI,KI⟩,⟨KI,KI⟩,?_⟩;rw[QZ];unfold U5;refine sQ i (fun j=>u7 (H.getD i default) (H.getD j default)) (Q 7) (o5 (H.length+1) (fun _ _ _ _=>Q 0) (fun t2 _ _ _=>Q t2) n 0 (H.length:Int) ((i+1:Nat):Int) H) (fun m j=>Rq (H.length+1) _ _ m 0 (H.length:Int) i i ((i-0:Nat):Int) j _ _ _ _ H) (fun m j hj L hw=>?_) (fun m J=>?_) (H.length+1) KI L hw
   ·show cond (decide ((j:Int)<((i-0:Nat):Int))) _ _;rw[dD KI,QY];refine⟨⟨KI,KI⟩,?_⟩;rw[QZ,JD,dX hj KI];show cond (u7 (H.getD i default) (H.getD j default)) _ _;cases hb:u7 (H.getD i default) (H.getD j default) with
    |true=>exact L hb
    |false=>exact hw hb
   ·show cond (decide ((i:Int)<((i-0:Nat):Int))) _ _;rw[dB KI,QK];show o5 _ _ _ _ _ _ (aB ((i:Int)+1)) _;rw[dX hi KI];exact J
  ·show cond (decide ((H.length:Int)<(H.length:Int))) _ _;rw[dB KI,QK];exact J
  ·rw[q] at u;exact u
  ·rw[q] at u;exact u
def tL (a b:aA):Bool:=M7 a.X a.Y a.W a.H b.X b.Y b.W b.H
def mF (l:List aA) (a:Nat) (s:List Bool×zzI) (k:Nat):List Bool×zzI:=cond (!(s.1.getD k default)) (cond (tL (l.getD a default) (l.getD k default)) (s.1.set k true,s.2++[(k:Int)]) s) s
def uc (l:List aA) (a:Nat) (s:List Bool×zzI):List Bool×zzI:=(List.range l.length).foldl (mF l a) s
def uN (l:List aA):Nat->Nat->List Bool×zzI->List Bool×zzI
 |0,_,s=>s
 |n+1,i,s=>cond (decide (i<s.2.length)) (uN l n (i+1) (uc l (s.2.getD i default).toNat s)) s
def rM (l:List aA):Bool:=((uN l (l.length+1) 0 ((List.replicate l.length false).set 0 true,[0])).2.length:Int)==(l.length:Int)
theorem jl {α σ:Type} [Inhabited α] (l:List α) (f:σ->α->σ) (Q:σ->Prop) (W:Nat->Int->σ->Prop) (G:∀n (i:Nat) s,i<l.length->W n ((i+1:Nat):Int) (f s (l.getD i default))->W (n+1) i s)
  (I:∀n s,Q s->W (n+1) l.length s):∀(n i:Nat) (s:σ),i<=l.length->l.length<n+i->Q ((l.drop i).foldl f s)->W n i s:=by
 intro n
 induction n with
 |zero=>intro i s L J;omega
 |succ n u=>
  intro i s L J j
  by_cases h:i<l.length
  ·rw[nR l i h,JY] at j;exact G n i s h (u (i+1) _ KI KI j)
  ·obtain rfl:i=l.length:=KI;rw[KK] at j;exact I n s j
def wV:CnT:=cnL [(1,⟨[1,3,4,80,81,82],[1],[],[],[]⟩),(3,⟨[1,2,102,103,104],[1],[],[],[]⟩),(5,⟨[1,2,8,102,103,104,112,113,114],[1,8],[],[],[]⟩)]
abbrev Da:=Int->Int->List aA->Int->Int->ByteArray->ByteArray->Int->Int->List aA->List aA->List aA->Prop
def ic (L J:ByteArray) (I G:Int) (f j u:List aA) (Q:Int->Prop) (O:Da):Prop:=cond ((!(vn L))||(!(vn J))) (Q 2) (cond (!(Ab I G)) (Q 1) (cond (((decide (12<(f.length:Int)))||(decide (12<(j.length:Int))))||(decide (12<(u.length:Int)))) (Q 4) ((((((f.length:Int)==0)=false->Aq f)/\(((((f.length:Int)==0)||(!(kF f)))=false->Aq j)/\(((((f.length:Int)==0)||(!(kF f)))||(!(kF j)))=false->Aq u)))/\cond (((((f.length:Int)==0)||(!(kF f)))||(!(kF j)))||(!(kF u))) (Q 1) ((let e0:=(f.getD 0 default);((0<=(0:Int)/\(0:Int)<f.length)/\(let e1:=(f.getD 0 default);((0<=(0:Int)/\(0:Int)<f.length)/\O e0.X e1.Y f (f.length:Int) 0 L J I G f j u)))))))))
def aGX (G x0:Da):Da:=fun J I j u f L O S V aF Z aV=>cond (decide (f<u)) ((let e0:=(j.getD f.toNat default);((0<=f/\f<j.length)/\G (mi J e0.X) (mi I e0.Y) j u (aB (f+1)) L O S V aF Z aV))) (x0 J I j u f L O S V aF Z aV)
abbrev zV:=List aA->Int->Int->ByteArray->ByteArray->Int->Int->List aA->List aA->List aA->Prop
def ie (Q:Int->Prop) (G:zV):Da:=fun u j t80 t81 Z I J L O f S V=>cond ((u !=0)||(j !=0)) (Q 1) (G f (f.length:Int) 0 I J L O f S V)
abbrev K4:=Int->List aA->Int->Int->ByteArray->ByteArray->Int->Int->List aA->List aA->List aA->Prop
abbrev zU:=List aA->Int->Int->List aA->Int->Int->ByteArray->ByteArray->Int->Int->List aA->List aA->List aA->Int->Int->Int->Int->Prop
def aGW (rec Z:zV) (x1:K4) (i2:zU):zV:=fun j u f I J L O G S V=>cond (decide (f<u)) ((let e0:=(j.getD f.toNat default);((0<=f/\f<j.length)/\((0<=f/\f<=G.length)/\i2 j u f (G.take f.toNat) ((G.take f.toNat).length:Int) 0 I J L O G S V e0.X e0.Y e0.W e0.H)))) (Z j u f I J L O G S V)
abbrev ng:=Int->List aA->Int->Int->List aA->Int->Int->ByteArray->ByteArray->Int->Int->List aA->List aA->List aA->Int->Int->Int->Int->Prop
def aGV (rec:zU) (x0:ng) (x1:zU):zU:=fun J I G j u f Z aZ aY aX aF aW aV L O S V=>cond (decide (f<u)) ((let e0:=(j.getD f.toNat default);((0<=f/\f<j.length)/\(let r1:=(Kv L O S V e0.X e0.Y e0.W e0.H);cond r1 (x0 7 J I G j u f Z aZ aY aX aF aW aV L O S V) (rec J I G j u (aB (f+1)) Z aZ aY aX aF aW aV L O S V))))) (x1 J I G j u f Z aZ aY aX aF aW aV L O S V)
def Sm (F:Nat) (j:ng) (f:zU):Nat->zU
 |0=>fun _ _ _ _ _ _ _ _ _ _ _ _ _ _ _ _ _=>False
 |n+1=>aGV (Sm F j f n) j f
def W8 (F:Nat) (Z x0:zV) (x1:K4):zU:=Sm F (fun t2 u j f _ _ _ G I J L V O S _ _ _ _=>x1 t2 u j f G I J L V O S) (fun u j f _ _ _ G I J L V O S _ _ _ _=>Z u j (aB (f+1)) G I J L V O S) F
def Es (F:Nat) (j:zV) (f:K4):Nat->zV
 |0=>fun _ _ _ _ _ _ _ _ _ _=>False
 |n+1=>aGW (Es F j f n) j f (W8 F (Es F j f n) j f)
def Wo (F:Nat) (Q:Int->Prop):zV:=Es F (fun _ _ _ j u G I f J L=>((1<=f.length/\f.length<=100)/\cond (!(rM f)) (Q 6) ((let S:=(Tk j u G I f J L);((R0 j u G I f J L)/\Q S))))) (fun O _ _ _ _ _ _ _ _ _ _=>Q O) F
def Kh (F:Nat) (f:Da):Nat->Da
 |0=>fun _ _ _ _ _ _ _ _ _ _ _ _=>False
 |n+1=>aGX (Kh F f n) f
def W9 (F:Nat) (Q:Int->Prop):Da:=Kh F (ie Q (Wo F Q)) F
def pw (F:Nat) (J I:ByteArray) (G u:Int) (L j f:List aA) (Q:Int->Prop):Prop:=ic J I G u L j f Q (W9 F Q)
end
end Go.Proofs.YtgcpildegdgekaaGreatDoor
