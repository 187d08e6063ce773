/- What the card states of this law, proved. Conditions: those that each names. -/
import Derived.Test.YtjjbojomlfgjlaaGreatDoorMK4
import Derived.Test.YtjjbojomlfgjlaaGreatDoorMK10
import Derived.Test.YtjjbojomlfgjlaaGreatDoorMK7
import Derived.Test.YtjjbojomlfgjlaaGreatDoorMK9
import Derived.Test.YtjjbojomlfgjlaaGreatDoorCards
import Derived.Test.YtjjbojomlfgjlaaGreatDoorTie
import Derived.SevenTiedAt
namespace Go.Proofs.YtjjbojomlfgjlaaGreatDoor
open Go.Proofs.Tryz
open Go.Vm Go.ChangeShapes Go.WideShapes Go.ChangeAt Go.RowKit Go.Joins
set_option linter.unusedVariables false
set_option maxRecDepth 100000
noncomputable section
theorem bOd {W:World} (r:W.ShapedOpen prog) (G:laidMetH prog Rows.programCutsUptoRow.laid W):inv1 W:=by
 have f:laidMet prog [("math/bits.deBruijn32tab",Rows.laid_math_bits_deBruijn32tab),("math/bits.deBruijn64tab",Rows.laid_math_bits_deBruijn64tab),("internal/strconv.uint64pow10",Rows.laid_internal_strconv_uint64pow10)] W/\handlesMet prog [("errors.errorType",Rows.laid_errors_errorType)] W:=G;have u:=f.1.tail.tail;rw[bJp] at u;exact⟨⟨bOf r,bSB f.2 (JB.2 rfl)⟩,Lib.tabIs_of_head (g:=1) (t:=306) XW XW underlying306 XW XW XW u⟩
theorem bEq {u v1:Value} {nm mt:ByteArray} {g gr w h:Int} {cl us:List aA} {pc:List Pce} {l:List Itm} (W:World) (hi:inv1 W) (h6:cl.length<=2000000) (h7:us.length<=2000000) (hp:aBz pc)
  (f:Rel EE W cW (fB (fun _=>False) W) (aC.agg [.str nm,.str mt,.int .i64 g,.int .i64 gr,.int .i64 w,.int .i64 h,.sl .rect cl,.sl .rect us,.sl .pc pc]:aC UU) u) (G:Rel EE W cW (fB (fun _=>False) W) (aC.sl .item l:aC UU) v1):
  Calls prog 3 #[u,v1] W fun e W'=>e=.returned (.bool true)/\Below W.heap.size W W':=by
 refine bOK (fr:=false) (C:=aLi) (c:=bo Tryz.f3) (M:=bDb) (fuel:=1) bGH mixed func3 XW (xs:=[.agg [.str nm,.str mt,.int .i64 g,.int .i64 gr,.int .i64 w,.int .i64 h,.sl .rect cl,.sl .rect us,.sl .pc pc],.sl .item l]) hi ⟨rfl,fun k I=>?_⟩ XW ⟨?_⟩
 ·match k,I with
  |0,_=>exact f
  |1,_=>exact G
 ·rw[bRO];refine cast ?_ (bOJ nm mt g gr w h cl us pc l h6 h7 hp 1);congr 1;funext r;simp
noncomputable def bTS:List (String×DataW Unit):=Rows.programCutsUptoRow.laid.filter fun x=>x.2.handleName?.isNone
noncomputable def aQA (os:Os):World:=(bEm os).layVars prog bTS
noncomputable def aPg:Array Value:=#[.agg #[.string ByteArray.empty,.string ByteArray.empty,.int .i64 0,.int .i64 0,.int .i64 0,.int .i64 0,.slice none 0 0,.slice none 0 0,.slice none 0 0],.slice none 0 0]
theorem bI6 (os:Os) {H:Type} (enc:TypeId×Value->H):∃f,DataW.whole enc prog ((aQA os).forCall (fun _ _=>0) ⟨#[],aPg,[]⟩).memory Tryz.f3.params.toList Rows.programCutsSpec.vars false aPg.toList 8=some ([.agg [.agg [.lit (.string []),.lit (.string []),.lit (.int .i64 0),.lit (.int .i64 0),.lit (.int .i64 0),.lit (.int .i64 0),.nil,.nil],.nil],.nil],[],f):=
 ⟨[],XW⟩
theorem bNk (os:Os) (u:os.Started) (H:Type) (enc:TypeId×Value->H) (F:Stop.Interp):
  ReturnsInHanded {} checked os 3 .any ((Rows.OpenSpec.upto Rows.programCutsSpec).preRow enc prog Tryz.f3 Rows.programCutsUptoRow.domain false Rows.programCutsUptoRow.laid) (((Rows.OpenSpec.upto Rows.programCutsSpec).at F).post enc prog Tryz.f3 false true false false):=by
 obtain⟨O,hx⟩:=bI6 os enc;refine returnsInHanded_of_row (C:=checked) (s:=Rows.OpenSpec.upto Rows.programCutsSpec) own u XW func3
  (witness_row_at (enc:=enc) (C:=checked) false (aQA os) aPg ((bOH _ _ _).trans rfl) XW XW XW
   (OpenSpec.preRow_of_cond 8 hx XW (fun k V=>by cases V;kernel_rfl) XW (laidMetH_of_parts (bOM _ XW XW) XW))) ?_
 intro W base f ds gs S G hW _ I _ hL Z _;have r:∀(j:Nat) t v,Tryz.f3.params[j]?=some t->f[j]?=some v->Value.okWide prog W .any base t v:=G;have V:=I _ rfl;have J:W.ShapedOpen prog:=Z;have hW':=hW;obtain⟨p,q,hA0,hV,rfl,_,_⟩:=hW;have hA:DataW.TrodAll enc prog W 0 (fun _=>true) true Tryz.f3.params.toList f.toList ds p:=hA0;rw[params3] at hA r;obtain⟨v0,vs0,L,ds0,p0,q0,hargs,rfl,rfl,h0,r0⟩:=trodAll_cons hA;obtain⟨v1,vs1,d1,ds1,p1,q1,rfl,rfl,rfl,h1,r1⟩:=trodAll_cons r0;obtain⟨rfl,rfl,rfl⟩:=trodAll_nil r1;obtain rfl:f=#[v0,v1]:=by cases f;simp_all
 have hB:bk L<=1048576:=by
  have h5:Rows.uptoBulkAll ([L,d1]++gs)<=1048576:=JC V;exact KU ((aKL ([L,d1]++gs)).2 L XU) h5
 obtain⟨nm,mt,g,gr,w,h,cl,us,pc,⟨l6,l7,l8⟩,nD⟩:=bKY (r 0 27 v0 rfl rfl) h0 hB;obtain⟨l,iH⟩:=bKZ (r 1 28 v1 rfl rfl) h1;refine(bEq W (bOd J hL) XY XY (fun p hp=>by have:=l8 p hp;omega) nD iH).mono fun e W' ⟨he,hb⟩=>?_
 subst he;exact⟨_,rfl,bOI (tb:=4) laidOut XW rfl underlying4 rfl rfl hW' hb⟩
theorem bTV:Rows.ProgramCutsUptoSaid:=
 OpenClaim.holds_of_cond 3 Tryz.f3 rfl rfl rfl rfl rfl rfl rfl ⟨rfl,rfl,rfl,rfl,rfl⟩ rfl rfl rfl rfl rfl XW func3 bT8
  (JC XW) (by unfold Func.isWrapper;first| (rw[JV (by decide+kernel)];kernel_rfl)| (rw[JK (by decide+kernel)];exact⟨rfl,rfl⟩))
  (fun r f H enc _ F=>by rw[OpenClaim.pre_eq_preRow];exact bNk r f H enc F)
theorem cutsCard:Rows.ProgramCutsUptoCardSaid:=
 Claim7.holds_tied_plain_at .later [] _ _ _ _ bTV (fun _ h=>by cases h) XW (fun _ h=>by cases h) programCutsUpto_row_tie rfl ⟨rfl,rfl⟩ XW rfl
  (fun f fn G u=>by
   obtain rfl:f=3:=QW ((show prog.funcNamed "sheetmetal/sheetmetallaw08.ProgramCuts"=some 3 by kernel_rfl).symm.trans G) |>.symm;obtain rfl:fn=Tryz.f3:=(QW (func3.symm.trans u)).symm;exact⟨XW,fun j t r=>by
    rw[params3] at r;have I:t=27\/t=28:=by
     rcases j with _|_|j
     ·have e:t=27:=by simpa using r.symm
      simp[e]
     ·have e:t=28:=by simpa using r.symm
      simp[e]
     ·simp at r
    rcases I with rfl|rfl
    ·exact(show prog.wantsStandIn 27=false by kernel_rfl)
    ·exact(show prog.wantsStandIn 28=false by kernel_rfl)⟩)
  XW
end
end Go.Proofs.YtjjbojomlfgjlaaGreatDoor
