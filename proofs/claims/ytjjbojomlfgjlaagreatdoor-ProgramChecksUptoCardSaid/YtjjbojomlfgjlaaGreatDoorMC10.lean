/- That ProgramChecks returns true where what it reads holds together at most 1048576 values and letters, and the tied card. Conditions: none but that bound, which is the row's own. -/
import Derived.Test.YtjjbojomlfgjlaaGreatDoorMC4
import Derived.Test.YtjjbojomlfgjlaaGreatDoorMC9
import Derived.Test.YtjjbojomlfgjlaaGreatDoorMC6
import Derived.Test.YtjjbojomlfgjlaaGreatDoorMC8
import Derived.Test.YtjjbojomlfgjlaaGreatDoorCards
import Derived.Test.YtjjbojomlfgjlaaGreatDoorTie
import Derived.SevenTiedAt
namespace Go.Proofs.YtjjbojomlfgjlaaGreatDoor
open Go.Vm Go.ChangeShapes Go.WideShapes Go.ChangeAt Go.RowKit Go.Joins
set_option linter.unusedVariables false
set_option maxRecDepth 100000
noncomputable section
theorem bFi {W:World} (hsh:W.ShapedOpen Tryz.prog) (hL:laidMetH Tryz.prog Rows.programChecksUptoRow.laid W):inv1 W:=by
 have hL':laidMet Tryz.prog [("math/bits.deBruijn32tab",Rows.laid_math_bits_deBruijn32tab),("math/bits.deBruijn64tab",Rows.laid_math_bits_deBruijn64tab),("internal/strconv.uint64pow10",Rows.laid_internal_strconv_uint64pow10)] W/\handlesMet Tryz.prog [("errors.errorType",Rows.laid_errors_errorType)] W:=hL;have h3:=hL'.1.tail.tail;rw[bBi] at h3;exact⟨⟨bFk hsh,bHr hL'.2 (List.mem_singleton.2 rfl)⟩,Lib.tabIs_of_head (g:=1) (t:=306) (by kernel_rfl) (by kernel_rfl) Tryz.underlying306 (by kernel_rfl) (by kernel_rfl) (by kernel_rfl) h3⟩
theorem aXu {v0 v1:Value} {nm mt:ByteArray} {g gr w h:Int} {cl us:List aA} {pc:List Pce} {l:List Opn} (W:World) (hi:inv1 W) (h6:cl.length<=2000000) (h7:us.length<=2000000) (hp:sQ pc)
  (hv0:Rel EE W bU (dJ (fun _=>False) W) (aB.agg [.str nm,.str mt,.int .i64 g,.int .i64 gr,.int .i64 w,.int .i64 h,.sl .rect cl,.sl .rect us,.sl .pc pc]:aB UU) v0) (gN:Rel EE W bU (dJ (fun _=>False) W) (aB.sl .op l:aB UU) v1):
  Calls Tryz.prog 4 #[v0,v1] W fun e W'=>e=.returned (.bool true)/\Below W.heap.size W W':=by
 refine bF2 (fr:=false) (C:=aHw) (c:=bo Tryz.f4) (M:=aWy) (fuel:=1) aYs mixed Tryz.func4 (by kernel_rfl) (xs:=[.agg [.str nm,.str mt,.int .i64 g,.int .i64 gr,.int .i64 w,.int .i64 h,.sl .rect cl,.sl .rect us,.sl .pc pc],.sl .op l]) hi ⟨rfl,fun k hk=>?_⟩ (by kernel_rfl) ⟨?_⟩
 ·match k,hk with
  |0,_=>exact hv0
  |1,_=>exact gN
 ·rw[bHe];refine cast ?_ (bF1 1 nm mt g gr w h cl us pc l h6 h7 hp);congr 1;funext r;simp
noncomputable def bIw:List (String×DataW Unit):=Rows.programChecksUptoRow.laid.filter fun x=>x.2.handleName?.isNone
noncomputable def aMX (os:Os):World:=(aXq os).layVars Tryz.prog bIw
noncomputable def aME:Array Value:=#[.agg #[.string ByteArray.empty,.string ByteArray.empty,.int .i64 0,.int .i64 0,.int .i64 0,.int .i64 0,.slice none 0 0,.slice none 0 0,.slice none 0 0],.slice none 0 0]
theorem bAg (os:Os) {H:Type} (enc:TypeId×Value->H):∃places,DataW.whole enc Tryz.prog ((aMX os).forCall (fun _ _=>0) ⟨#[],aME,[]⟩).memory Tryz.f4.params.toList Rows.programChecksSpec.vars false aME.toList 8=some ([.agg [.agg [.lit (.string []),.lit (.string []),.lit (.int .i64 0),.lit (.int .i64 0),.lit (.int .i64 0),.lit (.int .i64 0),.nil,.nil],.nil],.nil],[],places):=
 ⟨[],by kernel_rfl⟩
theorem bFJ (os:Os) (started:os.Started) (H:Type) (enc:TypeId×Value->H) (F:Stop.Interp):
  ReturnsInHanded {} Tryz.checked os 4 .any ((Rows.OpenSpec.upto Rows.programChecksSpec).preRow enc Tryz.prog Tryz.f4 Rows.programChecksUptoRow.domain false Rows.programChecksUptoRow.laid) (((Rows.OpenSpec.upto Rows.programChecksSpec).at F).post enc Tryz.prog Tryz.f4 false true false false):=by
 obtain⟨places,hx⟩:=bAg os enc;refine returnsInHanded_of_row (C:=Tryz.checked) (s:=Rows.OpenSpec.upto Rows.programChecksSpec) own started (by kernel_rfl) Tryz.func4
  (witness_row_at (enc:=enc) (C:=Tryz.checked) false (aMX os) aME ((bFZ _ _ _).trans rfl) (by kernel_rfl) (by kernel_rfl) (by kernel_rfl)
   (OpenSpec.preRow_of_cond 8 hx (by kernel_rfl) (fun k hk=>by cases hk;kernel_rfl) (by kernel_rfl) (laidMetH_of_parts (bF3 _ (by kernel_rfl) (by kernel_rfl)) (by kernel_rfl)))) ?_
 intro W base args ds gs before hval0 hW _ hcond _ hL hsh _;have hval:∀(j:Nat) t v,Tryz.f4.params[j]?=some t->args[j]?=some v->Value.okWide Tryz.prog W .any base t v:=hval0;have hk:=hcond _ rfl;have hsh':W.ShapedOpen Tryz.prog:=hsh;have hW':=hW;obtain⟨p,q,hA0,hV,rfl,_,_⟩:=hW;have hA:DataW.TrodAll enc Tryz.prog W 0 (fun _=>true) true Tryz.f4.params.toList args.toList ds p:=hA0;rw[Tryz.params4] at hA hval;obtain⟨v0,vs0,d0,ds0,p0,q0,hargs,rfl,rfl,h0,r0⟩:=trodAll_cons hA;obtain⟨v1,vs1,d1,ds1,p1,q1,rfl,rfl,rfl,h1,r1⟩:=trodAll_cons r0;obtain⟨rfl,rfl,rfl⟩:=trodAll_nil r1;obtain rfl:args=#[v0,v1]:=by cases args;simp_all
 have hB:bk d0<=1048576:=by
  have h5:Rows.uptoBulkAll ([d0,d1]++gs)<=1048576:=of_decide_eq_true hk;exact Nat.le_trans ((aGe ([d0,d1]++gs)).2 d0 (by simp)) h5
 obtain⟨nm,mt,g,gr,w,h,cl,us,pc,⟨l6,l7,l8⟩,kA⟩:=bCT (hval 0 27 v0 rfl rfl) h0 hB;obtain⟨l,cH⟩:=bCR (hval 1 29 v1 rfl rfl) h1;refine(aXu W (bFi hsh' hL) (by omega) (by omega) (fun p hp=>by have:=l8 p hp;omega) kA cH).mono fun e W' ⟨he,hb⟩=>?_
 subst he;exact⟨_,rfl,bF0 (tb:=4) laidOut (by kernel_rfl) rfl Tryz.underlying4 rfl rfl hW' hb⟩
theorem chk:Rows.ProgramChecksUptoSaid:=
 OpenClaim.holds_of_cond 4 Tryz.f4 rfl rfl rfl rfl rfl rfl rfl ⟨rfl,rfl,rfl,rfl,rfl⟩ rfl rfl rfl rfl rfl (by kernel_rfl) Tryz.func4 bJL
  (of_decide_eq_true (by kernel_rfl)) (by unfold Func.isWrapper;first| (rw[if_pos (by decide+kernel)];kernel_rfl)| (rw[if_neg (by decide+kernel)];exact⟨rfl,rfl⟩))
  (fun os started H enc _ F=>by rw[OpenClaim.pre_eq_preRow];exact bFJ os started H enc F)
theorem chkCard:Rows.ProgramChecksUptoCardSaid:=
 Claim7.holds_tied_plain_at .later [] _ _ _ _ chk (fun _ h=>by cases h) (by kernel_rfl) (fun _ h=>by cases h) programChecksUpto_row_tie rfl ⟨rfl,rfl⟩ (by kernel_rfl) rfl
  (fun f fn hf hfn=>by
   obtain rfl:f=4:=Option.some.inj ((show Tryz.prog.funcNamed "sheetmetal/sheetmetallaw08.ProgramChecks"=some 4 by kernel_rfl).symm.trans hf) |>.symm;obtain rfl:fn=Tryz.f4:=(Option.some.inj (Tryz.func4.symm.trans hfn)).symm;exact⟨by kernel_rfl,fun j t ht=>by
    rw[Tryz.params4] at ht;have h3:t=27\/t=29:=by
     rcases j with _|_|j
     ·have e:t=27:=by simpa using ht.symm
      simp[e]
     ·have e:t=29:=by simpa using ht.symm
      simp[e]
     ·simp at ht
    rcases h3 with rfl|rfl
    ·exact(show Tryz.prog.wantsStandIn 27=false by kernel_rfl)
    ·exact(show Tryz.prog.wantsStandIn 29=false by kernel_rfl)⟩)
  (by kernel_rfl)
end
end Go.Proofs.YtjjbojomlfgjlaaGreatDoor
