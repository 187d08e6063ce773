/- What the card states of this law, proved. Conditions: those that each names. -/
import Derived.Test.YtgcpildegdgekaaGreatDoorMM4
import Derived.Test.YtgcpildegdgekaaGreatDoorMM10
import Derived.Test.YtgcpildegdgekaaGreatDoorMM9
import Derived.Test.YtgcpildegdgekaaGreatDoorCards
import Derived.Test.YtgcpildegdgekaaGreatDoorTie
import Derived.SevenTiedAt
set_option maxRecDepth 100000
set_option linter.unusedVariables false
namespace Go.Proofs.YtgcpildegdgekaaGreatDoor
open Go.Proofs.Tryz
open Go.ChangeAt Go.ChangeShapes Go.Joins Go.RowKit Go.Vm Go.WideShapes
noncomputable section
theorem aUy {W:World} (u:W.ShapedOpen prog) (I:laidMetH prog Rows.programMakesUptoRow.laid W):inv2 W:=by
 have f:laidMet prog [("math/bits.deBruijn32tab",Rows.laid_math_bits_deBruijn32tab),("math/bits.deBruijn64tab",Rows.laid_math_bits_deBruijn64tab),("internal/strconv.uint64pow10",Rows.laid_internal_strconv_uint64pow10),("unicode/utf8.acceptRanges",Rows.laid_unicode_utf8_acceptRanges),("strconv.ErrRange",Rows.laid_strconv_ErrRange),("strconv.ErrSyntax",Rows.laid_strconv_ErrSyntax),("unicode/utf8.first",Rows.laid_unicode_utf8_first)] W/\handlesMet prog [("errors.errorType",Rows.laid_errors_errorType)] W:=I;have j:=f.1.tail.tail;have G:=j.tail.tail;have h6:=G.tail;rw[aQK] at j;refine⟨⟨⟨aVB u,aXN f.2 (JJ.2 rfl)⟩,Lib.tabIs_of_head (g:=1) (t:=275) KA KA underlying275 KA KA KA j⟩,?_,?_⟩
 ·exact aEk (g:=3) (ti:=87) KA KA underlying87 h6
 ·exact aEk (g:=4) (ti:=87) KA KA underlying87 G
theorem aKf {f v1:Value} {nm mt:ByteArray} {g gr w h:Int} {cl us:List aA} {pc:List Pce} {l:List Itm} (W:World) (hi:inv2 W) (h6:cl.length<=2000000) (h7:us.length<=2000000) (hp:Kx pc)
  (G:Rel EE W cO (fF (fun _=>False) W) (aC.agg [.str nm,.str mt,.int .i64 g,.int .i64 gr,.int .i64 w,.int .i64 h,.sl .rect cl,.sl .rect us,.sl .pc pc]:aC UU) f) (j:Rel EE W cO (fF (fun _=>False) W) (aC.sl .item l:aC UU) v1):
  Calls prog 3 #[f,v1] W fun e W'=>e=.returned (.bool true)/\Below W.heap.size W W':=by
 refine aU7 (fr:=false) (C:=tF) (c:=bo Tryz.f3) (M:=zZ) (fuel:=4) aNw mixed func3 KA (xs:=[.agg [.str nm,.str mt,.int .i64 g,.int .i64 gr,.int .i64 w,.int .i64 h,.sl .rect cl,.sl .rect us,.sl .pc pc],.sl .item l]) hi ⟨rfl,fun k u=>?_⟩ KA ⟨?_⟩
 ·match k,u with
  |0,_=>exact G
  |1,_=>exact j
 ·rw[aWp];refine cast ?_ (aU6 nm mt g gr w h cl us pc l h6 h7 hp);congr 1;funext r;simp
noncomputable def aYi:List (String×DataW Unit):=Rows.programMakesUptoRow.laid.filter fun x=>x.2.handleName?.isNone
noncomputable def pd (os:Os):World:=(aKa os).layVars prog aYi
noncomputable def mh:Array Value:=#[.agg #[.string ByteArray.empty,.string ByteArray.empty,.int .i64 0,.int .i64 0,.int .i64 0,.int .i64 0,.slice none 0 0,.slice none 0 0,.slice none 0 0],.slice none 0 0]
theorem aPA (os:Os) {H:Type} (enc:TypeId×Value->H):∃f,DataW.whole enc prog ((pd os).forCall (fun _ _=>0) ⟨#[],mh,[]⟩).memory Tryz.f3.params.toList Rows.programMakesSpec.vars false mh.toList 8=some ([.agg [.agg [.lit (.string []),.lit (.string []),.lit (.int .i64 0),.lit (.int .i64 0),.lit (.int .i64 0),.lit (.int .i64 0),.nil,.nil],.nil],.nil],[],f):=
 ⟨[],KA⟩
theorem aTy (os:Os) (G:os.Started) (H:Type) (enc:TypeId×Value->H) (F:Stop.Interp):
  ReturnsInHanded {} checked os 3 .any ((Rows.OpenSpec.upto Rows.programMakesSpec).preRow enc prog Tryz.f3 Rows.programMakesUptoRow.domain false Rows.programMakesUptoRow.laid) (((Rows.OpenSpec.upto Rows.programMakesSpec).at F).post enc prog Tryz.f3 false true false false):=by
 obtain⟨S,hx⟩:=aPA os enc;refine returnsInHanded_of_row (C:=checked) (s:=Rows.OpenSpec.upto Rows.programMakesSpec) own G KA func3
  (witness_row_at (enc:=enc) (C:=checked) false (pd os) mh ((aU4 _ _ _).trans rfl) KA KA KA
   (OpenSpec.preRow_of_cond 8 hx KA (fun k Z=>by cases Z;kernel_rfl) KA (laidMetH_of_parts (aU8 _ KA KA) KA))) ?_
 intro W base f ds gs V I hW _ J _ hL hsh _;have u:∀(j:Nat) t v,Tryz.f3.params[j]?=some t->f[j]?=some v->Value.okWide prog W .any base t v:=I;have Z:=J _ rfl;have L:W.ShapedOpen prog:=hsh;have hW':=hW;obtain⟨p,q,hA0,hV,rfl,_,_⟩:=hW;have hA:DataW.TrodAll enc prog W 0 (fun _=>true) true Tryz.f3.params.toList f.toList ds p:=hA0;rw[params3] at hA u;obtain⟨v0,vs0,O,ds0,p0,q0,hargs,rfl,rfl,h0,r0⟩:=trodAll_cons hA;obtain⟨v1,vs1,d1,ds1,p1,q1,rfl,rfl,rfl,h1,r1⟩:=trodAll_cons r0;obtain⟨rfl,rfl,rfl⟩:=trodAll_nil r1;obtain rfl:f=#[v0,v1]:=by cases f;simp_all
 have hB:bk O<=1048576:=by
  have h5:Rows.uptoBulkAll ([O,d1]++gs)<=1048576:=JU Z;exact JT ((C8 ([O,d1]++gs)).2 O XQ) h5
 obtain⟨nm,mt,g,gr,w,h,cl,us,pc,⟨l6,l7,l8⟩,pL⟩:=aQo (u 0 27 v0 rfl rfl) h0 hB;obtain⟨l,fD⟩:=aQp (u 1 28 v1 rfl rfl) h1;refine(aKf W (aUy L hL) KI KI (fun p hp=>by have:=l8 p hp;omega) pL fD).mono fun e W' ⟨he,hb⟩=>?_
 subst he;exact⟨_,rfl,aU5 (tb:=4) laidOut KA rfl underlying4 rfl rfl hW' hb⟩
theorem makes:Rows.ProgramMakesUptoSaid:=
 OpenClaim.holds_of_cond 3 Tryz.f3 rfl rfl rfl rfl rfl rfl rfl ⟨rfl,rfl,rfl,rfl,rfl⟩ rfl rfl rfl rfl rfl KA func3 aZM
  (JU KA) (by unfold Func.isWrapper;first| (rw[JQ (by decide+kernel)];kernel_rfl)| (rw[QF (by decide+kernel)];exact⟨rfl,rfl⟩))
  (fun j f H enc _ F=>by rw[OpenClaim.pre_eq_preRow];exact aTy j f H enc F)
theorem makesCard:Rows.ProgramMakesUptoCardSaid:=
 Claim7.holds_tied_plain_at .later [] _ _ _ _ makes (fun _ h=>by cases h) KA (fun _ h=>by cases h) programMakesUpto_row_tie rfl ⟨rfl,rfl⟩ KA rfl
  (fun f fn hf G=>by
   obtain rfl:f=3:=QU ((show prog.funcNamed "sheetmetal/sheetmetallaw08.ProgramMakes"=some 3 by kernel_rfl).symm.trans hf) |>.symm;obtain rfl:fn=Tryz.f3:=(QU (func3.symm.trans G)).symm;exact⟨KA,fun j t u=>by
    rw[params3] at u;have I:t=27\/t=28:=by
     rcases j with _|_|j
     ·have e:t=27:=by simpa using u.symm
      simp[e]
     ·have e:t=28:=by simpa using u.symm
      simp[e]
     ·simp at u
    rcases I with rfl|rfl
    ·exact(show prog.wantsStandIn 27=false by kernel_rfl)
    ·exact(show prog.wantsStandIn 28=false by kernel_rfl)⟩)
  KA
end
end Go.Proofs.YtgcpildegdgekaaGreatDoor
