/- Texts of this proof, one behind another: What pieces of code must make hold, in plain Lean; printed by gen.py. Conditions: none; de; program.Separate: the parts into which lines separate a sheet. Conditions: the lines are a; What pieces of code must make hold, in plain Lean; printed by gen.py. Conditions: none; de; Sheets: what the two ValidateSheets return is the same. Conditions: none.; ref08.Separate: the parts into which lines separate a sheet, in the reference's way. Condi; What pieces of code must make hold, in plain Lean; printed by gen.py. Conditions: none; de; Whether two lists of rectangles, or of parts, are the same. Conditions: lists of at most 1; What pieces of code must make hold, in plain Lean; printed by gen.py. Conditions: none; de; What pieces of code must make hold, in plain Lean; printed by gen.py. Conditions: none; de; What Merge returns. Conditions: none.; What pieces of code must make hold, in plain Lean; printed by gen.py. Conditions: none; de; What RunCut of the reference returns. Conditions: none.; What pieces of code must make hold, in plain Lean; printed by gen.py. Conditions: none; de; Loops that look for an element; whether a rectangle overlaps one of a list. Conditions: no; What pieces of code must make hold, in plain Lean; printed by gen.py. Conditions: none; de; What pieces of code must make hold, in plain Lean; printed by gen.py. Conditions: none; de; Rectangles that are moved back. Conditions: none.; What pieces of code must make hold, in plain Lean; printed by gen.py. Conditions: . Conditions: none. -/
import Derived.Test.YtjjbojomlfgjlaaGreatDoorMC4
namespace Go.Proofs.YtjjbojomlfgjlaaGreatDoor
open Go.Vm Go.RowKit
set_option linter.unusedVariables false
noncomputable section
def cE:Nat->Nat->Nat->Canon UU:=fun o b r=>cond (Nat.beq o 0&&Nat.beq b 0) ⟨[1,2,4,5,19,20,21],[2],[],[],[]⟩ (cond (Nat.beq o 34000&&Nat.beq b 0) ⟨[1,6,7,23,24,25],[],[(.tmp 6,34188,.int),(.tmp 7,34189,.int)],[],[]⟩ (cond (Nat.beq o 34000&&Nat.beq b 2) ⟨[1,10,68,69],[34049],[(.cell 34049 0,34188,.int),(.cell 34049 1,34189,.int),(.cell 34049 2,34190,.bools),(.cell 34049 3,34191,.bools),(.cell 34049 4,34192,.ints)],[],[34190,34191,34192]⟩ (cond (Nat.beq o 34000&&Nat.beq b 4) ⟨[10,118,119,120],[34049],[(.cell 34049 0,34188,.int),(.cell 34049 1,34189,.int),(.cell 34049 2,34190,.bools),(.cell 34049 3,34191,.bools),(.cell 34049 4,34192,.ints)],[],[34190,34191,34192]⟩ (cond (Nat.beq o 34000&&Nat.beq b 6) ⟨[10,12,13,15,118,119,120],[34012,34049],[(.cell 34049 0,34188,.int),(.cell 34049 1,34189,.int),(.cell 34049 2,34190,.bools),(.cell 34049 3,34191,.bools),(.cell 34049 4,34192,.ints)],[],[34190,34191,34192]⟩ (cond (Nat.beq o 40000&&Nat.beq b 0) ⟨[0,3,12,13],[34049],[(.cell 34049 0,40114,.int),(.cell 34049 1,40115,.int),(.cell 34049 2,40116,.bools),(.cell 34049 3,40117,.bools),(.cell 34049 4,40118,.ints),(.tmp 3,40119,.rects)],[],[40116,40117,40118,40119]⟩ (cond (Nat.beq o 34000&&Nat.beq b 8) ⟨[10,12,13,15,118,119,120],[34012,34049],[(.cell 34049 0,34188,.int),(.cell 34049 1,34189,.int),(.cell 34049 2,34190,.bools),(.cell 34049 3,34191,.bools),(.cell 34049 4,34192,.ints)],[],[34190,34191,34192]⟩ (cond (Nat.beq o 40000&&Nat.beq b 2) ⟨[0,3,4,12,13,21,22],[34049],[(.cell 34049 0,40114,.int),(.cell 34049 1,40115,.int),(.cell 34049 2,40116,.bools),(.cell 34049 3,40117,.bools),(.cell 34049 4,40118,.ints),(.tmp 3,40119,.rects)],[],[40116,40117,40118,40119]⟩ (cond (Nat.beq o 40042000&&Nat.beq b 0) ⟨[4,7,8,2000000,2000003,2000004,2000005,2000012,2000013,2000021,2000022],[34049,40042004,40042007,40042008],[(.cell 34049 0,40042145,.int),(.cell 34049 1,40042146,.int),(.cell 34049 2,40042147,.bools),(.cell 34049 3,40042148,.bools),(.cell 34049 4,40042149,.ints),(.cell 40042008 0,40042150,.par),(.tmp 2000003,40042151,.rects)],[],[40042147,40042148,40042149,40042151]⟩ (⟨[],[],[],[],[]⟩)))))))))
def aLI (qa qb:ByteArray) (qc qd qf qg:Int) (qh qi:List aA) (a1:List Seg) (Q:List (List aA)->Int->Prop) (i0:List Seg->Int->List Seg->Int->Int->ByteArray->ByteArray->Int->Int->Int->Int->List aA->List aA->Prop):Prop:=(let r0:=(gX qa qb qc qd qf qg qh qi);cond (r0 !=0) (Q ([]) r0) (cond (decide (200<(a1.length:Int))) (Q ([]) 4) (i0 a1 0 a1 (a1.length:Int) 0 qa qb qc qd qf qg qh qi)))
def aUT (rec:List Seg->Int->List Seg->Int->Int->ByteArray->ByteArray->Int->Int->Int->Int->List aA->List aA->Prop) (x0:List Seg->Int->List Seg->Int->Int->ByteArray->ByteArray->Int->Int->Int->Int->List aA->List aA->Prop) (x1:List Seg->Int->List Seg->Int->Int->ByteArray->ByteArray->Int->Int->Int->Int->List aA->List aA->Prop) (t1:List Seg) (t5:Int) (t19:List Seg) (t20 t21:Int) (aS aR:ByteArray) (aU aT bB bA:Int) (aZ bE:List aA):Prop:=cond (decide (t21<t20)) ((let e0:=(t19.getD t21.toNat default);((0<=t21/\t21<t19.length)/\(let r1:=(vD aS aR aU aT bB bA aZ bE e0.X1 e0.Y1 e0.X2 e0.Y2);cond (!r1) (x0 t1 1 t19 t20 t21 aS aR aU aT bB bA aZ bE) (rec t1 t5 t19 t20 (aC (t21+1)) aS aR aU aT bB bA aZ bE))))) (x1 t1 t5 t19 t20 t21 aS aR aU aT bB bA aZ bE)
def aUY (Q:List (List aA)->Int->Prop) (t1:List Seg) (t5:Int) (t19:List Seg) (t20 t21:Int) (aS aR:ByteArray) (aU aT bB bA:Int) (aZ bE:List aA):Prop:=Q ([]) t5
def aUX (Q:List (List aA)->Int->Prop) (t1:List Seg) (t5:Int) (t19:List Seg) (t20 t21:Int) (aS aR:ByteArray) (aU aT bB bA:Int) (aZ bE:List aA) (i1:List Seg->List Seg->Int->Int->zzI->zzI->Prop):Prop:=i1 t1 t1 (t1.length:Int) 0 ([0,bB]) ([0,bA])
def aFo (rec:List Seg->List Seg->Int->Int->zzI->zzI->Prop) (x0:List Seg->List Seg->Int->Int->zzI->zzI->Prop) (t1 t23:List Seg) (t24 t25:Int) (qaq qar:zzI):Prop:=cond (decide (t25<t24)) ((let e0:=(t23.getD t25.toNat default);((0<=t25/\t25<t23.length)/\(((qaq.length+([e0.X1,e0.X2]).length)*8<=140737488355328)/\(((qar.length+([e0.Y1,e0.Y2]).length)*8<=140737488355328)/\rec t1 t23 t24 (aC (t25+1)) (qaq++([e0.X1,e0.X2])) (qar++([e0.Y1,e0.Y2]))))))) (x0 t1 t23 t24 t25 qaq qar)
def aCU (Q:List (List aA)->Int->Prop) (t1 t23:List Seg) (t24 t25:Int) (qaq qar:zzI) (i2:List Seg->Int->Int->zzI->zzI->zzB->zzB->zzZ->Prop):Prop:=((qaq.length<=1000)/\((qar.length<=1000)/\(let v0:=aC ((aC (((eH qaq).length:Int)-1))*(aC (((eH qar).length:Int)-1)));cond (decide (6000<v0)) (Q ([]) 4) (i2 t1 ((eH qaq).length:Int) 0 (eH qaq) (eH qar) ([]) ([]) ([])))))
def aFn (rec:List Seg->Int->Int->zzI->zzI->zzB->zzB->zzZ->Prop) (x0:List Seg->Int->Int->zzI->zzI->zzB->zzB->zzZ->Prop) (t1:List Seg) (t68 t69:Int) (qaq qar:zzI) (qas qat:zzB) (qau:zzZ):Prop:=cond (decide (t69<t68)) (((0<=(qar.length:Int)/\(qar.length:Int)=(qar.length:Int)/\(qar.length:Int)*1<=140737488355328)/\(((qas.length+1)*24<=140737488355328)/\((0<=(qar.length:Int)/\(qar.length:Int)=(qar.length:Int)/\(qar.length:Int)*1<=140737488355328)/\(((qat.length+1)*24<=140737488355328)/\((aJD ([(-1)]) (qar.length:Int))/\(((qau.length+1)*24<=140737488355328)/\rec t1 t68 (aC (t69+1)) qaq qar (qas++[(List.replicate ((qar.length:Int).toNat) (false:Bool))]) (qat++[(List.replicate ((qar.length:Int).toNat) (false:Bool))]) (qau++[(k7 ([(-1)]) (qar.length:Int))])))))))) (x0 t1 t68 t69 qaq qar qas qat qau)
def aLL (Q:List (List aA)->Int->Prop) (t1:List Seg) (t68 t69:Int) (qaq qar:zzI) (qas qat:zzB) (qau:zzZ) (i3:List Seg->Int->Int->zzI->zzI->zzB->zzB->zzZ->Prop):Prop:=i3 t1 (t1.length:Int) 0 qaq qar qas qat qau
def aFm (rec:List Seg->Int->Int->zzI->zzI->zzB->zzB->zzZ->Prop) (x0:List Seg->Int->Int->zzI->zzI->zzB->zzB->zzZ->Prop) (t118:List Seg) (t119 t120:Int) (qaq qar:zzI) (qas qat:zzB) (qau:zzZ) (i4:Int->Int->List Seg->Int->Int->Int->Int->Int->Int->zzI->zzI->zzB->zzB->zzZ->Prop):Prop:=cond (decide (t120<t119)) ((let e0:=(t118.getD t120.toNat default);((0<=t120/\t120<t118.length)/\(let r1:=(sM qaq e0.X1);((aE0 qaq e0.X1)/\(let r2:=(sM qar e0.Y1);((aE0 qar e0.Y1)/\i4 r1.1 r2.1 t118 t119 t120 e0.X1 e0.Y1 e0.X2 e0.Y2 qaq qar qas qat qau))))))) (x0 t118 t119 t120 qaq qar qas qat qau)
def aLK (Q:List (List aA)->Int->Prop) (t118:List Seg) (t119 t120:Int) (qaq qar:zzI) (qas qat:zzB) (qau:zzZ) (i5:Int->Int->zzI->zzI->zzB->zzB->zzZ->List (List aA)->Prop):Prop:=i5 (aC ((qar.length:Int)-1)) 0 qaq qar qas qat qau ([])
def aFl (rec:Int->Int->List Seg->Int->Int->Int->Int->Int->Int->zzI->zzI->zzB->zzB->zzZ->Prop) (x0:Int->Int->List Seg->Int->Int->Int->Int->Int->Int->zzI->zzI->zzB->zzB->zzZ->Prop) (t13 t15:Int) (t118:List Seg) (t119 t120 qz qaa qab qac:Int) (qaq qar:zzI) (qas qat:zzB) (qau:zzZ):Prop:=((0<=t13/\t13<qaq.length)/\cond (decide ((qaq.getD t13.toNat default)<qab)) ((((0<=t13/\t13<qat.length)/\(0<=t15/\t15<(qat.getD t13.toNat default).length))/\rec (aC (t13+1)) t15 t118 t119 t120 qz qaa qab qac qaq qar qas (qat.set t13.toNat ((qat.getD t13.toNat default).set t15.toNat true)) qau)) (x0 t13 t15 t118 t119 t120 qz qaa qab qac qaq qar qas qat qau))
def aLJ (rec:List Seg->Int->Int->zzI->zzI->zzB->zzB->zzZ->Prop) (x0:List Seg->Int->Int->zzI->zzI->zzB->zzB->zzZ->Prop) (t13 t15:Int) (t118:List Seg) (t119 t120 qz qaa qab qac:Int) (qaq qar:zzI) (qas qat:zzB) (qau:zzZ) (i6:Int->Int->List Seg->Int->Int->Int->Int->Int->Int->zzI->zzI->zzB->zzB->zzZ->Prop):Prop:=i6 t13 t15 t118 t119 t120 qz qaa qab qac qaq qar qas qat qau
def aFk (rec:Int->Int->zzI->zzI->zzB->zzB->zzZ->List (List aA)->Prop) (x0:Int->Int->zzI->zzI->zzB->zzB->zzZ->List (List aA)->Prop) (t12 t13:Int) (qbc qbd:zzI) (qbe qbf:zzB) (qbg:zzZ) (qbh:List (List aA)) (i7:Int->Int->Int->Int->Int->zzI->zzI->zzB->zzB->zzZ->List (List aA)->Prop):Prop:=cond (decide (t13<t12)) (i7 t13 t12 t13 (aC ((qbc.length:Int)-1)) 0 qbc qbd qbe qbf qbg qbh) (x0 t12 t13 qbc qbd qbe qbf qbg qbh)
def aUW (Q:List (List aA)->Int->Prop) (t12 t13:Int) (qbc qbd:zzI) (qbe qbf:zzB) (qbg:zzZ) (qbh:List (List aA)):Prop:=Q qbh 0
def aFj (rec:Int->Int->List Seg->Int->Int->Int->Int->Int->Int->zzI->zzI->zzB->zzB->zzZ->Prop) (x0:Int->Int->List Seg->Int->Int->Int->Int->Int->Int->zzI->zzI->zzB->zzB->zzZ->Prop) (t13 t15:Int) (t118:List Seg) (t119 t120 qz qaa qab qac:Int) (qaq qar:zzI) (qas qat:zzB) (qau:zzZ):Prop:=((0<=t15/\t15<qar.length)/\cond (decide ((qar.getD t15.toNat default)<qac)) ((((0<=t13/\t13<qas.length)/\(0<=t15/\t15<(qas.getD t13.toNat default).length))/\rec t13 (aC (t15+1)) t118 t119 t120 qz qaa qab qac qaq qar (qas.set t13.toNat ((qas.getD t13.toNat default).set t15.toNat true)) qat qau)) (x0 t13 t15 t118 t119 t120 qz qaa qab qac qaq qar qas qat qau))
def aUV (rec:List Seg->Int->Int->zzI->zzI->zzB->zzB->zzZ->Prop) (x0:List Seg->Int->Int->zzI->zzI->zzB->zzB->zzZ->Prop) (t13 t15:Int) (t118:List Seg) (t119 t120 qz qaa qab qac:Int) (qaq qar:zzI) (qas qat:zzB) (qau:zzZ):Prop:=rec t118 t119 (aC (t120+1)) qaq qar qas qat qau
def aFi (rec:Int->Int->Int->Int->Int->zzI->zzI->zzB->zzB->zzZ->List (List aA)->Prop) (x0:Int->Int->Int->Int->Int->zzI->zzI->zzB->zzB->zzZ->List (List aA)->Prop) (t4 t12 t13 t21 t22:Int) (qbc qbd:zzI) (qbe qbf:zzB) (qbg:zzZ) (qbh:List (List aA)) (i8:Int->Int->Int->Int->Int->Int->Int->zzI->zzI->zzB->zzB->zzZ->List Par->List (List aA)->Prop):Prop:=cond (decide (t22<t21)) ((let v0:=((qbg.getD t22.toNat default).getD t4.toNat default);(((0<=t22/\t22<qbg.length)/\(0<=t4/\t4<(qbg.getD t22.toNat default).length))/\cond (decide (v0<0)) (((0<=t22/\t22<qbg.length)/\((0<=t4/\t4<(qbg.getD t22.toNat default).length)/\i8 t4 t22 t12 t13 t21 t22 (qbh.length:Int) qbc qbd qbe qbf (qbg.set t22.toNat ((qbg.getD t22.toNat default).set t4.toNat (qbh.length:Int))) ([(Par.mk t22 t4)]) qbh))) ((let v1:=((qbg.getD t22.toNat default).getD t4.toNat default);(((0<=t22/\t22<qbg.length)/\(0<=t4/\t4<(qbg.getD t22.toNat default).length))/\((0<=v1/\v1<qbh.length)/\((0<=t22/\t22<qbc.length)/\((0<=t4/\t4<qbd.length)/\((0<=(aC (t22+1))/\(aC (t22+1))<qbc.length)/\(let v2:=(qbc.getD ((aC (t22+1)).toNat) default);((0<=t22/\t22<qbc.length)/\((0<=(aC (t4+1))/\(aC (t4+1))<qbd.length)/\((0<=t4/\t4<qbd.length)/\(let v3:=aC ((qbd.getD ((aC (t4+1)).toNat) default)-(qbd.getD t4.toNat default));((((qbh.getD v1.toNat default).length+([(aA.mk (qbc.getD t22.toNat default) (qbd.getD t4.toNat default) (aC (v2-(qbc.getD t22.toNat default))) v3)]).length)*32<=140737488355328)/\((0<=v1/\v1<(qbh.set v1.toNat ((qbh.getD v1.toNat default)++([(aA.mk (qbc.getD t22.toNat default) (qbd.getD t4.toNat default) (aC (v2-(qbc.getD t22.toNat default))) v3)]))).length)/\((v1.toNat=v1.toNat/\v1.toNat=v1.toNat)/\rec t4 t12 t13 t21 (aC (t22+1)) qbc qbd qbe qbf qbg (qbh.set v1.toNat ((qbh.getD v1.toNat default)++([(aA.mk (qbc.getD t22.toNat default) (qbd.getD t4.toNat default) (aC (v2-(qbc.getD t22.toNat default))) v3)]))))))))))))))))))))) (x0 t4 t12 t13 t21 t22 qbc qbd qbe qbf qbg qbh)
def aUU (rec:Int->Int->zzI->zzI->zzB->zzB->zzZ->List (List aA)->Prop) (x0:Int->Int->zzI->zzI->zzB->zzB->zzZ->List (List aA)->Prop) (t4 t12 t13 t21 t22:Int) (qbc qbd:zzI) (qbe qbf:zzB) (qbg:zzZ) (qbh:List (List aA)):Prop:=rec t12 (aC (t13+1)) qbc qbd qbe qbf qbg qbh
def aFh (rec:Int->Int->Int->Int->Int->Int->Int->zzI->zzI->zzB->zzB->zzZ->List Par->List (List aA)->Prop) (x0:Int->Int->Int->Int->Int->Int->Int->zzI->zzI->zzB->zzB->zzZ->List Par->List (List aA)->Prop) (qbm qbn qbo qbp qbq qbr qad:Int) (qav qaw:zzI) (qax qay:zzB) (qaz:zzZ) (qba:List Par) (qbb:List (List aA)):Prop:=cond (decide (0<(qba.length:Int))) (((0<=(aC ((qba.length:Int)-1))/\(aC ((qba.length:Int)-1))<qba.length)/\((0<=(0:Int)/\(0:Int)<2)/\(let v0:=(qba.getD ((aC ((qba.length:Int)-1)).toNat) default).e0;((0<=(aC ((qba.length:Int)-1))/\(aC ((qba.length:Int)-1))<qba.length)/\((0<=(1:Int)/\(1:Int)<2)/\(let v1:=(qba.getD ((aC ((qba.length:Int)-1)).toNat) default).e1;((0<=(aC ((qba.length:Int)-1))/\(aC ((qba.length:Int)-1))<=qba.length)/\oK ((decide (0<v0))=true->((0<=v0/\v0<qax.length)/\0<=v1/\v1<(qax.getD v0.toNat default).length)) ((decide (0<v0))&&(!((qax.getD v0.toNat default).getD v1.toNat default))) (ma (aC (v0-1)) 0) v1 qad qaz (qba.take ((aC ((qba.length:Int)-1)).toNat)) fun qaz qba=>oK ((decide ((aC (v0+2))<(qav.length:Int)))=true->((0<=(aC (v0+1))/\(aC (v0+1))<qax.length)/\0<=v1/\v1<(qax.getD ((aC (v0+1)).toNat) default).length)) ((decide ((aC (v0+2))<(qav.length:Int)))&&(!((qax.getD ((aC (v0+1)).toNat) default).getD v1.toNat default))) (aC (v0+1)) v1 qad qaz qba fun qaz qba=>oK ((decide (0<v1))=true->((0<=v0/\v0<qay.length)/\0<=v1/\v1<(qay.getD v0.toNat default).length)) ((decide (0<v1))&&(!((qay.getD v0.toNat default).getD v1.toNat default))) v0 (ma (aC (v1-1)) 0) qad qaz qba fun qaz qba=>oK ((decide ((aC (v1+2))<(qaw.length:Int)))=true->((0<=v0/\v0<qay.length)/\0<=(aC (v1+1))/\(aC (v1+1))<(qay.getD v0.toNat default).length)) ((decide ((aC (v1+2))<(qaw.length:Int)))&&(!((qay.getD v0.toNat default).getD ((aC (v1+1)).toNat) default))) v0 (aC (v1+1)) qad qaz qba fun qaz qba=>rec qbm qbn qbo qbp qbq qbr qad qav qaw qax qay qaz qba qbb)))))))) (x0 qbm qbn qbo qbp qbq qbr qad qav qaw qax qay qaz qba qbb)
def aFp (rec:Int->Int->Int->Int->Int->zzI->zzI->zzB->zzB->zzZ->List (List aA)->Prop) (x0:Int->Int->Int->Int->Int->zzI->zzI->zzB->zzB->zzZ->List (List aA)->Prop) (qbm qbn qbo qbp qbq qbr qad:Int) (qav qaw:zzI) (qax qay:zzB) (qaz:zzZ) (qba:List Par) (qbb:List (List aA)):Prop:=(((qbb.length+([[]]:List (List aA)).length)*24<=140737488355328)/\(let v0:=((qaz.getD qbn.toNat default).getD qbm.toNat default);(((0<=qbn/\qbn<qaz.length)/\(0<=qbm/\qbm<(qaz.getD qbn.toNat default).length))/\((0<=v0/\v0<(qbb++([[]]:List (List aA))).length)/\((0<=qbn/\qbn<qav.length)/\((0<=qbm/\qbm<qaw.length)/\((0<=(aC (qbn+1))/\(aC (qbn+1))<qav.length)/\(let v1:=(qav.getD ((aC (qbn+1)).toNat) default);((0<=qbn/\qbn<qav.length)/\(let v2:=aC (v1-(qav.getD qbn.toNat default));((0<=(aC (qbm+1))/\(aC (qbm+1))<qaw.length)/\(let v3:=(qaw.getD ((aC (qbm+1)).toNat) default);((0<=qbm/\qbm<qaw.length)/\(let v4:=aC (v3-(qaw.getD qbm.toNat default));(((((qbb++([[]]:List (List aA))).getD v0.toNat default).length+([(aA.mk (qav.getD qbn.toNat default) (qaw.getD qbm.toNat default) v2 v4)]).length)*32<=140737488355328)/\((0<=v0/\v0<((qbb++([[]]:List (List aA))).set v0.toNat (((qbb++([[]]:List (List aA))).getD v0.toNat default)++([(aA.mk (qav.getD qbn.toNat default) (qaw.getD qbm.toNat default) v2 v4)]))).length)/\((v0.toNat=v0.toNat/\v0.toNat=v0.toNat)/\rec qbm qbo qbp qbq (aC (qbr+1)) qav qaw qax qay qaz ((qbb++([[]]:List (List aA))).set v0.toNat (((qbb++([[]]:List (List aA))).getD v0.toNat default)++([(aA.mk (qav.getD qbn.toNat default) (qaw.getD qbm.toNat default) v2 v4)]))))))))))))))))))))
def aAl (F:Nat) (x0:Int->Int->List Seg->Int->Int->Int->Int->Int->Int->zzI->zzI->zzB->zzB->zzZ->Prop):Nat->Int->Int->List Seg->Int->Int->Int->Int->Int->Int->zzI->zzI->zzB->zzB->zzZ->Prop
 |0,_,_,_,_,_,_,_,_,_,_,_,_,_,_=>False
 |n+1,t13,t15,t118,t119,t120,qz,qaa,qab,qac,qaq,qar,qas,qat,qau=>aFj (aAl F x0 n) x0 t13 t15 t118 t119 t120 qz qaa qab qac qaq qar qas qat qau
def aJi (F:Nat) (rec:List Seg->Int->Int->zzI->zzI->zzB->zzB->zzZ->Prop) (x0:List Seg->Int->Int->zzI->zzI->zzB->zzB->zzZ->Prop) (t13 t15:Int) (t118:List Seg) (t119 t120 qz qaa qab qac:Int) (qaq qar:zzI) (qas qat:zzB) (qau:zzZ):Prop:=aAl F (fun t13 t15 t118 t119 t120 qz qaa qab qac qaq qar qas qat qau=>aUV rec x0 t13 t15 t118 t119 t120 qz qaa qab qac qaq qar qas qat qau) F t13 t15 t118 t119 t120 qz qaa qab qac qaq qar qas qat qau
def c6 (F:Nat) (x0:Int->Int->List Seg->Int->Int->Int->Int->Int->Int->zzI->zzI->zzB->zzB->zzZ->Prop):Nat->Int->Int->List Seg->Int->Int->Int->Int->Int->Int->zzI->zzI->zzB->zzB->zzZ->Prop
 |0,_,_,_,_,_,_,_,_,_,_,_,_,_,_=>False
 |n+1,t13,t15,t118,t119,t120,qz,qaa,qab,qac,qaq,qar,qas,qat,qau=>aFl (c6 F x0 n) x0 t13 t15 t118 t119 t120 qz qaa qab qac qaq qar qas qat qau
def aOI (F:Nat) (rec:List Seg->Int->Int->zzI->zzI->zzB->zzB->zzZ->Prop) (x0:List Seg->Int->Int->zzI->zzI->zzB->zzB->zzZ->Prop) (t13 t15:Int) (t118:List Seg) (t119 t120 qz qaa qab qac:Int) (qaq qar:zzI) (qas qat:zzB) (qau:zzZ):Prop:=c6 F (fun t13 t15 t118 t119 t120 qz qaa qab qac qaq qar qas qat qau=>aLJ rec x0 t13 t15 t118 t119 t120 qz qaa qab qac qaq qar qas qat qau (aJi F rec x0)) F t13 t15 t118 t119 t120 qz qaa qab qac qaq qar qas qat qau
def aAk (F:Nat) (x0:Int->Int->Int->Int->Int->Int->Int->zzI->zzI->zzB->zzB->zzZ->List Par->List (List aA)->Prop):Nat->Int->Int->Int->Int->Int->Int->Int->zzI->zzI->zzB->zzB->zzZ->List Par->List (List aA)->Prop
 |0,_,_,_,_,_,_,_,_,_,_,_,_,_,_=>False
 |n+1,qbm,qbn,qbo,qbp,qbq,qbr,qad,qav,qaw,qax,qay,qaz,qba,qbb=>aFh (aAk F x0 n) x0 qbm qbn qbo qbp qbq qbr qad qav qaw qax qay qaz qba qbb
def aOG (F:Nat) (rec:Int->Int->Int->Int->Int->zzI->zzI->zzB->zzB->zzZ->List (List aA)->Prop) (x0:Int->Int->Int->Int->Int->zzI->zzI->zzB->zzB->zzZ->List (List aA)->Prop) (qbm qbn qbo qbp qbq qbr qad:Int) (qav qaw:zzI) (qax qay:zzB) (qaz:zzZ) (qba:List Par) (qbb:List (List aA)):Prop:=aAk F (fun qbm qbn qbo qbp qbq qbr qad qav qaw qax qay qaz qba qbb=>aFp rec x0 qbm qbn qbo qbp qbq qbr qad qav qaw qax qay qaz qba qbb) F qbm qbn qbo qbp qbq qbr qad qav qaw qax qay qaz qba qbb
def uU (F:Nat) (x0:Int->Int->Int->Int->Int->zzI->zzI->zzB->zzB->zzZ->List (List aA)->Prop):Nat->Int->Int->Int->Int->Int->zzI->zzI->zzB->zzB->zzZ->List (List aA)->Prop
 |0,_,_,_,_,_,_,_,_,_,_,_=>False
 |n+1,t4,t12,t13,t21,t22,qbc,qbd,qbe,qbf,qbg,qbh=>aFi (uU F x0 n) x0 t4 t12 t13 t21 t22 qbc qbd qbe qbf qbg qbh (aOG F (uU F x0 n) x0)
def aOH (F:Nat) (rec:Int->Int->zzI->zzI->zzB->zzB->zzZ->List (List aA)->Prop) (x0:Int->Int->zzI->zzI->zzB->zzB->zzZ->List (List aA)->Prop) (t4 t12 t13 t21 t22:Int) (qbc qbd:zzI) (qbe qbf:zzB) (qbg:zzZ) (qbh:List (List aA)):Prop:=uU F (fun t4 t12 t13 t21 t22 qbc qbd qbe qbf qbg qbh=>aUU rec x0 t4 t12 t13 t21 t22 qbc qbd qbe qbf qbg qbh) F t4 t12 t13 t21 t22 qbc qbd qbe qbf qbg qbh
def sB (F:Nat) (x0:Int->Int->zzI->zzI->zzB->zzB->zzZ->List (List aA)->Prop):Nat->Int->Int->zzI->zzI->zzB->zzB->zzZ->List (List aA)->Prop
 |0,_,_,_,_,_,_,_,_=>False
 |n+1,t12,t13,qbc,qbd,qbe,qbf,qbg,qbh=>aFk (sB F x0 n) x0 t12 t13 qbc qbd qbe qbf qbg qbh (aOH F (sB F x0 n) x0)
def aJj (F:Nat) (Q:List (List aA)->Int->Prop) (t12 t13:Int) (qbc qbd:zzI) (qbe qbf:zzB) (qbg:zzZ) (qbh:List (List aA)):Prop:=sB F (fun t12 t13 qbc qbd qbe qbf qbg qbh=>aUW Q t12 t13 qbc qbd qbe qbf qbg qbh) F t12 t13 qbc qbd qbe qbf qbg qbh
def mY (F:Nat) (x0:List Seg->Int->Int->zzI->zzI->zzB->zzB->zzZ->Prop):Nat->List Seg->Int->Int->zzI->zzI->zzB->zzB->zzZ->Prop
 |0,_,_,_,_,_,_,_,_=>False
 |n+1,t118,t119,t120,qaq,qar,qas,qat,qau=>aFm (mY F x0 n) x0 t118 t119 t120 qaq qar qas qat qau (aOI F (mY F x0 n) x0)
def aJk (F:Nat) (Q:List (List aA)->Int->Prop) (t118:List Seg) (t119 t120:Int) (qaq qar:zzI) (qas qat:zzB) (qau:zzZ):Prop:=mY F (fun t118 t119 t120 qaq qar qas qat qau=>aLK Q t118 t119 t120 qaq qar qas qat qau (aJj F Q)) F t118 t119 t120 qaq qar qas qat qau
def c7 (F:Nat) (x0:List Seg->Int->Int->zzI->zzI->zzB->zzB->zzZ->Prop):Nat->List Seg->Int->Int->zzI->zzI->zzB->zzB->zzZ->Prop
 |0,_,_,_,_,_,_,_,_=>False
 |n+1,t1,t68,t69,qaq,qar,qas,qat,qau=>aFn (c7 F x0 n) x0 t1 t68 t69 qaq qar qas qat qau
def aEn (F:Nat) (Q:List (List aA)->Int->Prop) (t1:List Seg) (t68 t69:Int) (qaq qar:zzI) (qas qat:zzB) (qau:zzZ):Prop:=c7 F (fun t1 t68 t69 qaq qar qas qat qau=>aLL Q t1 t68 t69 qaq qar qas qat qau (aJk F Q)) F t1 t68 t69 qaq qar qas qat qau
def c8 (F:Nat) (x0:List Seg->List Seg->Int->Int->zzI->zzI->Prop):Nat->List Seg->List Seg->Int->Int->zzI->zzI->Prop
 |0,_,_,_,_,_,_=>False
 |n+1,t1,t23,t24,t25,qaq,qar=>aFo (c8 F x0 n) x0 t1 t23 t24 t25 qaq qar
def aOJ (F:Nat) (Q:List (List aA)->Int->Prop) (t1 t23:List Seg) (t24 t25:Int) (qaq qar:zzI):Prop:=c8 F (fun t1 t23 t24 t25 qaq qar=>aCU Q t1 t23 t24 t25 qaq qar (aEn F Q)) F t1 t23 t24 t25 qaq qar
def aAm (F:Nat) (x0:List Seg->Int->List Seg->Int->Int->ByteArray->ByteArray->Int->Int->Int->Int->List aA->List aA->Prop) (x1:List Seg->Int->List Seg->Int->Int->ByteArray->ByteArray->Int->Int->Int->Int->List aA->List aA->Prop):Nat->List Seg->Int->List Seg->Int->Int->ByteArray->ByteArray->Int->Int->Int->Int->List aA->List aA->Prop
 |0,_,_,_,_,_,_,_,_,_,_,_,_,_=>False
 |n+1,t1,t5,t19,t20,t21,aS,aR,aU,aT,bB,bA,aZ,bE=>aUT (aAm F x0 x1 n) x0 x1 t1 t5 t19 t20 t21 aS aR aU aT bB bA aZ bE
def aOK (F:Nat) (Q:List (List aA)->Int->Prop) (t1:List Seg) (t5:Int) (t19:List Seg) (t20 t21:Int) (aS aR:ByteArray) (aU aT bB bA:Int) (aZ bE:List aA):Prop:=aAm F (fun t1 t5 t19 t20 t21 aS aR aU aT bB bA aZ bE=>aUY Q t1 t5 t19 t20 t21 aS aR aU aT bB bA aZ bE) (fun t1 t5 t19 t20 t21 aS aR aU aT bB bA aZ bE=>aUX Q t1 t5 t19 t20 t21 aS aR aU aT bB bA aZ bE (aOJ F Q)) F t1 t5 t19 t20 t21 aS aR aU aT bB bA aZ bE
def aII (F:Nat) (qa qb:ByteArray) (qc qd qf qg:Int) (qh qi:List aA) (a1:List Seg) (Q:List (List aA)->Int->Prop):Prop:=aLI qa qb qc qd qf qg qh qi a1 Q (aOK F Q)
set_option maxRecDepth 20000
def mO (nm mt:ByteArray) (g gr w h:Int) (cl us:List aA) (s:Seg):Bool:=vD nm mt g gr w h cl us s.X1 s.Y1 s.X2 s.Y2
def aJB (nm mt:ByteArray) (g gr w h:Int) (cl us:List aA) (ls:List Seg):Prop:=True
def fF (nm mt:ByteArray) (g gr w h:Int) (cl us:List aA) (ls:List Seg):List (List aA)×Int:=
 cond (gX nm mt g gr w h cl us !=0) ([],gX nm mt g gr w h cl us) (cond (decide (200<(ls.length:Int))) ([],4) (cond (!(ls.all (mO nm mt g gr w h cl us))) ([],1)
  (cond (decide (6000<(((gxs w ls).length:Int)-1)*(((gys h ls).length:Int)-1))) ([],4) (oH w h ls,0))))
theorem aKM {nm mt:ByteArray} {g gr w h:Int} {cl us:List aA} {s:Seg}:mO nm mt g gr w h cl us s=true↔mJ w h s:=by
 have e:∀a b,iC nm mt g gr w h cl us a b=true↔(0<=a/\a<=w/\0<=b/\b<=h):=fun a b=>by
  unfold iC;simp only[Bool.and_eq_true,decide_eq_true_eq,and_assoc]
 have e1:=e s.X1 s.Y1;have e2:=e s.X2 s.Y2;unfold mO vD mJ;cases q1:iC nm mt g gr w h cl us s.X1 s.Y1 with
 |false=>
  rw[q1] at e1;simp only[Bool.not_false,Bool.true_or,cond_true];refine⟨(fun z=>by cases z),fun z=>?_⟩;exact e1.2 (by omega)
 |true=>
  rw[q1] at e1;cases q2:iC nm mt g gr w h cl us s.X2 s.Y2 with
  |false=>
   rw[q2] at e2;simp only[Bool.not_false,Bool.or_true,cond_true];refine⟨(fun z=>by cases z),fun z=>?_⟩;exact e2.2 (by omega)
  |true=>
   rw[q2] at e2;have a1:=e1.1 rfl;have a2:=e2.1 rfl;simp only[Bool.not_true,Bool.or_self,cond_false,Bool.or_eq_true,Bool.and_eq_true,beq_iff_eq,decide_eq_true_eq];omega
theorem aI5 {nm mt:ByteArray} {g gr w h:Int} {cl us:List aA} (h1:(gX nm mt g gr w h cl us !=0)=false):1<=w/\w<=1048576/\1<=h/\h<=1048576:=by
 unfold gX at h1
 revert h1
 cases ((!(vn nm))||(!(vn mt)))
 ·simp only[cond_false];cases q:(((!(lA g gr))||(!(jU w 1 1048576)))||(!(jU h 1 1048576)))
  ·intro _;simp only[Bool.or_eq_false_iff,Bool.not_eq_false'] at q;obtain⟨⟨_,q1⟩,q2⟩:=q;unfold jU at q1 q2;simp only[Bool.and_eq_true,decide_eq_true_eq] at q1 q2;omega
  ·simp
 ·simp
abbrev LI:=zzI
abbrev LB:=zzB
abbrev XS:=LI->LI->LB->LB->zzZ->Prop
abbrev X4:=Int->Int->List Seg->Int->Int->Int->Int->Int->Int->XS
abbrev X3:=List Seg->Int->Int->XS
abbrev X5:=Int->Int->LI->LI->LB->LB->zzZ->List (List aA)->Prop
abbrev X7:=Int->Int->Int->X5
abbrev X8:=Int->Int->Int->Int->Int->Int->Int->LI->LI->LB->LB->zzZ->List Par->List (List aA)->Prop
theorem lp1 (F:Nat) (x0:List Seg->List Seg->Int->Int->LI->LI->Prop) (ls:List Seg) (hl:ls.length<=200):∀(n i:Nat) (xs ys:LI),i<=ls.length->ls.length<n+i->xs.length=2+2*i->ys.length=2+2*i->
  x0 ls ls ls.length ls.length (xs++(ls.drop i).flatMap fun s=>[s.X1,s.X2]) (ys++(ls.drop i).flatMap fun s=>[s.Y1,s.Y2])->c8 F x0 n ls ls ls.length i xs ys:=by
 intro n
 induction n with
 |zero=>intro i xs ys h1 h2;omega
 |succ n ih=>
  intro i xs ys h1 h2 h3 h4 hx;show aFo _ _ _ _ _ _ _ _;unfold aFo
  by_cases h:i<ls.length
  ·rw[aW (show (i:Int)<ls.length by omega),cond_true];simp only[Int.toNat_natCast];refine⟨⟨by omega,by omega⟩,by simp only[List.length_cons,List.length_nil];omega,by simp only[List.length_cons,List.length_nil];omega,?_⟩;rw[bX h (by omega)];refine ih (i+1) _ _ (by omega) (by omega) (by simp;omega) (by simp;omega) ?_;rw[iJ ls i h,List.flatMap_cons,List.flatMap_cons,<- List.append_assoc,<- List.append_assoc] at hx;exact hx
  ·have e:i=ls.length:=by omega
   subst e;rw[bD (by omega),cond_false];rw[List.drop_length] at hx;simpa using hx
theorem lp2 (F:Nat) (x0:X3) (ls:List Seg) (xs ys:LI) (h1:xs.length<=1000) (h2:ys.length<=1000) (hx:x0 ls xs.length xs.length xs ys (List.replicate xs.length (List.replicate ys.length false)) (List.replicate xs.length (List.replicate ys.length false)) (List.replicate xs.length (List.replicate ys.length (-1)))):
  ∀(n i:Nat),i<=xs.length->xs.length<n+i->c7 F x0 n ls xs.length i xs ys (List.replicate i (List.replicate ys.length false)) (List.replicate i (List.replicate ys.length false)) (List.replicate i (List.replicate ys.length (-1))):=by
 intro n
 induction n with
 |zero=>intro i h3 h4;omega
 |succ n ih=>
  intro i h3 h4;show aFn _ _ _ _ _ _ _ _ _ _;unfold aFn
  by_cases h:i<xs.length
  ·rw[aW (show (i:Int)<xs.length by omega),cond_true];simp only[Int.toNat_natCast,List.length_replicate];refine⟨⟨by omega,by trivial,by omega⟩,by omega,⟨by omega,by trivial,by omega⟩,by omega,⟨rfl,by omega,by omega⟩,by omega,?_⟩;rw[bX h (by omega)];have e:k7 [-1] (ys.length:Int)=List.replicate ys.length (-1):=by
    unfold k7;rw[Int.toNat_natCast];rfl
   rw[e,<- List.replicate_succ',<- List.replicate_succ'];exact ih (i+1) (by omega) (by omega)
  ·have e:i=xs.length:=by omega
   subst e;rw[bD (by omega),cond_false];exact hx
theorem lp4 (F:Nat) (x0:X4) (ls:List Seg) (t119 t120 c0 c1 c2 c3:Int) (xs ys:LI) (lf:LB) (part:zzZ) (k:Nat) (hk:k<ys.length) (gU:xs.length<=1000) (hs:asc xs) (hm:c2∈xs):
  ∀(n a:Nat) (bl:LB) (f:Nat->Nat->Bool),Tab xs.length ys.length bl f->xs.length<n+a->
  (∀b bl',(b=max a (bO xs c2))->Tab xs.length ys.length bl' (fun i j=>f i j||decide (a<=i/\i<bO xs c2/\j=k))->x0 b k ls t119 t120 c0 c1 c2 c3 xs ys lf bl' part)->
  a<xs.length->c6 F x0 n a k ls t119 t120 c0 c1 c2 c3 xs ys lf bl part:=by
 obtain⟨hb,hbv⟩:=kT hs hm;intro n
 induction n with
 |zero=>intro a bl f h1 h2 h3 h4;omega
 |succ n ih=>
  intro a bl f hT h2 hx ha;show aFl _ _ _ _ _ _ _ _ _ _ _ _ _ _ _ _;unfold aFl;simp only[Int.toNat_natCast];refine⟨⟨by omega,by omega⟩,?_⟩;have hlt:=aCi xs c2 hs.le a ha
  by_cases h:a<bO xs c2
  ·rw[aW (hlt.2 h),cond_true];have hr:=hT.2.1 a ha;have hl:=hT.1;refine⟨⟨⟨by omega,by omega⟩,by omega,by omega⟩,?_⟩;rw[bX ha (by omega)];refine ih (a+1) _ _ (hT.set ha hk) (by omega) (fun b bl' hb' hT'=>hx b bl' (by omega) (hT'.congr fun i j hi hj=>?_)) (by omega);rw[Bool.or_assoc];congr 1;rw[Bool.eq_iff_iff];simp only[Bool.or_eq_true,decide_eq_true_eq];omega
  ·rw[bD (fun q=>h (hlt.1 q)),cond_false];refine hx a bl (by omega) (hT.congr fun i j hi hj=>?_);rw[decide_eq_false (by omega),Bool.or_false]
theorem lp6 (F:Nat) (x0:X4) (ls:List Seg) (t119 t120 c0 c1 c2 c3:Int) (xs ys:LI) (bl:LB) (part:zzZ) (b:Nat) (hb:b<xs.length) (gU:ys.length<=1000) (hs:asc ys) (hm:c3∈ys):
  ∀(n a:Nat) (lf:LB) (f:Nat->Nat->Bool),Tab xs.length ys.length lf f->ys.length<n+a->
  (∀t lf',Tab xs.length ys.length lf' (fun i j=>f i j||decide (i=b/\a<=j/\j<bO ys c3))->x0 b t ls t119 t120 c0 c1 c2 c3 xs ys lf' bl part)->
  a<ys.length->aAl F x0 n b a ls t119 t120 c0 c1 c2 c3 xs ys lf bl part:=by
 obtain⟨hbb,hbv⟩:=kT hs hm;intro n
 induction n with
 |zero=>intro a lf f h1 h2 h3 h4;omega
 |succ n ih=>
  intro a lf f hT h2 hx ha;show aFj _ _ _ _ _ _ _ _ _ _ _ _ _ _ _ _;unfold aFj;simp only[Int.toNat_natCast];refine⟨⟨by omega,by omega⟩,?_⟩;have hlt:=aCi ys c3 hs.le a ha
  by_cases h:a<bO ys c3
  ·rw[aW (hlt.2 h),cond_true];have hr:=hT.2.1 b hb;have hl:=hT.1;refine⟨⟨⟨by omega,by omega⟩,by omega,by omega⟩,?_⟩;rw[bX ha (by omega)];refine ih (a+1) _ _ (hT.set hb ha) (by omega) (fun t lf' hT'=>hx t lf' (hT'.congr fun i j hi hj=>?_)) (by omega);rw[Bool.or_assoc];congr 1;rw[Bool.eq_iff_iff];simp only[Bool.or_eq_true,decide_eq_true_eq];omega
  ·rw[bD (fun q=>h (hlt.1 q)),cond_false];refine hx a lf (hT.congr fun i j hi hj=>?_);rw[decide_eq_false (by omega),Bool.or_false]
theorem aKN (xs ys:LI) (ls:List Seg) (s:Seg) (i k:Nat):lfG xs ys (ls++[s]) i k=(lfG xs ys ls i k||decide (i=bO xs s.X1/\bO ys s.Y1<=k/\k<bO ys s.Y2)):=by
 unfold lfG;simp
theorem aMA (xs ys:LI) (ls:List Seg) (s:Seg) (i k:Nat):blG xs ys (ls++[s]) i k=(blG xs ys ls i k||decide (bO xs s.X1<=i/\i<bO xs s.X2/\k=bO ys s.Y1)):=by
 unfold blG;simp
theorem aDn {α:Type} [Inhabited α] (l:List α) (i:Nat) (h:i<l.length):l.take (i+1)=l.take i++[l.getD i default]:=by
 rw[List.take_add_one,List.getD_eq_getElem?_getD,List.getElem?_eq_getElem h];rfl
theorem lp3 (F:Nat) (x0:X3) (ls:List Seg) (hl:ls.length<=200) (w h:Int) (xs ys:LI) (gU:xs.length<=1000) (jJ:ys.length<=1000) (hsx:asc xs) (hsy:asc ys) (hF:2000<F) (part:zzZ)
  (hls:∀s∈ls,mJ w h s/\s.X1∈xs/\s.X2∈xs/\s.Y1∈ys/\s.Y2∈ys)
  (hx:∀lf bl,Tab xs.length ys.length lf (lfG xs ys ls)->Tab xs.length ys.length bl (blG xs ys ls)->x0 ls ls.length ls.length xs ys lf bl part):
  ∀(n i:Nat) (lf bl:LB),i<=ls.length->ls.length<n+i->Tab xs.length ys.length lf (lfG xs ys (ls.take i))->Tab xs.length ys.length bl (blG xs ys (ls.take i))->mY F x0 n ls ls.length i xs ys lf bl part:=by
 intro n
 induction n with
 |zero=>intro i lf bl h1 h2;omega
 |succ n ih=>
  intro i lf bl h1 h2 hT hU;show aFm _ _ _ _ _ _ _ _ _ _ _;unfold aFm
  by_cases hi:i<ls.length
  ·rw[aW (show (i:Int)<ls.length by omega),cond_true];simp only[Int.toNat_natCast];have hms:ls.getD i default∈ls:=by
    rw[List.getD_eq_getElem?_getD,List.getElem?_eq_getElem hi,Option.getD_some];exact List.getElem_mem _
   have hT2:=aDn ls i hi;generalize ls.getD i default=s at hms hT2;obtain⟨⟨ho1,ho2⟩,m1,m2,m3,m4⟩:=hls s hms;refine⟨⟨by omega,by omega⟩,⟨hsx.le,by omega⟩,⟨hsy.le,by omega⟩,?_⟩;show c6 F (fun t13 t15 t118 t119 t120 qz qaa qab qac qaq qar qas qat qau=>aLJ (mY F x0 n) x0 t13 t15 t118 t119 t120 qz qaa qab qac qaq qar qas qat qau (aJi F (mY F x0 n) x0)) F (bO xs s.X1:Nat) (bO ys s.Y1:Nat) ls ls.length i s.X1 s.Y1 s.X2 s.Y2 xs ys lf bl part;obtain⟨b1,v1⟩:=kT hsx m1;obtain⟨b2,v2⟩:=kT hsx m2;obtain⟨b3,v3⟩:=kT hsy m3;obtain⟨b4,v4⟩:=kT hsy m4;have mono:∀{l:LI},asc l->∀{x y:Int},x∈l->y∈l->x<=y->bO l x<=bO l y:=fun {l} hl {x y} hx hy hxy=>by
    obtain⟨c1,u1⟩:=kT hl hx;obtain⟨c2,u2⟩:=kT hl hy
    by_cases q:bO l x<=bO l y
    ·exact q
    ·have:=hl.get (show bO l y<bO l x by omega) c1;omega
   have g1:=mono hsx m1 m2 (by omega);refine lp4 F _ ls _ _ _ _ _ _ xs ys lf part (bO ys s.Y1) b3 gU hsx m2 F (bO xs s.X1) bl _ hU (by omega) (fun b bl' hb hU'=>?_) b1;have cA:b=bO xs s.X2:=by omega
   subst cA;show aAl F (fun t13 t15 t118 t119 t120 qz qaa qab qac qaq qar qas qat qau=>aUV (mY F x0 n) x0 t13 t15 t118 t119 t120 qz qaa qab qac qaq qar qas qat qau) F (bO xs s.X2:Nat) (bO ys s.Y1:Nat) ls ls.length i s.X1 s.Y1 s.X2 s.Y2 xs ys lf bl' part;refine lp6 F _ ls _ _ _ _ _ _ xs ys bl' part (bO xs s.X2) b2 jJ hsy m4 F (bO ys s.Y1) lf _ hT (by omega) (fun t lf' hT'=>?_) b3;show mY F x0 n ls ls.length (aC ((i:Int)+1)) xs ys lf' bl' part;rw[bX hi (by omega)];refine ih (i+1) lf' bl' (by omega) (by omega) (hT'.congr fun a c ha hc=>?_) (hU'.congr fun a c ha hc=>?_)
   ·rw[hT2,aKN];congr 1;rw[decide_eq_decide];rcases ho2 with ⟨q1,q2⟩|⟨q1,q2⟩
    ·rw[q1];omega
    ·rw[q1]
   ·rw[hT2,aMA]
  ·have e:i=ls.length:=by omega
   subst e;rw[bD (by omega),cond_false];rw[List.take_length] at hT hU;exact hx lf bl hT hU
theorem bAX (rec x0:X8) (t4 t5 t12 t13 t21 t22 n:Int) (xs ys:LI) (lf bl:LB) (part:zzZ) (todo:List Par) (out:List (List aA)):
  aFh rec x0 t4 t5 t12 t13 t21 t22 n xs ys lf bl part todo out=
  cond (decide (0<(todo.length:Int))) (((0<=(aC ((todo.length:Int)-1))/\(aC ((todo.length:Int)-1))<todo.length)/\((0<=(0:Int)/\(0:Int)<2)/\(let v0:=(todo.getD ((aC ((todo.length:Int)-1)).toNat) default).e0;
   ((0<=(aC ((todo.length:Int)-1))/\(aC ((todo.length:Int)-1))<todo.length)/\((0<=(1:Int)/\(1:Int)<2)/\(let v1:=(todo.getD ((aC ((todo.length:Int)-1)).toNat) default).e1;
   ((0<=(aC ((todo.length:Int)-1))/\(aC ((todo.length:Int)-1))<=todo.length)/\
   oK ((decide (0<v0))=true->((0<=v0/\v0<lf.length)/\0<=v1/\v1<(lf.getD v0.toNat default).length)) ((decide (0<v0))&&(!((lf.getD v0.toNat default).getD v1.toNat default))) (ma (aC (v0-1)) 0) v1 n part (todo.take ((aC ((todo.length:Int)-1)).toNat)) fun part todo=>
   oK ((decide ((aC (v0+2))<(xs.length:Int)))=true->((0<=(aC (v0+1))/\(aC (v0+1))<lf.length)/\0<=v1/\v1<(lf.getD ((aC (v0+1)).toNat) default).length)) ((decide ((aC (v0+2))<(xs.length:Int)))&&(!((lf.getD ((aC (v0+1)).toNat) default).getD v1.toNat default))) (aC (v0+1)) v1 n part todo fun part todo=>
   oK ((decide (0<v1))=true->((0<=v0/\v0<bl.length)/\0<=v1/\v1<(bl.getD v0.toNat default).length)) ((decide (0<v1))&&(!((bl.getD v0.toNat default).getD v1.toNat default))) v0 (ma (aC (v1-1)) 0) n part todo fun part todo=>
   oK ((decide ((aC (v1+2))<(ys.length:Int)))=true->((0<=v0/\v0<bl.length)/\0<=(aC (v1+1))/\(aC (v1+1))<(bl.getD v0.toNat default).length)) ((decide ((aC (v1+2))<(ys.length:Int)))&&(!((bl.getD v0.toNat default).getD ((aC (v1+1)).toNat) default))) v0 (aC (v1+1)) n part todo fun part todo=>
   rec t4 t5 t12 t13 t21 t22 n xs ys lf bl part todo out)))))))) (x0 t4 t5 t12 t13 t21 t22 n xs ys lf bl part todo out):=rfl
theorem lp8 (F:Nat) (x0:X8) (t4 t5 t12 t13 t21 t22:Int) (xs ys:LI) (lf bl:LB) (f g:Nat->Nat->Bool) (w h n:Nat) (hw:xs.length=w+1) (hh:ys.length=h+1) (nP:w<=1000) (qD:h<=1000)
  (hT:Tab xs.length ys.length lf f) (hU:Tab xs.length ys.length bl g) (out:List (List aA)) (L0:Pl->Option Nat) (c0:Pl) (h0:L0 c0=none) (hf:∀d,L0 d≠some n)
  (hx:∀part',Arr cdP w h part' (iU (nbs w h f g) L0 c0 n)->x0 t4 t5 t12 t13 t21 t22 n xs ys lf bl part' [] out):
  ∀(m:Nat) (L:Pl->Option Nat) (S:List Pl) (part:zzZ) (todo:List Par),Arr cdP w h part L->todo=S.map wX->iL (nbs w h f g) (cellsOf w h) L0 c0 n (fun _=>False) L S->free (cellsOf w h) L+S.length<=2000000->free (cellsOf w h) L+S.length<m->
   aAk F x0 m t4 t5 t12 t13 t21 t22 n xs ys lf bl part todo out:=by
 intro m
 induction m with
 |zero=>intro L S part todo A hTd W hr hm;omega
 |succ m ih=>
  intro L S part todo A hTd W hr hm;show aFh _ _ _ _ _ _ _ _ _ _ _ _ _ _ _ _;rw[bAX];rcases List.eq_nil_or_concat S with rfl|⟨S',c,rfl⟩
  ·subst hTd;rw[bD (by simp),cond_false];refine hx part ?_;rw[<- W.done h0];exact A
  ·rw[List.concat_eq_append] at hTd W hr hm;obtain⟨hcn,hcc⟩:=W.mem c (by simp);obtain⟨i,k⟩:=c;obtain⟨hci,hck⟩:=pW.1 hcc;replace hci:i<w:=hci;replace hck:k<h:=hck;rw[List.length_append,List.length_singleton] at hr hm;have hlen:todo.length=S'.length+1:=by rw[hTd];simp
   have e1:aC ((todo.length:Int)-1)=(S'.length:Nat):=by
    rw[hlen,bQ (by omega) (by omega)];omega
   have e2:todo.getD S'.length default=wX (i,k):=by
    rw[hTd,List.map_append,List.getD_eq_getElem?_getD,List.getElem?_append_right (by simp)];simp
   have e3:todo.take S'.length=S'.map wX:=by
    rw[hTd,List.map_append];exact List.take_left' (by simp)
   rw[aW (show (0:Int)<(todo.length:Int) by omega),cond_true,e1];have e4:(wX (i,k)).e0=(i:Int):=rfl;have e5:(wX (i,k)).e1=(k:Int):=rfl;have e6:aC ((i:Int)+1)=((i+1:Nat):Int):=by rw[bQ (by omega) (by omega)];omega
   have e7:aC ((k:Int)+1)=((k+1:Nat):Int):=by rw[bQ (by omega) (by omega)];omega
   have e8:aC ((i:Int)+2)=(i:Int)+2:=bQ (by omega) (by omega);have e9:aC ((k:Int)+2)=(k:Int)+2:=bQ (by omega) (by omega);have e10:ma (aC ((i:Int)-1)) 0=((i-1:Nat):Int):=by
    rw[bQ (by omega) (by omega)];unfold ma;omega
   have e11:ma (aC ((k:Int)-1)) 0=((k-1:Nat):Int):=by
    rw[bQ (by omega) (by omega)];unfold ma;omega
   obtain⟨T1,T2,T3⟩:=hT;obtain⟨U1,U2,U3⟩:=hU;simp only[Int.toNat_natCast,e2,e3,e4,e5,e6,e7,e8,e9,e10,e11];refine⟨by first|omega|trivial,by first|omega|trivial,by first|omega|trivial,by first|omega|trivial,by first|omega|trivial,?_⟩;have hnb:nbs w h f g (i,k)=(if 0<i/\f i k=false then [(i-1,k)] else [])++(if i+1<w/\f (i+1) k=false then [(i+1,k)] else [])++(if 0<k/\g i k=false then [(i,k-1)] else [])++(if k+1<h/\g i (k+1)=false then [(i,k+1)] else []):=by
    unfold nbs;rw[if_pos ⟨hci,hck⟩]
   refine aFC (w:=w) (h:=h) (L:=L) (S:=S') (n:=n) (l:=if 0<i/\f i k=false then [(i-1,k)] else []) A rfl (by omega) (fun q=>?_) ?_ fun part1 todo1 s1 jK A1 hT1 cH=>?_
   ·have:=T2 i (by omega);omega
   ·by_cases p:0<i/\f i k=false
    ·refine .inr ⟨?_,i-1,k,rfl,rfl,by omega,hck,if_pos p⟩;rw[aW (by omega),T3 i k (by omega) (by omega),p.2];rfl
    ·refine .inl ⟨?_,if_neg p⟩;rw[T3 i k (by omega) (by omega)]
     by_cases q:0<i
     ·have:f i k=true:=by
       cases z:f i k with
       |true=>rfl
       |false=>exact absurd ⟨q,z⟩ p
      rw[this];simp
     ·rw[bD (by omega)];rfl
   refine aFC (w:=w) (h:=h) (L:=s1.1) (S:=s1.2) (n:=n) (l:=if i+1<w/\f (i+1) k=false then [(i+1,k)] else []) A1 hT1 cH (fun q=>?_) ?_ fun part2 todo2 s2 mS A2 hT2 jA=>?_
   ·have:=T2 (i+1) (by omega);omega
   ·by_cases p:i+1<w/\f (i+1) k=false
    ·refine .inr ⟨?_,i+1,k,rfl,rfl,by omega,hck,if_pos p⟩;rw[aW (by omega),T3 (i+1) k (by omega) (by omega),p.2];rfl
    ·refine .inl ⟨?_,if_neg p⟩;rw[T3 (i+1) k (by omega) (by omega)]
     by_cases q:i+1<w
     ·have:f (i+1) k=true:=by
       cases z:f (i+1) k with
       |true=>rfl
       |false=>exact absurd ⟨q,z⟩ p
      rw[this];simp
     ·rw[bD (by omega)];rfl
   refine aFC (w:=w) (h:=h) (L:=s2.1) (S:=s2.2) (n:=n) (l:=if 0<k/\g i k=false then [(i,k-1)] else []) A2 hT2 jA (fun q=>?_) ?_ fun part3 todo3 s3 hs3 A3 hT3 hr3=>?_
   ·have:=U2 i (by omega);omega
   ·by_cases p:0<k/\g i k=false
    ·refine .inr ⟨?_,i,k-1,rfl,rfl,hci,by omega,if_pos p⟩;rw[aW (by omega),U3 i k (by omega) (by omega),p.2];rfl
    ·refine .inl ⟨?_,if_neg p⟩;rw[U3 i k (by omega) (by omega)]
     by_cases q:0<k
     ·have:g i k=true:=by
       cases z:g i k with
       |true=>rfl
       |false=>exact absurd ⟨q,z⟩ p
      rw[this];simp
     ·rw[bD (by omega)];rfl
   refine aFC (w:=w) (h:=h) (L:=s3.1) (S:=s3.2) (n:=n) (l:=if k+1<h/\g i (k+1)=false then [(i,k+1)] else []) A3 hT3 hr3 (fun q=>?_) ?_ fun part4 todo4 s4 hs4 A4 hT4 hr4=>?_
   ·have:=U2 i (by omega);have:=of_decide_eq_true q;omega
   ·by_cases p:k+1<h/\g i (k+1)=false
    ·refine .inr ⟨?_,i,k+1,rfl,rfl,hci,by omega,if_pos p⟩;rw[aW (by omega),U3 i (k+1) (by omega) (by omega),p.2];rfl
    ·refine .inl ⟨?_,if_neg p⟩;rw[U3 i (k+1) (by omega) (by omega)]
     by_cases q:k+1<h
     ·have:g i (k+1)=true:=by
       cases z:g i (k+1) with
       |true=>rfl
       |false=>exact absurd ⟨q,z⟩ p
      rw[this];simp
     ·rw[bD (by omega)];rfl
   have hv:visit n (nbs w h f g (i,k)) (L,S')=s4:=by
    rw[hnb];unfold visit at jK mS hs3 hs4 ⊢;rw[List.foldl_append,List.foldl_append,List.foldl_append,hs4,hs3,mS,jK]
   have hfree:=aIR (n:=n) (cells:=cellsOf w h) (nbs w h f g (i,k)) (L,S') (fun e he=>aEf he);rw[hv] at hfree;simp only at hfree;have hW:=W.next (c:=(i,k)) (rest:=S') (l:=nbs w h f g (i,k)) (by simp) (fun d hd=>by
    rcases List.mem_append.1 hd with q|q
    ·exact .inr q
    ·exact .inl (List.mem_singleton.1 q)) (fun d hd=>List.mem_append_left _ hd) hf (fun e he=>⟨he,aEf he⟩) (fun e he=>he)
   rw[hv] at hW;exact ih s4.1 s4.2 part4 todo4 A4 hT4 hW hr4 (by omega)
def fL (w k i:Nat):List Pl:=cellsOf w k++(List.range i).map fun i=>(i,k)
theorem aN6 (w k i:Nat):fL w k (i+1)=fL w k i++[(i,k)]:=by
 unfold fL;rw[List.range_succ,List.map_append,List.append_assoc];rfl
theorem aN7 (w k:Nat):fL w k w=fL w (k+1) 0:=by
 unfold fL cellsOf;rw[List.range_succ,List.flatMap_append];simp
theorem aN8 (w k i:Nat):(fL w k i).length=k*w+i:=by
 unfold fL;rw[List.length_append,aGS];simp
theorem aVW (cells:List Pl) (L:Pl->Option Nat):free cells L<=cells.length:=List.length_filter_le _ _
theorem lp7 (F:Nat) (x0:X7) (xs ys:LI) (lf bl:LB) (f g:Nat->Nat->Bool) (w h:Nat) (hw:xs.length=w+1) (hh:ys.length=h+1) (nP:w<=1000) (qD:h<=1000) (hF:2000000<F+1) (hwh:h*w<=10000)
  (hbx:∀j,j<xs.length->0<=xs.getD j default/\xs.getD j default<=1048576) (hby:∀j,j<ys.length->0<=ys.getD j default/\ys.getD j default<=1048576)
  (hT:Tab xs.length ys.length lf f) (hU:Tab xs.length ys.length bl g) (k:Nat) (hk:k<h)
  (hx:∀part' out' L',jV (nbs w h f g) (gG xs ys) (fL w k w) (fun _=>none,[])=(L',out')->Arr cdP w h part' L'->x0 k h k w w xs ys lf bl part' out'):
  ∀(n i:Nat) (part:zzZ) (out:List (List aA)) (L:Pl->Option Nat),i<=w->w<n+i->jV (nbs w h f g) (gG xs ys) (fL w k i) (fun _=>none,[])=(L,out)->Arr cdP w h part L->
   uU F x0 n k h k w i xs ys lf bl part out:=by
 intro n
 induction n with
 |zero=>intro i part out L h1 h2;omega
 |succ n ih=>
  intro i part out L h1 h2 hrun A;show aFi _ _ _ _ _ _ _ _ _ _ _ _ _ _;unfold aFi
  by_cases hi:i<w
  ·rw[aW (show (i:Int)<(w:Int) by omega),cond_true];have hinv:=jP.run (aEe (w:=w) (h:=h) (lf:=f) (bl:=g)) (rect:=gG xs ys) (fL w k i) [] (fun _=>none,[]) (jP.nil _ _);rw[hrun,List.nil_append] at hinv;simp only at hinv;have hpl:(fL w k i).length<=10000:=by
    rw[aN8];have:(k+1)*w<=h*w:=Nat.mul_le_mul_right w hk;rw[Nat.succ_mul] at this;omega
   have hol:out.length<=10000:=by
    have:=aEM (nbs w h f g) (gG xs ys) (fL w k i) (fun _=>none,[]);rw[hrun] at this;simp at this;omega
   have hml:∀j,(out.getD j default).length<=10000:=fun j=>by
    refine Nat.le_trans (aL7 out j) ?_;rw[hinv.perm.length_eq,List.length_map];exact hpl
   have hnext:jV (nbs w h f g) (gG xs ys) (fL w k (i+1)) (fun _=>none,[])=lB (nbs w h f g) (gG xs ys) (L,out) (i,k):=by
    rw[aN6,aNN,hrun];rfl
   obtain⟨A1,A2,A3⟩:=id A;have a2:=A2 i hi;have a3:=A3 i k hi hk;have e1:aC ((i:Int)+1)=((i+1:Nat):Int):=by rw[bQ (by omega) (by omega)];omega
   have e2:aC ((k:Int)+1)=((k+1:Nat):Int):=by rw[bQ (by omega) (by omega)];omega
   have er:aA.mk (xs.getD i default) (ys.getD k default) (aC (xs.getD (i+1) default-xs.getD i default)) (aC (ys.getD (k+1) default-ys.getD k default))=gG xs ys (i,k):=by
    have b1:=hbx i (by omega);have b2:=hbx (i+1) (by omega);have b3:=hby k (by omega);have b4:=hby (k+1) (by omega);rw[bQ (by omega) (by omega),bQ (by omega) (by omega)];rfl
   simp only[Int.toNat_natCast,e1,e2,er,a3];refine⟨⟨⟨by omega,by omega⟩,by omega,by omega⟩,?_⟩;cases hL:L (i,k) with
   |none=>
    rw[hL] at a3;rw[aW ((aLx none).2 rfl),cond_true];refine⟨⟨by omega,by omega⟩,⟨by omega,by omega⟩,?_⟩;show aAk F (fun qbm qbn qbo qbp qbq qbr qad qav qaw qax qay qaz qba qbb=>aFp (uU F x0 n) x0 qbm qbn qbo qbp qbq qbr qad qav qaw qax qay qaz qba qbb) F k i h k w i (out.length:Nat) xs ys lf bl (part.set i ((part.getD i default).set k (out.length:Nat))) [Par.mk i k] out;have hf:∀d,L d≠some out.length:=fun d q=>by
     have:=hinv.bound d _ q;omega
    have hcm:(i,k)∈cellsOf w h:=pW.2 ⟨hi,hk⟩;have hfl:=aVW (cellsOf w h) (upd L (i,k) out.length);rw[aGS] at hfl;refine lp8 F _ _ _ _ _ _ _ xs ys lf bl f g w h out.length hw hh nP qD hT hU out L (i,k) hL hf (fun part' A'=>?_) F (upd L (i,k) out.length) [(i,k)] _ _ (A.set hi hk) rfl (iL.init hL hcm hf) (by simp;omega) (by simp;omega);obtain⟨B1,B2,B3⟩:=id A';have b2:=B2 i hi;have b3:=B3 i k hi hk;have hcc:iU (nbs w h f g) L (i,k) out.length (i,k)=some out.length:=by
     unfold iU;rw[if_pos .base]
    rw[hcc] at b3;show aFp _ _ _ _ _ _ _ _ _ _ _ _ _ _ _ _;unfold aFp;have b4:(part'.getD i default).getD k default=((out.length:Nat):Int):=b3;have wR:(out++[[]]).getD out.length default=([]:List aA):=by simp
    have hlen2:(out++[([]:List aA)]).length=out.length+1:=by simp
    simp only[Int.toNat_natCast,e1,e2,er,b4,hlen2,wR,List.length_set,List.length_nil,List.length_singleton,List.nil_append];refine⟨by omega,⟨⟨by omega,by omega⟩,by omega,by omega⟩,⟨by omega,by omega⟩,⟨by omega,by omega⟩,⟨by omega,by omega⟩,⟨by omega,by omega⟩,⟨by omega,by omega⟩,⟨by omega,by omega⟩,⟨by omega,by omega⟩,by omega,⟨by omega,by omega⟩,⟨by trivial,by trivial⟩,?_⟩;refine ih (i+1) _ _ (iU (nbs w h f g) L (i,k) out.length) (by omega) (by omega) ?_ A';rw[hnext];unfold lB;simp only[hL,if_true,hcc,Option.getD_some,wR,List.nil_append]
   |some j=>
    rw[hL] at a3;have hjb:=hinv.bound _ _ hL;have lF:cdP (some j)=((j:Nat):Int):=rfl;have hm:=hml j;simp only[lF,Int.toNat_natCast,List.length_set,List.length_singleton];rw[bD (show ¬((j:Nat):Int)<0 by omega),cond_false];refine⟨⟨⟨by omega,by omega⟩,by omega,by omega⟩,⟨by omega,by omega⟩,⟨by omega,by omega⟩,⟨by omega,by omega⟩,⟨by omega,by omega⟩,⟨by omega,by omega⟩,⟨by omega,by omega⟩,⟨by omega,by omega⟩,by omega,⟨by omega,by omega⟩,⟨by trivial,by trivial⟩,?_⟩;refine ih (i+1) _ _ L (by omega) (by omega) ?_ A;rw[hnext];unfold lB;simp only[hL,Option.getD_some,reduceCtorEq,if_false]
  ·have e:i=w:=by omega
   subst e;rw[bD (by omega),cond_false];exact hx part out L hrun A
theorem lp5 (F:Nat) (x0:X5) (xs ys:LI) (lf bl:LB) (f g:Nat->Nat->Bool) (w h:Nat) (hw:xs.length=w+1) (hh:ys.length=h+1) (nP:w<=1000) (qD:h<=1000) (hF:2000000<F+1) (hwh:h*w<=10000)
  (hbx:∀j,j<xs.length->0<=xs.getD j default/\xs.getD j default<=1048576) (hby:∀j,j<ys.length->0<=ys.getD j default/\ys.getD j default<=1048576)
  (hT:Tab xs.length ys.length lf f) (hU:Tab xs.length ys.length bl g)
  (hx:∀part,x0 h h xs ys lf bl part (vK (nbs w h f g) (gG xs ys) (cellsOf w h))):
  ∀(n k:Nat) (part:zzZ) (out:List (List aA)) (L:Pl->Option Nat),k<=h->h<n+k->jV (nbs w h f g) (gG xs ys) (fL w k 0) (fun _=>none,[])=(L,out)->Arr cdP w h part L->
   sB F x0 n h k xs ys lf bl part out:=by
 intro n
 induction n with
 |zero=>intro k part out L h1 h2;omega
 |succ n ih=>
  intro k part out L h1 h2 hrun A;show aFk _ _ _ _ _ _ _ _ _ _ _;unfold aFk
  by_cases hk:k<h
  ·rw[aW (show (k:Int)<(h:Int) by omega),cond_true];have e1:aC ((xs.length:Int)-1)=(w:Nat):=by
    rw[bQ (by omega) (by omega)];omega
   rw[e1];show uU F (fun t4 t12 t13 t21 t22 qbc qbd qbe qbf qbg qbh=>aUU (sB F x0 n) x0 t4 t12 t13 t21 t22 qbc qbd qbe qbf qbg qbh) F k h k w (0:Nat) xs ys lf bl part out;refine lp7 F _ xs ys lf bl f g w h hw hh nP qD hF hwh hbx hby hT hU k hk (fun part' out' L' hrun' A'=>?_) F 0 part out L (by omega) (by omega) hrun A;show sB F x0 n h (aC ((k:Int)+1)) xs ys lf bl part' out';rw[bX hk (by omega)];rw[aN7] at hrun';exact ih (k+1) part' out' L' (by omega) (by omega) hrun' A'
  ·have e:k=h:=by omega
   subst e;rw[bD (by omega),cond_false];have e2:fL w k 0=cellsOf w k:=by
    unfold fL;simp
   rw[e2] at hrun;have:=hx part;unfold vK at this;rw[hrun] at this;exact this
theorem bLA (w h:Nat) (m n:Nat) (hw:w<=m) (hh:h<=n):Arr cdP w h (List.replicate m (List.replicate n (-1))) (fun _=>none):=by
 have e:∀i,i<m->(List.replicate m (List.replicate n (-1:Int))).getD i default=List.replicate n (-1):=fun i hi=>by
  rw[List.getD_eq_getElem?_getD,List.getElem?_replicate,if_pos hi];rfl
 refine⟨by simpa using hw,fun i hi=>by rw[e i (by omega)];simpa using hh,fun i k hi hk=>?_⟩;rw[e i (by omega),List.getD_eq_getElem?_getD,List.getElem?_replicate,if_pos (by omega)];rfl
theorem aF1 {l:LI} {j:Nat} (h:j<l.length):l.getD j default∈l:=by
 rw[List.getD_eq_getElem?_getD,List.getElem?_eq_getElem h,Option.getD_some];exact List.getElem_mem _
theorem bCj (qa qb:ByteArray) (qc qd qf qg:Int) (qh qi:List aA) (a1:List Seg) (h:aJB qa qb qc qd qf qg qh qi a1):∃F,∀Q:List (List aA)->Int->Prop,Q ((fF qa qb qc qd qf qg qh qi a1).1) ((fF qa qb qc qd qf qg qh qi a1).2)->aII F qa qb qc qd qf qg qh qi a1 Q:=by
 refine⟨2000001,fun Q hQ=>?_⟩;generalize hFq:2000001=F;have hF:2000000<F:=by omega
 clear hFq;unfold aII aLI;unfold fF at hQ;dsimp only;cases h1:(gX qa qb qc qd qf qg qh qi !=0) with
 |true=>
  rw[h1] at hQ;exact hQ
 |false=>
 rw[h1] at hQ;simp only[cond_false] at hQ ⊢
 by_cases h2:200<(a1.length:Int)
 ·rw[aW h2] at hQ ⊢;exact hQ
 rw[bD h2] at hQ ⊢;simp only[cond_false] at hQ ⊢;obtain⟨w1,w2,w3,w4⟩:=aI5 h1;refine qK a1 (mO qa qb qc qd qf qg qh qi) (by omega) (fun n i=>aAm F _ _ n a1 0 a1 a1.length i qa qb qc qd qf qg qh qi) _ _ (fun n i=>rfl) F (by omega) (fun q j=>?_) (fun q=>?_)
 ·rw[q] at hQ;exact hQ
 rw[q] at hQ;simp only[Bool.not_true,cond_false] at hQ;have hok:∀s∈a1,mJ qf qg s:=fun s hs=>aKM.1 (List.all_eq_true.1 q s hs)
 show c8 F (fun t1 t23 t24 t25 qaq qar=>aCU Q t1 t23 t24 t25 qaq qar (aEn F Q)) F a1 a1 a1.length (0:Nat) [0,qf] [0,qg];refine lp1 F _ a1 (by omega) F 0 _ _ (by omega) (by omega) rfl rfl ?_;rw[List.drop_zero];show aCU _ _ _ _ _ _ _ _;unfold aCU;have lx:([0,qf]++a1.flatMap fun s=>[s.X1,s.X2]).length=2+2*a1.length:=by rw[List.length_append,aCY];rfl
 have ly:([0,qg]++a1.flatMap fun s=>[s.Y1,s.Y2]).length=2+2*a1.length:=by rw[List.length_append,aCY];rfl
 refine⟨by omega,by omega,?_⟩;have gx:=aTZ qf a1;have gy:=aTY qg a1;have px:=aKv qf a1;have py:=aKu qg a1;have ax:=aCQ qf a1;have ay:=aCP qg a1;have mx:=fun x=>wU (w:=qf) (ls:=a1) (x:=x)
 have my:=fun x=>wT (h:=qg) (ls:=a1) (x:=x)
 unfold oH nbG at hQ;change cond (decide (6000<aC ((aC (((gxs qf a1).length:Int)-1))*(aC (((gys qg a1).length:Int)-1))))) (Q [] 4) (aEn F Q a1 ((gxs qf a1).length:Int) 0 (gxs qf a1) (gys qg a1) [] [] []);generalize gxs qf a1=xs at*;generalize gys qg a1=ys at*;have hxw:∃w:Nat,xs.length=w+1:=⟨xs.length-1,by omega⟩;have hyh:∃w:Nat,ys.length=w+1:=⟨ys.length-1,by omega⟩;obtain⟨w,hw⟩:=hxw;obtain⟨hh,hhh⟩:=hyh;have ew:((xs.length:Int)-1)=(w:Nat):=by omega
 have eh:((ys.length:Int)-1)=(hh:Nat):=by omega
 have ew':xs.length-1=w:=by omega
 have eh':ys.length-1=hh:=by omega
 have hmul:w*hh<=1000*1000:=Nat.mul_le_mul (by omega) (by omega);have emul:(w:Int)*(hh:Int)=((w*hh:Nat):Int):=by push_cast;rfl
 rw[ew,eh,emul,ew',eh'] at hQ;rw[ew,eh,bQ (n:=(w:Int)) (by omega) (by omega),bQ (n:=(hh:Int)) (by omega) (by omega),emul,bQ (by omega) (by omega)]
 by_cases h3:6000<((w*hh:Nat):Int)
 ·rw[aW h3] at hQ ⊢;exact hQ
 rw[bD h3] at hQ ⊢;simp only[cond_false] at hQ ⊢;have hls:∀s∈a1,mJ qf qg s/\s.X1∈xs/\s.X2∈xs/\s.Y1∈ys/\s.Y2∈ys:=fun s hs=>
  ⟨hok s hs,(mx _).2 (.inr (.inr ⟨s,hs,.inl rfl⟩)),(mx _).2 (.inr (.inr ⟨s,hs,.inr rfl⟩)),(my _).2 (.inr (.inr ⟨s,hs,.inl rfl⟩)),(my _).2 (.inr (.inr ⟨s,hs,.inr rfl⟩))⟩
 have hbx:∀j,j<xs.length->0<=xs.getD j default/\xs.getD j default<=1048576:=fun j hj=>by
  rcases(mx _).1 (aF1 hj) with e|e|⟨s,hs,e⟩
  ·omega
  ·omega
  ·have:=(hok s hs).1;omega
 have hby:∀j,j<ys.length->0<=ys.getD j default/\ys.getD j default<=1048576:=fun j hj=>by
  rcases(my _).1 (aF1 hj) with e|e|⟨s,hs,e⟩
  ·omega
  ·omega
  ·have:=(hok s hs).1;omega
 show c7 F (fun t1 t68 t69 qaq qar qas qat qau=>aLL Q t1 t68 t69 qaq qar qas qat qau (aJk F Q)) F a1 xs.length (0:Nat) xs ys (List.replicate 0 (List.replicate ys.length false)) (List.replicate 0 (List.replicate ys.length false)) (List.replicate 0 (List.replicate ys.length (-1)));refine lp2 F _ a1 xs ys (by omega) (by omega) ?_ F 0 (by omega) (by omega);show mY F (fun t118 t119 t120 qaq qar qas qat qau=>aLK Q t118 t119 t120 qaq qar qas qat qau (aJj F Q)) F a1 a1.length (0:Nat) xs ys _ _ _;refine lp3 F _ a1 (by omega) qf qg xs ys (by omega) (by omega) ax ay (by omega) _ hls (fun lf bl hT hU=>?_) F 0 _ _ (by omega) (by omega) (Tab.rep _ _) (Tab.rep _ _);show sB F (fun t12 t13 qbc qbd qbe qbf qbg qbh=>aUW Q t12 t13 qbc qbd qbe qbf qbg qbh) F (aC ((ys.length:Int)-1)) (0:Nat) xs ys lf bl _ [];rw[eh,bQ (by omega) (by omega)];refine lp5 F _ xs ys lf bl _ _ w hh hw hhh (by omega) (by omega) (by omega) (by rw[Nat.mul_comm];omega) hbx hby hT hU (fun part=>?_) F 0 _ [] (fun _=>none) (by omega) (by omega) ?_ (bLA w hh _ _ (by omega) (by omega))
 ·exact hQ
 ·unfold fL cellsOf;rfl
def dP:Nat->Nat->Nat->Canon UU:=fun o b r=>cond (Nat.beq o 0&&Nat.beq b 0) ⟨[1,2,4,5,7,8,9],[2],[(.tmp 7,208,.int),(.tmp 8,209,.int)],[],[]⟩ (cond (Nat.beq o 112000&&Nat.beq b 0) ⟨[0,1,5,6,1000001,1000007,1000008],[208,209,112010],[(.cell 112010 2,112055,.bools),(.cell 112010 3,112056,.bools),(.cell 112010 4,112057,.ints)],[],[112055,112056,112057]⟩ (cond (Nat.beq o 0&&Nat.beq b 2) ⟨[1,7,8,11,12],[208,209,112010],[(.cell 112010 2,210,.bools),(.cell 112010 3,211,.bools),(.cell 112010 4,212,.ints)],[],[210,211,212]⟩ (cond (Nat.beq o 124000&&Nat.beq b 0) ⟨[0,3,4,5,1000001,1000007,1000008,1000011,1000012],[208,209,112010,124003],[(.cell 112010 2,124099,.bools),(.cell 112010 3,124100,.bools),(.cell 112010 4,124101,.ints)],[],[124099,124100,124101]⟩ (cond (Nat.beq o 124000&&Nat.beq b 2) ⟨[0,3,6,7,1000001,1000007,1000008,1000011,1000012],[208,209,112010,124003],[(.cell 112010 2,124099,.bools),(.cell 112010 3,124100,.bools),(.cell 112010 4,124101,.ints)],[],[124099,124100,124101]⟩ (cond (Nat.beq o 0&&Nat.beq b 4) ⟨[7,8,11,13,14],[208,209,112010],[(.cell 112010 2,210,.bools),(.cell 112010 3,211,.bools),(.cell 112010 4,212,.ints),(.tmp 13,213,.rects)],[],[210,211,212,213]⟩ (cond (Nat.beq o 0&&Nat.beq b 6) ⟨[7,8,11,13,14,15],[208,209,112010],[(.cell 112010 2,210,.bools),(.cell 112010 3,211,.bools),(.cell 112010 4,212,.ints),(.tmp 13,213,.rects)],[],[210,211,212,213]⟩ (cond (Nat.beq o 158000&&Nat.beq b 0) ⟨[0,3,8,9,10,11,1000007,1000008,1000011,1000013,1000014,1000015],[208,209,112010],[(.tmp 10,158215,.cell),(.tmp 1000013,158216,.rects),(.cell 112010 2,158217,.bools),(.cell 112010 3,158218,.bools),(.cell 112010 4,158219,.ints)],[],[158216,158217,158218,158219]⟩ (cond (Nat.beq o 158000&&Nat.beq b 2) ⟨[0,3,8,9,10,11,13,14,1000007,1000008,1000011,1000013,1000014,1000015],[208,209,112010],[(.tmp 10,158215,.cell),(.tmp 13,158216,.cell),(.tmp 1000013,158217,.rects),(.cell 112010 2,158218,.bools),(.cell 112010 3,158219,.bools),(.cell 112010 4,158220,.ints)],[],[158217,158218,158219,158220]⟩ (⟨[],[],[],[],[]⟩)))))))))
def aKx (qa qb:ByteArray) (qc qd qf qg:Int) (qh qi:List aA) (a1:List Seg) (Q:List (List aA)->Int->Prop) (i0:List Seg->Int->Int->ByteArray->ByteArray->Int->Int->Int->Int->List aA->List aA->zzI->zzI->Prop):Prop:=(let r0:=(iB qa qb qc qd qf qg qh qi);((pS qa qb qc qd qf qg qh qi)/\cond (r0 !=0) (Q ([]) r0) (cond (decide (200<(a1.length:Int))) (Q ([]) 4) (i0 a1 0 0 qa qb qc qd qf qg qh qi ([0,qf]) ([0,qg])))))
def aFb (rec:List Seg->Int->Int->ByteArray->ByteArray->Int->Int->Int->Int->List aA->List aA->zzI->zzI->Prop) (x0:List Seg->Int->Int->ByteArray->ByteArray->Int->Int->Int->Int->List aA->List aA->zzI->zzI->Prop) (x1:List Seg->Int->Int->ByteArray->ByteArray->Int->Int->Int->Int->List aA->List aA->zzI->zzI->Prop) (t1:List Seg) (t5 t9:Int) (aS aR:ByteArray) (aU aT bB bA:Int) (aZ bE:List aA) (aJ aI:zzI):Prop:=cond (decide (t9<(t1.length:Int))) ((let e0:=(t1.getD t9.toNat default);((0<=t9/\t9<t1.length)/\(let r1:=(pH aS aR aU aT bB bA aZ bE e0.X1 e0.Y1);(let r2:=(pH aS aR aU aT bB bA aZ bE e0.X2 e0.Y2);cond (((!r1)||(!r2))||((!((e0.Y1==e0.Y2)&&(decide (e0.X1<e0.X2))))&&(!((e0.X1==e0.X2)&&(decide (e0.Y1<e0.Y2)))))) (x0 t1 1 t9 aS aR aU aT bB bA aZ bE aJ aI) (((s8 aJ e0.X1)/\(let r3:=(gS (gS aJ e0.X1) e0.X2);((s8 (gS aJ e0.X1) e0.X2)/\((s8 aI e0.Y1)/\(let r4:=(gS (gS aI e0.Y1) e0.Y2);((s8 (gS aI e0.Y1) e0.Y2)/\rec t1 t5 (aC (t9+1)) aS aR aU aT bB bA aZ bE r3 r4)))))))))))) (x1 t1 t5 t9 aS aR aU aT bB bA aZ bE aJ aI)
def aLA (Q:List (List aA)->Int->Prop) (t1:List Seg) (t5 t9:Int) (aS aR:ByteArray) (aU aT bB bA:Int) (aZ bE:List aA) (aJ aI:zzI):Prop:=Q ([]) t5
def aCT (Q:List (List aA)->Int->Prop) (t1:List Seg) (t5 t9:Int) (aS aR:ByteArray) (aU aT bB bA:Int) (aZ bE:List aA) (aJ aI:zzI) (i1:Int->List Seg->zzI->zzI->zzB->zzB->zzZ->Prop):Prop:=(let v0:=aC ((aC ((aJ.length:Int)-1))*(aC ((aI.length:Int)-1)));cond (decide (6000<v0)) (Q ([]) 4) (i1 0 t1 aJ aI ([]) ([]) ([])))
def aFa (rec:Int->List Seg->zzI->zzI->zzB->zzB->zzZ->Prop) (x0:Int->List Seg->zzI->zzI->zzB->zzB->zzZ->Prop) (t6:Int) (qbi:List Seg) (aJ aI:zzI) (qae qaf:zzB) (qag:zzZ):Prop:=cond (decide ((aC (t6+1))<(aJ.length:Int))) (((0<=(aI.length:Int)/\(aI.length:Int)=(aI.length:Int)/\(aI.length:Int)*1<=140737488355328)/\(((qae.length+1)*24<=140737488355328)/\((0<=(aI.length:Int)/\(aI.length:Int)=(aI.length:Int)/\(aI.length:Int)*1<=140737488355328)/\(((qaf.length+1)*24<=140737488355328)/\((0<=(aI.length:Int)/\(aI.length:Int)=(aI.length:Int)/\(aI.length:Int)*8<=140737488355328)/\(((qag.length+1)*24<=140737488355328)/\rec (aC (t6+1)) qbi aJ aI (qae++[(List.replicate ((aI.length:Int).toNat) (false:Bool))]) (qaf++[(List.replicate ((aI.length:Int).toNat) (false:Bool))]) (qag++[(List.replicate ((aI.length:Int).toNat) (0:Int))])))))))) (x0 t6 qbi aJ aI qae qaf qag)
def aKz (Q:List (List aA)->Int->Prop) (t6:Int) (qbi:List Seg) (aJ aI:zzI) (qae qaf:zzB) (qag:zzZ) (i2:List Seg->Int->zzI->zzI->zzB->zzB->zzZ->Prop):Prop:=i2 qbi 0 aJ aI qae qaf qag
def aF9 (rec:List Seg->Int->zzI->zzI->zzB->zzB->zzZ->Prop) (x0:List Seg->Int->zzI->zzI->zzB->zzB->zzZ->Prop) (t1:List Seg) (t12:Int) (aJ aI:zzI) (dB dA:zzB) (cK:zzZ) (i3:Int->Int->List Seg->Int->zzI->zzI->Int->Int->Int->Int->zzB->zzB->zzZ->Prop) (i4:Int->Int->List Seg->Int->zzI->zzI->Int->Int->Int->Int->zzB->zzB->zzZ->Prop):Prop:=cond (decide (t12<(t1.length:Int))) ((let e0:=(t1.getD t12.toNat default);((0<=t12/\t12<t1.length)/\cond (e0.Y1==e0.Y2) (((sW aI e0.Y1)/\((sW aJ e0.X1)/\i3 (mF aI e0.Y1) (mF aJ e0.X1) t1 t12 aJ aI e0.X1 e0.Y1 e0.X2 e0.Y2 dB dA cK))) (((sW aJ e0.X1)/\((sW aI e0.Y1)/\i4 (mF aJ e0.X1) (mF aI e0.Y1) t1 t12 aJ aI e0.X1 e0.Y1 e0.X2 e0.Y2 dB dA cK)))))) (x0 t1 t12 aJ aI dB dA cK)
def aKy (Q:List (List aA)->Int->Prop) (t1:List Seg) (t12:Int) (aJ aI:zzI) (dB dA:zzB) (cK:zzZ) (i5:Int->zzI->zzI->zzB->zzB->zzZ->List (List aA)->Prop):Prop:=i5 0 aJ aI dB dA cK ([])
def aF8 (rec:Int->Int->List Seg->Int->zzI->zzI->Int->Int->Int->Int->zzB->zzB->zzZ->Prop) (x0:Int->Int->List Seg->Int->zzI->zzI->Int->Int->Int->Int->zzB->zzB->zzZ->Prop) (t4 t5:Int) (qbi:List Seg) (qbj:Int) (aJ aI:zzI) (qv qw qx qy:Int) (qah qai:zzB) (qaj:zzZ):Prop:=((sW aJ qx)/\cond (decide (t5<(mF aJ qx))) (cond (decide (0<t4)) ((((0<=t5/\t5<qai.length)/\(0<=(aC (t4-1))/\(aC (t4-1))<(qai.getD t5.toNat default).length))/\rec t4 (aC (t5+1)) qbi qbj aJ aI qv qw qx qy qah (qai.set t5.toNat ((qai.getD t5.toNat default).set ((aC (t4-1)).toNat) true)) qaj)) (x0 t4 t5 qbi qbj aJ aI qv qw qx qy qah qai qaj)) (x0 t4 t5 qbi qbj aJ aI qv qw qx qy qah qai qaj))
def aTs (rec:List Seg->Int->zzI->zzI->zzB->zzB->zzZ->Prop) (x0:List Seg->Int->zzI->zzI->zzB->zzB->zzZ->Prop) (t4 t5:Int) (qbi:List Seg) (qbj:Int) (aJ aI:zzI) (qv qw qx qy:Int) (qah qai:zzB) (qaj:zzZ):Prop:=rec qbi (aC (qbj+1)) aJ aI qah qai qaj
def aF7 (rec:Int->Int->List Seg->Int->zzI->zzI->Int->Int->Int->Int->zzB->zzB->zzZ->Prop) (x0:Int->Int->List Seg->Int->zzI->zzI->Int->Int->Int->Int->zzB->zzB->zzZ->Prop) (t6 t7:Int) (qbi:List Seg) (qbj:Int) (aJ aI:zzI) (qv qw qx qy:Int) (qah qai:zzB) (qaj:zzZ):Prop:=((sW aI qy)/\cond (decide (t7<(mF aI qy))) (cond (decide (0<t6)) (cond (decide ((aC (t6-1))<(qah.length:Int))) ((((0<=(aC (t6-1))/\(aC (t6-1))<qah.length)/\(0<=t7/\t7<(qah.getD ((aC (t6-1)).toNat) default).length))/\rec t6 (aC (t7+1)) qbi qbj aJ aI qv qw qx qy (qah.set ((aC (t6-1)).toNat) ((qah.getD ((aC (t6-1)).toNat) default).set t7.toNat true)) qai qaj)) (rec t6 (aC (t7+1)) qbi qbj aJ aI qv qw qx qy qah qai qaj)) (x0 t6 t7 qbi qbj aJ aI qv qw qx qy qah qai qaj)) (x0 t6 t7 qbi qbj aJ aI qv qw qx qy qah qai qaj))
def aTr (rec:List Seg->Int->zzI->zzI->zzB->zzB->zzZ->Prop) (x0:List Seg->Int->zzI->zzI->zzB->zzB->zzZ->Prop) (t6 t7:Int) (qbi:List Seg) (qbj:Int) (aJ aI:zzI) (qv qw qx qy:Int) (qah qai:zzB) (qaj:zzZ):Prop:=rec qbi (aC (qbj+1)) aJ aI qah qai qaj
def aF6 (rec:Int->zzI->zzI->zzB->zzB->zzZ->List (List aA)->Prop) (x0:Int->zzI->zzI->zzB->zzB->zzZ->List (List aA)->Prop) (t14:Int) (aJ aI:zzI) (dB dA:zzB) (cK:zzZ) (dV:List (List aA)) (i6:Int->Int->zzI->zzI->zzB->zzB->zzZ->List (List aA)->Prop):Prop:=cond (decide ((aC (t14+1))<(aI.length:Int))) (i6 t14 0 aJ aI dB dA cK dV) (x0 t14 aJ aI dB dA cK dV)
def aTq (Q:List (List aA)->Int->Prop) (t14:Int) (aJ aI:zzI) (dB dA:zzB) (cK:zzZ) (dV:List (List aA)):Prop:=Q dV 0
def aF5 (rec:Int->Int->zzI->zzI->zzB->zzB->zzZ->List (List aA)->Prop) (x0:Int->Int->zzI->zzI->zzB->zzB->zzZ->List (List aA)->Prop) (t14 t15:Int) (aJ aI:zzI) (dB dA:zzB) (cK:zzZ) (dV:List (List aA)) (i7:Int->Int->Int->Int->Int->Int->zzI->zzI->List Cel->List (List aA)->zzB->zzB->zzZ->Prop):Prop:=cond (decide ((aC (t15+1))<(aJ.length:Int))) ((let v0:=((cK.getD t15.toNat default).getD t14.toNat default);(((0<=t15/\t15<cK.length)/\(0<=t14/\t14<(cK.getD t15.toNat default).length))/\cond (v0==0) ((((dV.length+([[]]:List (List aA)).length)*24<=140737488355328)/\(let v1:=((dV++([[]]:List (List aA))).length:Int);(((0<=t15/\t15<cK.length)/\(0<=t14/\t14<(cK.getD t15.toNat default).length))/\i7 v1 (aC ((aJ.length:Int)-1)) (aC ((aI.length:Int)-1)) 0 t14 t15 aJ aI ([(Cel.mk t15 t14)]) (dV++([[]]:List (List aA))) dB dA (cK.set t15.toNat ((cK.getD t15.toNat default).set t14.toNat v1)))))) ((let v2:=((cK.getD t15.toNat default).getD t14.toNat default);(((0<=t15/\t15<cK.length)/\(0<=t14/\t14<(cK.getD t15.toNat default).length))/\((0<=(aC (v2-1))/\(aC (v2-1))<dV.length)/\((0<=t15/\t15<aJ.length)/\((0<=t14/\t14<aI.length)/\((0<=(aC (t15+1))/\(aC (t15+1))<aJ.length)/\((0<=t15/\t15<aJ.length)/\(let v3:=aC ((aJ.getD ((aC (t15+1)).toNat) default)-(aJ.getD t15.toNat default));((0<=(aC (t14+1))/\(aC (t14+1))<aI.length)/\((0<=t14/\t14<aI.length)/\(let v4:=aC ((aI.getD ((aC (t14+1)).toNat) default)-(aI.getD t14.toNat default));((((dV.getD ((aC (v2-1)).toNat) default).length+([(aA.mk (aJ.getD t15.toNat default) (aI.getD t14.toNat default) v3 v4)]).length)*32<=140737488355328)/\((0<=(aC (v2-1))/\(aC (v2-1))<(dV.set ((aC (v2-1)).toNat) ((dV.getD ((aC (v2-1)).toNat) default)++([(aA.mk (aJ.getD t15.toNat default) (aI.getD t14.toNat default) v3 v4)]))).length)/\((((aC (v2-1)).toNat)=((aC (v2-1)).toNat)/\((aC (v2-1)).toNat)=((aC (v2-1)).toNat))/\rec t14 (aC (t15+1)) aJ aI dB dA cK (dV.set ((aC (v2-1)).toNat) ((dV.getD ((aC (v2-1)).toNat) default)++([(aA.mk (aJ.getD t15.toNat default) (aI.getD t14.toNat default) v3 v4)]))))))))))))))))))))) (x0 t14 t15 aJ aI dB dA cK dV)
def aTp (rec:Int->zzI->zzI->zzB->zzB->zzZ->List (List aA)->Prop) (x0:Int->zzI->zzI->zzB->zzB->zzZ->List (List aA)->Prop) (t14 t15:Int) (aJ aI:zzI) (dB dA:zzB) (cK:zzZ) (dV:List (List aA)):Prop:=rec (aC (t14+1)) aJ aI dB dA cK dV
def aF4 (rec:Int->Int->Int->Int->Int->Int->zzI->zzI->List Cel->List (List aA)->zzB->zzB->zzZ->Prop) (x0:Int->Int->Int->Int->Int->Int->zzI->zzI->List Cel->List (List aA)->zzB->zzB->zzZ->Prop) (t3 t8 t9 t11 qbk qbl:Int) (aJ aI:zzI) (qak:List Cel) (qal:List (List aA)) (qam qan:zzB) (qao:zzZ) (i8:Int->Int->Int->Int->Int->Int->Int->zzI->zzI->List Cel->List Cel->List (List aA)->zzB->zzB->zzZ->Prop):Prop:=cond (decide (t11<(qak.length:Int))) ((0<=t11/\t11<qak.length)/\nxG (decide (aC ((qak.getD t11.toNat default).i+1)<t8)) (0<=(qak.getD t11.toNat default).i/\(qak.getD t11.toNat default).i<qam.length) (0<=(qak.getD t11.toNat default).j/\(qak.getD t11.toNat default).j<(qam.getD (qak.getD t11.toNat default).i.toNat default).length) ((qam.getD (qak.getD t11.toNat default).i.toNat default).getD (qak.getD t11.toNat default).j.toNat default) (Cel.mk (aC ((qak.getD t11.toNat default).i+1)) (qak.getD t11.toNat default).j) [] fun nx=>nxG (decide (0<(qak.getD t11.toNat default).i)) (0<=aC ((qak.getD t11.toNat default).i-1)/\aC ((qak.getD t11.toNat default).i-1)<qam.length) (0<=(qak.getD t11.toNat default).j/\(qak.getD t11.toNat default).j<(qam.getD (aC ((qak.getD t11.toNat default).i-1)).toNat default).length) ((qam.getD (aC ((qak.getD t11.toNat default).i-1)).toNat default).getD (qak.getD t11.toNat default).j.toNat default) (Cel.mk (aC ((qak.getD t11.toNat default).i-1)) (qak.getD t11.toNat default).j) nx fun nx=>nxG (decide (aC ((qak.getD t11.toNat default).j+1)<t9)) (0<=(qak.getD t11.toNat default).i/\(qak.getD t11.toNat default).i<qan.length) (0<=(qak.getD t11.toNat default).j/\(qak.getD t11.toNat default).j<(qan.getD (qak.getD t11.toNat default).i.toNat default).length) ((qan.getD (qak.getD t11.toNat default).i.toNat default).getD (qak.getD t11.toNat default).j.toNat default) (Cel.mk (qak.getD t11.toNat default).i (aC ((qak.getD t11.toNat default).j+1))) nx fun nx=>nxG (decide (0<(qak.getD t11.toNat default).j)) (0<=(qak.getD t11.toNat default).i/\(qak.getD t11.toNat default).i<qan.length) (0<=aC ((qak.getD t11.toNat default).j-1)/\aC ((qak.getD t11.toNat default).j-1)<(qan.getD (qak.getD t11.toNat default).i.toNat default).length) ((qan.getD (qak.getD t11.toNat default).i.toNat default).getD (aC ((qak.getD t11.toNat default).j-1)).toNat default) (Cel.mk (qak.getD t11.toNat default).i (aC ((qak.getD t11.toNat default).j-1))) nx fun nx=>i8 t3 t8 t9 t11 0 qbk qbl aJ aI qak nx qal qam qan qao) (x0 t3 t8 t9 t11 qbk qbl aJ aI qak qal qam qan qao)
def aFc (rec:Int->Int->zzI->zzI->zzB->zzB->zzZ->List (List aA)->Prop) (x0:Int->Int->zzI->zzI->zzB->zzB->zzZ->List (List aA)->Prop) (t3 t8 t9 t11 qbk qbl:Int) (aJ aI:zzI) (qak:List Cel) (qal:List (List aA)) (qam qan:zzB) (qao:zzZ):Prop:=(let v0:=((qao.getD qbl.toNat default).getD qbk.toNat default);(((0<=qbl/\qbl<qao.length)/\(0<=qbk/\qbk<(qao.getD qbl.toNat default).length))/\((0<=(aC (v0-1))/\(aC (v0-1))<qal.length)/\((0<=qbl/\qbl<aJ.length)/\((0<=qbk/\qbk<aI.length)/\((0<=(aC (qbl+1))/\(aC (qbl+1))<aJ.length)/\(let v1:=(aJ.getD ((aC (qbl+1)).toNat) default);((0<=qbl/\qbl<aJ.length)/\(let v2:=aC (v1-(aJ.getD qbl.toNat default));((0<=(aC (qbk+1))/\(aC (qbk+1))<aI.length)/\(let v3:=(aI.getD ((aC (qbk+1)).toNat) default);((0<=qbk/\qbk<aI.length)/\(let v4:=aC (v3-(aI.getD qbk.toNat default));((((qal.getD ((aC (v0-1)).toNat) default).length+([(aA.mk (aJ.getD qbl.toNat default) (aI.getD qbk.toNat default) v2 v4)]).length)*32<=140737488355328)/\((0<=(aC (v0-1))/\(aC (v0-1))<(qal.set ((aC (v0-1)).toNat) ((qal.getD ((aC (v0-1)).toNat) default)++([(aA.mk (aJ.getD qbl.toNat default) (aI.getD qbk.toNat default) v2 v4)]))).length)/\((((aC (v0-1)).toNat)=((aC (v0-1)).toNat)/\((aC (v0-1)).toNat)=((aC (v0-1)).toNat))/\rec qbk (aC (qbl+1)) aJ aI qam qan qao (qal.set ((aC (v0-1)).toNat) ((qal.getD ((aC (v0-1)).toNat) default)++([(aA.mk (aJ.getD qbl.toNat default) (aI.getD qbk.toNat default) v2 v4)])))))))))))))))))))
def aF3 (rec:Int->Int->Int->Int->Int->Int->Int->zzI->zzI->List Cel->List Cel->List (List aA)->zzB->zzB->zzZ->Prop) (x0:Int->Int->Int->Int->Int->Int->Int->zzI->zzI->List Cel->List Cel->List (List aA)->zzB->zzB->zzZ->Prop) (t3 t8 t9 t11 t14 qbk qbl:Int) (aJ aI:zzI) (qak qal:List Cel) (qam:List (List aA)) (qan qao:zzB) (qap:zzZ):Prop:=cond (decide (t14<(qal.length:Int))) (((0<=t14/\t14<qal.length)/\((0<=((qal.getD t14.toNat default).i)/\((qal.getD t14.toNat default).i)<qap.length)/\((0<=t14/\t14<qal.length)/\((0<=((qal.getD t14.toNat default).j)/\((qal.getD t14.toNat default).j)<(qap.getD (((qal.getD t14.toNat default).i).toNat) default).length)/\(let v0:=((qap.getD (((qal.getD t14.toNat default).i).toNat) default).getD (((qal.getD t14.toNat default).j).toNat) default);cond (v0==0) (((0<=t14/\t14<qal.length)/\((0<=((qal.getD t14.toNat default).i)/\((qal.getD t14.toNat default).i)<qap.length)/\((0<=t14/\t14<qal.length)/\((0<=((qal.getD t14.toNat default).j)/\((qal.getD t14.toNat default).j)<(qap.getD (((qal.getD t14.toNat default).i).toNat) default).length)/\(((0<=t14/\t14<qal.length)/\((qak.length+([(qal.getD t14.toNat default)]).length)*16<=140737488355328))/\rec t3 t8 t9 t11 (aC (t14+1)) qbk qbl aJ aI (qak++([(qal.getD t14.toNat default)])) qal qam qan qao (qap.set (((qal.getD t14.toNat default).i).toNat) ((qap.getD (((qal.getD t14.toNat default).i).toNat) default).set (((qal.getD t14.toNat default).j).toNat) t3)))))))) (rec t3 t8 t9 t11 (aC (t14+1)) qbk qbl aJ aI qak qal qam qan qao qap))))))) (x0 t3 t8 t9 t11 t14 qbk qbl aJ aI qak qal qam qan qao qap)
def aTo (rec:Int->Int->Int->Int->Int->Int->zzI->zzI->List Cel->List (List aA)->zzB->zzB->zzZ->Prop) (x0:Int->Int->Int->Int->Int->Int->zzI->zzI->List Cel->List (List aA)->zzB->zzB->zzZ->Prop) (t3 t8 t9 t11 t14 qbk qbl:Int) (aJ aI:zzI) (qak qal:List Cel) (qam:List (List aA)) (qan qao:zzB) (qap:zzZ):Prop:=rec t3 t8 t9 (aC (t11+1)) qbk qbl aJ aI qak qam qan qao qap
def aAf (F:Nat) (x0:Int->Int->List Seg->Int->zzI->zzI->Int->Int->Int->Int->zzB->zzB->zzZ->Prop):Nat->Int->Int->List Seg->Int->zzI->zzI->Int->Int->Int->Int->zzB->zzB->zzZ->Prop
 |0,_,_,_,_,_,_,_,_,_,_,_,_,_=>False
 |n+1,t4,t5,qbi,qbj,aJ,aI,qv,qw,qx,qy,qah,qai,qaj=>aF8 (aAf F x0 n) x0 t4 t5 qbi qbj aJ aI qv qw qx qy qah qai qaj
def aNz (F:Nat) (rec:List Seg->Int->zzI->zzI->zzB->zzB->zzZ->Prop) (x0:List Seg->Int->zzI->zzI->zzB->zzB->zzZ->Prop) (t4 t5:Int) (qbi:List Seg) (qbj:Int) (aJ aI:zzI) (qv qw qx qy:Int) (qah qai:zzB) (qaj:zzZ):Prop:=aAf F (fun t4 t5 qbi qbj aJ aI qv qw qx qy qah qai qaj=>aTs rec x0 t4 t5 qbi qbj aJ aI qv qw qx qy qah qai qaj) F t4 t5 qbi qbj aJ aI qv qw qx qy qah qai qaj
def aAe (F:Nat) (x0:Int->Int->List Seg->Int->zzI->zzI->Int->Int->Int->Int->zzB->zzB->zzZ->Prop):Nat->Int->Int->List Seg->Int->zzI->zzI->Int->Int->Int->Int->zzB->zzB->zzZ->Prop
 |0,_,_,_,_,_,_,_,_,_,_,_,_,_=>False
 |n+1,t6,t7,qbi,qbj,aJ,aI,qv,qw,qx,qy,qah,qai,qaj=>aF7 (aAe F x0 n) x0 t6 t7 qbi qbj aJ aI qv qw qx qy qah qai qaj
def aNy (F:Nat) (rec:List Seg->Int->zzI->zzI->zzB->zzB->zzZ->Prop) (x0:List Seg->Int->zzI->zzI->zzB->zzB->zzZ->Prop) (t6 t7:Int) (qbi:List Seg) (qbj:Int) (aJ aI:zzI) (qv qw qx qy:Int) (qah qai:zzB) (qaj:zzZ):Prop:=aAe F (fun t6 t7 qbi qbj aJ aI qv qw qx qy qah qai qaj=>aTr rec x0 t6 t7 qbi qbj aJ aI qv qw qx qy qah qai qaj) F t6 t7 qbi qbj aJ aI qv qw qx qy qah qai qaj
def aAd (F:Nat) (x0:Int->Int->Int->Int->Int->Int->Int->zzI->zzI->List Cel->List Cel->List (List aA)->zzB->zzB->zzZ->Prop):Nat->Int->Int->Int->Int->Int->Int->Int->zzI->zzI->List Cel->List Cel->List (List aA)->zzB->zzB->zzZ->Prop
 |0,_,_,_,_,_,_,_,_,_,_,_,_,_,_,_=>False
 |n+1,t3,t8,t9,t11,t14,qbk,qbl,aJ,aI,qak,qal,qam,qan,qao,qap=>aF3 (aAd F x0 n) x0 t3 t8 t9 t11 t14 qbk qbl aJ aI qak qal qam qan qao qap
def aNv (F:Nat) (rec:Int->Int->Int->Int->Int->Int->zzI->zzI->List Cel->List (List aA)->zzB->zzB->zzZ->Prop) (x0:Int->Int->Int->Int->Int->Int->zzI->zzI->List Cel->List (List aA)->zzB->zzB->zzZ->Prop) (t3 t8 t9 t11 t14 qbk qbl:Int) (aJ aI:zzI) (qak qal:List Cel) (qam:List (List aA)) (qan qao:zzB) (qap:zzZ):Prop:=aAd F (fun t3 t8 t9 t11 t14 qbk qbl aJ aI qak qal qam qan qao qap=>aTo rec x0 t3 t8 t9 t11 t14 qbk qbl aJ aI qak qal qam qan qao qap) F t3 t8 t9 t11 t14 qbk qbl aJ aI qak qal qam qan qao qap
def rY (F:Nat) (x0:Int->Int->Int->Int->Int->Int->zzI->zzI->List Cel->List (List aA)->zzB->zzB->zzZ->Prop):Nat->Int->Int->Int->Int->Int->Int->zzI->zzI->List Cel->List (List aA)->zzB->zzB->zzZ->Prop
 |0,_,_,_,_,_,_,_,_,_,_,_,_,_=>False
 |n+1,t3,t8,t9,t11,qbk,qbl,aJ,aI,qak,qal,qam,qan,qao=>aF4 (rY F x0 n) x0 t3 t8 t9 t11 qbk qbl aJ aI qak qal qam qan qao (aNv F (rY F x0 n) x0)
def aNw (F:Nat) (rec:Int->Int->zzI->zzI->zzB->zzB->zzZ->List (List aA)->Prop) (x0:Int->Int->zzI->zzI->zzB->zzB->zzZ->List (List aA)->Prop) (t3 t8 t9 t11 qbk qbl:Int) (aJ aI:zzI) (qak:List Cel) (qal:List (List aA)) (qam qan:zzB) (qao:zzZ):Prop:=rY F (fun t3 t8 t9 t11 qbk qbl aJ aI qak qal qam qan qao=>aFc rec x0 t3 t8 t9 t11 qbk qbl aJ aI qak qal qam qan qao) F t3 t8 t9 t11 qbk qbl aJ aI qak qal qam qan qao
def uP (F:Nat) (x0:Int->Int->zzI->zzI->zzB->zzB->zzZ->List (List aA)->Prop):Nat->Int->Int->zzI->zzI->zzB->zzB->zzZ->List (List aA)->Prop
 |0,_,_,_,_,_,_,_,_=>False
 |n+1,t14,t15,aJ,aI,dB,dA,cK,dV=>aF5 (uP F x0 n) x0 t14 t15 aJ aI dB dA cK dV (aNw F (uP F x0 n) x0)
def aNx (F:Nat) (rec:Int->zzI->zzI->zzB->zzB->zzZ->List (List aA)->Prop) (x0:Int->zzI->zzI->zzB->zzB->zzZ->List (List aA)->Prop) (t14 t15:Int) (aJ aI:zzI) (dB dA:zzB) (cK:zzZ) (dV:List (List aA)):Prop:=uP F (fun t14 t15 aJ aI dB dA cK dV=>aTp rec x0 t14 t15 aJ aI dB dA cK dV) F t14 t15 aJ aI dB dA cK dV
def rZ (F:Nat) (x0:Int->zzI->zzI->zzB->zzB->zzZ->List (List aA)->Prop):Nat->Int->zzI->zzI->zzB->zzB->zzZ->List (List aA)->Prop
 |0,_,_,_,_,_,_,_=>False
 |n+1,t14,aJ,aI,dB,dA,cK,dV=>aF6 (rZ F x0 n) x0 t14 aJ aI dB dA cK dV (aNx F (rZ F x0 n) x0)
def aJ7 (F:Nat) (Q:List (List aA)->Int->Prop) (t14:Int) (aJ aI:zzI) (dB dA:zzB) (cK:zzZ) (dV:List (List aA)):Prop:=rZ F (fun t14 aJ aI dB dA cK dV=>aTq Q t14 aJ aI dB dA cK dV) F t14 aJ aI dB dA cK dV
def mC (F:Nat) (x0:List Seg->Int->zzI->zzI->zzB->zzB->zzZ->Prop):Nat->List Seg->Int->zzI->zzI->zzB->zzB->zzZ->Prop
 |0,_,_,_,_,_,_,_=>False
 |n+1,t1,t12,aJ,aI,dB,dA,cK=>aF9 (mC F x0 n) x0 t1 t12 aJ aI dB dA cK (aNz F (mC F x0 n) x0) (aNy F (mC F x0 n) x0)
def aJ8 (F:Nat) (Q:List (List aA)->Int->Prop) (t1:List Seg) (t12:Int) (aJ aI:zzI) (dB dA:zzB) (cK:zzZ):Prop:=mC F (fun t1 t12 aJ aI dB dA cK=>aKy Q t1 t12 aJ aI dB dA cK (aJ7 F Q)) F t1 t12 aJ aI dB dA cK
def zY (F:Nat) (x0:Int->List Seg->zzI->zzI->zzB->zzB->zzZ->Prop):Nat->Int->List Seg->zzI->zzI->zzB->zzB->zzZ->Prop
 |0,_,_,_,_,_,_,_=>False
 |n+1,t6,qbi,aJ,aI,qae,qaf,qag=>aFa (zY F x0 n) x0 t6 qbi aJ aI qae qaf qag
def aJ9 (F:Nat) (Q:List (List aA)->Int->Prop) (t6:Int) (qbi:List Seg) (aJ aI:zzI) (qae qaf:zzB) (qag:zzZ):Prop:=zY F (fun t6 qbi aJ aI qae qaf qag=>aKz Q t6 qbi aJ aI qae qaf qag (aJ8 F Q)) F t6 qbi aJ aI qae qaf qag
def zZ (F:Nat) (x0:List Seg->Int->Int->ByteArray->ByteArray->Int->Int->Int->Int->List aA->List aA->zzI->zzI->Prop) (x1:List Seg->Int->Int->ByteArray->ByteArray->Int->Int->Int->Int->List aA->List aA->zzI->zzI->Prop):Nat->List Seg->Int->Int->ByteArray->ByteArray->Int->Int->Int->Int->List aA->List aA->zzI->zzI->Prop
 |0,_,_,_,_,_,_,_,_,_,_,_,_,_=>False
 |n+1,t1,t5,t9,aS,aR,aU,aT,bB,bA,aZ,bE,aJ,aI=>aFb (zZ F x0 x1 n) x0 x1 t1 t5 t9 aS aR aU aT bB bA aZ bE aJ aI
def aOA (F:Nat) (Q:List (List aA)->Int->Prop) (t1:List Seg) (t5 t9:Int) (aS aR:ByteArray) (aU aT bB bA:Int) (aZ bE:List aA) (aJ aI:zzI):Prop:=zZ F (fun t1 t5 t9 aS aR aU aT bB bA aZ bE aJ aI=>aLA Q t1 t5 t9 aS aR aU aT bB bA aZ bE aJ aI) (fun t1 t5 t9 aS aR aU aT bB bA aZ bE aJ aI=>aCT Q t1 t5 t9 aS aR aU aT bB bA aZ bE aJ aI (aJ9 F Q)) F t1 t5 t9 aS aR aU aT bB bA aZ bE aJ aI
def aIE (F:Nat) (qa qb:ByteArray) (qc qd qf qg:Int) (qh qi:List aA) (a1:List Seg) (Q:List (List aA)->Int->Prop):Prop:=aKx qa qb qc qd qf qg qh qi a1 Q (aOA F Q)
theorem bFp (w h:Int) (hw:0<=w/\w<=1048576) (hh:0<=h/\h<=1048576):wP w h=zX w h:=by
 funext r;unfold wP zX;rw[aKn,show (2*0:Int)=0 from rfl,show aC 0=0 from rfl,Int.sub_zero,Int.sub_zero,bQ (by omega) (by omega),bQ (by omega) (by omega)]
theorem aYB:fS=aIc:=by
 funext r;exact mD _ _ _ _
theorem aEc (a lo hi:Int):(!(decide (lo<=a)&&decide (a<=hi)))=(decide (a<lo)||decide (hi<a)):=by
 rw[Bool.eq_iff_iff];simp only[Bool.not_eq_true',Bool.and_eq_false_iff,decide_eq_false_iff_not,Bool.or_eq_true,decide_eq_true_eq];omega
theorem aEL (nm mt:ByteArray) (g gr w h:Int) (cl us:List aA):gX nm mt g gr w h cl us=iB nm mt g gr w h cl us:=by
 unfold gX iB dQ fY kJ lA jU lL;rw[aYB,aEc,aEc];have e1:(!(decide (1<=g)&&decide (g<=60)&&(decide (0<=gr)&&decide (gr<=2))))=(((decide (g<1)||decide (60<g))||decide (gr<0))||decide (2<gr)):=by
  rw[Bool.not_and,aEc,aEc,Bool.or_assoc,Bool.or_assoc,Bool.or_assoc]
 rw[e1];generalize (((decide (g<1)||decide (60<g))||decide (gr<0))||decide (2<gr))=A;cases (!vn nm||!vn mt)
 ·cases A
  ·simp only[cond_false,Bool.false_or,bne_self_eq_false]
   by_cases hw:1<=w/\w<=1048576/\1<=h/\h<=1048576
   ·rw[bFp w h (by omega) (by omega),bD (show ¬w<1 by omega),bD (show ¬1048576<w by omega),bD (show ¬h<1 by omega),bD (show ¬1048576<h by omega)];simp only[Bool.false_or,cond_false];cases cl.all (zX w h)<;>cases us.all (zX w h)<;>rfl
   ·have e2:((decide (w<1)||decide (1048576<w))||(decide (h<1)||decide (1048576<h)))=true:=by
     simp only[Bool.or_eq_true,decide_eq_true_eq];omega
    have e3:(((decide (w<1)||decide (1048576<w))||decide (h<1))||decide (1048576<h))=true:=by
     rw[Bool.or_assoc];exact e2
    rw[e2,e3];rfl
  ·rfl
 ·cases A<;>rfl
set_option maxRecDepth 20000
def aIv (nm mt:ByteArray) (g gr w h:Int) (cl us:List aA) (ls:List Seg):Prop:=pS nm mt g gr w h cl us
def sK (nm mt:ByteArray) (g gr w h:Int) (cl us:List aA) (ls:List Seg):List (List aA)×Int:=
 cond (iB nm mt g gr w h cl us !=0) ([],iB nm mt g gr w h cl us) (cond (decide (200<(ls.length:Int))) ([],4) (cond (!(ls.all (mO nm mt g gr w h cl us))) ([],1)
  (cond (decide (6000<(((gxs w ls).length:Int)-1)*(((gys h ls).length:Int)-1))) ([],4) (oH w h ls,0))))
theorem bKq (nm mt:ByteArray) (g gr w h:Int) (cl us:List aA) (s:Seg):
  (((!(pH nm mt g gr w h cl us s.X1 s.Y1))||(!(pH nm mt g gr w h cl us s.X2 s.Y2)))||((!((s.Y1==s.Y2)&&(decide (s.X1<s.X2))))&&(!((s.X1==s.X2)&&(decide (s.Y1<s.Y2))))))=!(mO nm mt g gr w h cl us s):=by
 have e:∀a b,pH nm mt g gr w h cl us a b=iC nm mt g gr w h cl us a b:=fun a b=>by
  unfold pH iC;cases decide (0<=a)<;>cases decide (0<=b)<;>cases decide (a<=w)<;>rfl
 rw[e,e];unfold mO vD;cases iC nm mt g gr w h cl us s.X1 s.Y1<;>cases iC nm mt g gr w h cl us s.X2 s.Y2<;>simp only[Bool.not_false,Bool.not_true,Bool.true_or,Bool.or_true,Bool.or_self,Bool.false_or,cond_true,cond_false,Bool.not_or]
theorem aJO (x:Int):gS [] x=[x]:=rfl
theorem aJP (y:Int) (l:zzI) (x:Int):gS (y::l) x=if y<x then y::gS l x else if y=x then x::l else x::y::l:=by
 by_cases hy:y<x
 ·rw[if_pos hy];have hb:bO (y::l) x=bO l x+1:=by
   unfold bO;rw[List.takeWhile_cons,aW hy,if_pos rfl,List.length_cons]
  unfold gS;rw[hb];simp only[List.take_succ_cons,List.length_cons,List.getD_cons_succ,Nat.add_lt_add_iff_right]
  by_cases q:bO l x<l.length/\l.getD (bO l x) default=x
  ·rw[if_pos q,if_pos q];rfl
  ·rw[if_neg q,if_neg q];rfl
 ·rw[if_neg hy];have hb:bO (y::l) x=0:=by
   unfold bO;rw[List.takeWhile_cons,bD hy];rfl
  unfold gS;rw[hb];simp only[List.take_zero,List.length_cons,List.getD_cons_zero,List.nil_append]
  by_cases q:y=x
  ·rw[if_pos ⟨by omega,q⟩,if_pos q];rfl
  ·rw[if_neg (fun z=>q z.2),if_neg q];rfl
theorem aE7 (x:Int):∀(l:zzI) (y:Int),y∈gS l x↔y=x\/y∈l
 |[],y=>by rw[aJO];simp
 |z::l,y=>by
  rw[aJP];split
  ·rw[List.mem_cons,List.mem_cons,aE7 x l y];constructor
   ·rintro (h|h|h)
    ·exact .inr (.inl h)
    ·exact .inl h
    ·exact .inr (.inr h)
   ·rintro (h|h|h)
    ·exact .inr (.inl h)
    ·exact .inl h
    ·exact .inr (.inr h)
  ·split
   ·rename_i e;subst e;simp
   ·simp
theorem aJQ (x:Int):∀(l:zzI),asc l->asc (gS l x)
 |[],h=>by rw[aJO];exact List.pairwise_singleton _ _
 |z::l,h=>by
  obtain⟨h1,h2⟩:=List.pairwise_cons.1 h;rw[aJP];split
  ·rename_i hz;refine List.pairwise_cons.2 ⟨fun y hy=>?_,aJQ x l h2⟩;rcases(aE7 x l y).1 hy with rfl|hy
   ·exact hz
   ·exact h1 y hy
  ·split
   ·rename_i e;subst e;exact h
   ·refine List.pairwise_cons.2 ⟨fun y hy=>?_,h⟩;rcases List.mem_cons.1 hy with rfl|hy
    ·omega
    ·have:=h1 y hy;omega
theorem aBZ (x:Int):∀(l:zzI),(gS l x).length<=l.length+1
 |[]=>by rw[aJO];simp
 |z::l=>by
  have:=aBZ x l;rw[aJP];split
  ·simp;omega
  ·split<;>simp
def plF (f g:Seg->Int) (l:zzI) (s:Seg):zzI:=gS (gS l (f s)) (g s)
theorem aNa (f g:Seg->Int) (l:zzI) (s:Seg):(plF f g l s).length<=l.length+2:=by
 unfold plF;have:=aBZ (g s) (gS l (f s));have:=aBZ (f s) l;omega
theorem aJR (f g:Seg->Int):∀(ls:List Seg) (l:zzI),asc l->asc (ls.foldl (plF f g) l)/\∀y,y∈ls.foldl (plF f g) l↔y∈l\/∃s∈ls,y=f s\/y=g s
 |[],l,h=>⟨h,fun y=>by simp⟩
 |s::ls,l,h=>by
  obtain⟨h1,h2⟩:=aJR f g ls (plF f g l s) (aJQ _ _ (aJQ _ _ h));refine⟨h1,fun y=>?_⟩;rw[List.foldl_cons,h2 y];unfold plF;rw[aE7,aE7];constructor
  ·rintro ((h|h|h)|⟨s',hs,h⟩)
   ·exact .inr ⟨s,List.mem_cons_self ..,.inr h⟩
   ·exact .inr ⟨s,List.mem_cons_self ..,.inl h⟩
   ·exact .inl h
   ·exact .inr ⟨s',List.mem_cons_of_mem _ hs,h⟩
  ·rintro (h|⟨s',hs,h⟩)
   ·exact .inl (.inr (.inr h))
   ·rcases List.mem_cons.1 hs with rfl|hs
    ·rcases h with h|h
     ·exact .inl (.inr (.inl h))
     ·exact .inl (.inl h)
    ·exact .inr ⟨s',hs,h⟩
theorem aWI {w:Int} (h:1<=w):asc [0,w]:=by
 refine List.pairwise_cons.2 ⟨fun y hy=>?_,List.pairwise_singleton _ _⟩;obtain rfl:=List.mem_singleton.1 hy;omega
theorem bGN {w:Int} (h:1<=w) (ls:List Seg):ls.foldl (plF Seg.X1 Seg.X2) [0,w]=gxs w ls:=by
 obtain⟨h1,h2⟩:=aJR Seg.X1 Seg.X2 ls [0,w] (aWI h);refine aWG _ _ h1 (aCQ w ls) fun y=>?_
 rw[h2,wU];simp only[List.mem_cons,List.not_mem_nil,or_false,or_assoc]
theorem bGL {w:Int} (h:1<=w) (ls:List Seg):ls.foldl (plF Seg.Y1 Seg.Y2) [0,w]=gys w ls:=by
 obtain⟨h1,h2⟩:=aJR Seg.Y1 Seg.Y2 ls [0,w] (aWI h);refine aWG _ _ h1 (aCP w ls) fun y=>?_
 rw[h2,wT];simp only[List.mem_cons,List.not_mem_nil,or_false,or_assoc]
theorem aHj {l:zzI} (h:asc l) {x:Int} (hx:x∈l):mF l x=(bO l x:Nat):=by
 obtain⟨hb,hv⟩:=kT h hx;have hf:=(aMB l x).1;have:l.findIdx? (·==x)=some (bO l x):=by
  rw[List.findIdx?_eq_some_iff_getElem];refine⟨hb,?_,fun j hj=>?_⟩
  ·have:l[bO l x]=x:=by simpa[List.getD_eq_getElem?_getD,hb] using hv
   simp[this]
  ·have:=hf j hj;have hjl:j<l.length:=by omega
   rw[List.getD_eq_getElem?_getD,List.getElem?_eq_getElem hjl,Option.getD_some] at this;simp;omega
 unfold mF;rw[this];rfl
abbrev R0:=List Seg->Int->Int->ByteArray->ByteArray->Int->Int->Int->Int->List aA->List aA->LI->LI->Prop
abbrev R1:=Int->List Seg->XS
abbrev R2:=List Seg->Int->XS
abbrev R3:=Int->Int->List Seg->Int->LI->LI->Int->Int->Int->Int->LB->LB->zzZ->Prop
abbrev R5:=Int->LI->LI->LB->LB->zzZ->List (List aA)->Prop
abbrev R6:=Int->R5
abbrev R7:=Int->Int->Int->Int->Int->Int->LI->LI->List Cel->List (List aA)->LB->LB->zzZ->Prop
abbrev R8:=Int->Int->Int->Int->Int->Int->Int->LI->LI->List Cel->List Cel->List (List aA)->LB->LB->zzZ->Prop
theorem lr0 (F:Nat) (x0 x1:R0) (ls:List Seg) (nm mt:ByteArray) (g gr w h:Int) (cl us:List aA) (hl:ls.length<=200):∀(n i:Nat) (xs ys:LI),i<=ls.length->ls.length<n+i->xs.length<=2+2*i->ys.length<=2+2*i->
  ((ls.drop i).all (mO nm mt g gr w h cl us)=false->∀j xs ys,x0 ls 1 j nm mt g gr w h cl us xs ys)->
  ((ls.drop i).all (mO nm mt g gr w h cl us)=true->x1 ls 0 ls.length nm mt g gr w h cl us ((ls.drop i).foldl (plF Seg.X1 Seg.X2) xs) ((ls.drop i).foldl (plF Seg.Y1 Seg.Y2) ys))->
  zZ F x0 x1 n ls 0 i nm mt g gr w h cl us xs ys:=by
 intro n
 induction n with
 |zero=>intro i xs ys h1 h2;omega
 |succ n ih=>
  intro i xs ys h1 h2 h3 h4 hX hY;show aFb _ _ _ _ _ _ _ _ _ _ _ _ _ _ _ _;unfold aFb
  by_cases hi:i<ls.length
  ·rw[aW (show (i:Int)<ls.length by omega),cond_true];simp only[Int.toNat_natCast];rw[iJ ls i hi,List.all_cons] at hX hY;refine⟨⟨by omega,by omega⟩,?_⟩;rw[bKq nm mt g gr w h cl us (ls.getD i default)];cases hs:mO nm mt g gr w h cl us (ls.getD i default) with
   |false=>
    rw[hs] at hX;exact hX rfl _ _ _
   |true=>
    rw[hs,Bool.true_and] at hX hY;have p1:=aBZ (ls.getD i default).X1 xs;have p2:=aBZ (ls.getD i default).Y1 ys;have p3:=aNa Seg.X1 Seg.X2 xs (ls.getD i default);have p4:=aNa Seg.Y1 Seg.Y2 ys (ls.getD i default);refine⟨?_,?_,?_,?_,?_⟩
    ·show xs.length<=2000000;omega
    ·show (gS xs (ls.getD i default).X1).length<=2000000;omega
    ·show ys.length<=2000000;omega
    ·show (gS ys (ls.getD i default).Y1).length<=2000000;omega
    ·rw[bX hi (by omega)];exact ih (i+1) (plF Seg.X1 Seg.X2 xs (ls.getD i default)) (plF Seg.Y1 Seg.Y2 ys (ls.getD i default)) (by omega) (by omega) (by omega) (by omega) hX hY
  ·have e:i=ls.length:=by omega
   subst e;rw[bD (by omega),cond_false];rw[List.drop_length] at hY;exact hY rfl
theorem lr1 (F:Nat) (x0:R1) (ls:List Seg) (xs ys:LI) (w:Nat) (hw:xs.length=w+1) (h1:xs.length<=1000) (h2:ys.length<=1000) (hx:x0 w ls xs ys (List.replicate w (List.replicate ys.length false)) (List.replicate w (List.replicate ys.length false)) (List.replicate w (List.replicate ys.length 0))):
  ∀(n i:Nat),i<=w->w<n+i->zY F x0 n i ls xs ys (List.replicate i (List.replicate ys.length false)) (List.replicate i (List.replicate ys.length false)) (List.replicate i (List.replicate ys.length 0)):=by
 intro n
 induction n with
 |zero=>intro i h3 h4;omega
 |succ n ih=>
  intro i h3 h4;show aFa _ _ _ _ _ _ _ _ _;unfold aFa;rw[bQ (show -9223372036854775808<=(i:Int)+1 by omega) (by omega)]
  by_cases h:i<w
  ·rw[aW (show (i:Int)+1<xs.length by omega),cond_true];simp only[Int.toNat_natCast,List.length_replicate];refine⟨⟨by omega,by trivial,by omega⟩,by omega,⟨by omega,by trivial,by omega⟩,by omega,⟨by omega,by trivial,by omega⟩,by omega,?_⟩;rw[<- List.replicate_succ',<- List.replicate_succ'];exact ih (i+1) (by omega) (by omega)
  ·have e:i=w:=by omega
   subst e;rw[bD (by omega),cond_false];exact hx
theorem lr3 (F:Nat) (x0:R3) (ls:List Seg) (t12 c0 c1 c2 c3:Int) (xs ys:LI) (w k:Nat) (hw:xs.length=w+1) (rt:LB) (part:zzZ) (hk:k<ys.length) (gU:xs.length<=1000) (jJ:ys.length<=1000) (hs:asc xs) (hm:c2∈xs):
  ∀(n a:Nat) (up:LB) (f:Nat->Nat->Bool),Tab w ys.length up f->xs.length<n+a->
  (∀t up',Tab w ys.length up' (fun i j=>f i j||decide (a<=i/\i<bO xs c2/\j+1=k))->x0 k t ls t12 xs ys c0 c1 c2 c3 rt up' part)->
  a<xs.length->aAf F x0 n k a ls t12 xs ys c0 c1 c2 c3 rt up part:=by
 obtain⟨hb,hbv⟩:=kT hs hm;intro n
 induction n with
 |zero=>intro a up f h1 h2 h3 h4;omega
 |succ n ih=>
  intro a up f hT h2 hx ha;show aF8 _ _ _ _ _ _ _ _ _ _ _ _ _ _ _;unfold aF8;refine⟨show xs.length<=2000000 by omega,?_⟩;rw[aHj hs hm];have stop:¬(a<bO xs c2/\0<k)->x0 k a ls t12 xs ys c0 c1 c2 c3 rt up part:=fun q=>by
   refine hx a up (hT.congr fun i j hi hj=>?_);rw[decide_eq_false (by omega),Bool.or_false]
  by_cases h:a<bO xs c2
  ·rw[aW (show (a:Int)<(bO xs c2:Nat) by omega),cond_true]
   by_cases iI:0<k
   ·rw[aW (show (0:Int)<(k:Int) by omega),cond_true];have ek:aC ((k:Int)-1)=((k-1:Nat):Int):=by rw[bQ (by omega) (by omega)];omega
    rw[ek];simp only[Int.toNat_natCast];have hr:=hT.2.1 a (by omega);have hl:=hT.1;refine⟨⟨⟨by omega,by omega⟩,by omega,by omega⟩,?_⟩;rw[bX ha (by omega)];refine ih (a+1) _ _ (hT.set (show a<w by omega) (show k-1<ys.length by omega)) (by omega) (fun t up' hT'=>hx t up' (hT'.congr fun i j hi hj=>?_)) (by omega);rw[Bool.or_assoc];congr 1;rw[Bool.eq_iff_iff];simp only[Bool.or_eq_true,decide_eq_true_eq];omega
   ·rw[bD (show ¬(0:Int)<(k:Int) by omega),cond_false];exact stop (by omega)
  ·rw[bD (show ¬(a:Int)<(bO xs c2:Nat) by omega),cond_false];exact stop (by omega)
theorem lr4 (F:Nat) (x0:R3) (ls:List Seg) (t12 c0 c1 c2 c3:Int) (xs ys:LI) (w b:Nat) (hw:xs.length=w+1) (up:LB) (part:zzZ) (jB:b<xs.length) (gU:xs.length<=1000) (jJ:ys.length<=1000) (hs:asc ys) (hm:c3∈ys):
  ∀(n a:Nat) (rt:LB) (f:Nat->Nat->Bool),Tab w ys.length rt f->ys.length<n+a->
  (∀t rt',Tab w ys.length rt' (fun i j=>f i j||decide (i+1=b/\a<=j/\j<bO ys c3))->x0 b t ls t12 xs ys c0 c1 c2 c3 rt' up part)->
  a<ys.length->aAe F x0 n b a ls t12 xs ys c0 c1 c2 c3 rt up part:=by
 obtain⟨hb,hbv⟩:=kT hs hm;intro n
 induction n with
 |zero=>intro a rt f h1 h2 h3 h4;omega
 |succ n ih=>
  intro a rt f hT h2 hx ha;show aF7 _ _ _ _ _ _ _ _ _ _ _ _ _ _ _;unfold aF7;refine⟨show ys.length<=2000000 by omega,?_⟩;rw[aHj hs hm];have stop:¬(a<bO ys c3/\0<b)->x0 b a ls t12 xs ys c0 c1 c2 c3 rt up part:=fun q=>by
   refine hx a rt (hT.congr fun i j hi hj=>?_);rw[decide_eq_false (by omega),Bool.or_false]
  by_cases h:a<bO ys c3
  ·rw[aW (show (a:Int)<(bO ys c3:Nat) by omega),cond_true]
   by_cases iI:0<b
   ·rw[aW (show (0:Int)<(b:Int) by omega),cond_true];have ek:aC ((b:Int)-1)=((b-1:Nat):Int):=by rw[bQ (by omega) (by omega)];omega
    rw[ek];simp only[Int.toNat_natCast];have hr:=hT.2.1 (b-1) (by omega);have hl:=hT.1;rw[aW (show ((b-1:Nat):Int)<(rt.length:Int) by omega),cond_true];refine⟨⟨⟨by omega,by omega⟩,by omega,by omega⟩,?_⟩;rw[bX ha (by omega)];refine ih (a+1) _ _ (hT.set (show b-1<w by omega) ha) (by omega) (fun t rt' hT'=>hx t rt' (hT'.congr fun i j hi hj=>?_)) (by omega);rw[Bool.or_assoc];congr 1;rw[Bool.eq_iff_iff];simp only[Bool.or_eq_true,decide_eq_true_eq];omega
   ·rw[bD (show ¬(0:Int)<(b:Int) by omega),cond_false];exact stop (by omega)
  ·rw[bD (show ¬(a:Int)<(bO ys c3:Nat) by omega),cond_false];exact stop (by omega)
theorem lr2 (F:Nat) (x0:R2) (ls:List Seg) (hl:ls.length<=200) (wd hd:Int) (xs ys:LI) (w:Nat) (hw:xs.length=w+1) (gU:xs.length<=1000) (jJ:ys.length<=1000) (hsx:asc xs) (hsy:asc ys) (hF:2000<F) (part:zzZ)
  (hls:∀s∈ls,mJ wd hd s/\s.X1∈xs/\s.X2∈xs/\s.Y1∈ys/\s.Y2∈ys)
  (hx:∀rt up,Tab w ys.length rt (fun i j=>lfG xs ys ls (i+1) j)->Tab w ys.length up (fun i j=>blG xs ys ls i (j+1))->x0 ls ls.length xs ys rt up part):
  ∀(n i:Nat) (rt up:LB),i<=ls.length->ls.length<n+i->Tab w ys.length rt (fun a b=>lfG xs ys (ls.take i) (a+1) b)->Tab w ys.length up (fun a b=>blG xs ys (ls.take i) a (b+1))->mC F x0 n ls i xs ys rt up part:=by
 intro n
 induction n with
 |zero=>intro i rt up h1 h2;omega
 |succ n ih=>
  intro i rt up h1 h2 hT hU;show aF9 _ _ _ _ _ _ _ _ _ _ _;unfold aF9
  by_cases hi:i<ls.length
  ·rw[aW (show (i:Int)<ls.length by omega),cond_true];simp only[Int.toNat_natCast];have hms:ls.getD i default∈ls:=by
    rw[List.getD_eq_getElem?_getD,List.getElem?_eq_getElem hi,Option.getD_some];exact List.getElem_mem _
   have hT2:=aDn ls i hi;generalize ls.getD i default=s at hms hT2;obtain⟨⟨ho1,ho2⟩,m1,m2,m3,m4⟩:=hls s hms;refine⟨⟨by omega,by omega⟩,?_⟩;obtain⟨b1,v1⟩:=kT hsx m1;obtain⟨b2,v2⟩:=kT hsx m2;obtain⟨b3,v3⟩:=kT hsy m3;obtain⟨b4,v4⟩:=kT hsy m4;rw[aHj hsx m1,aHj hsy m3]
   by_cases hq:s.Y1=s.Y2
   ·rw[show (s.Y1==s.Y2)=true by simpa using hq,cond_true];refine⟨show ys.length<=2000000 by omega,show xs.length<=2000000 by omega,?_⟩;show aAf F (fun t4 t5 qbi qbj aJ aI qv qw qx qy qah qai qaj=>aTs (mC F x0 n) x0 t4 t5 qbi qbj aJ aI qv qw qx qy qah qai qaj) F (bO ys s.Y1:Nat) (bO xs s.X1:Nat) ls i xs ys s.X1 s.Y1 s.X2 s.Y2 rt up part;refine lr3 F _ ls _ _ _ _ _ xs ys w (bO ys s.Y1) hw rt part b3 gU jJ hsx m2 F (bO xs s.X1) up _ hU (by omega) (fun t up' hU'=>?_) b1;show mC F x0 n ls (aC ((i:Int)+1)) xs ys rt up' part;rw[bX hi (by omega)];refine ih (i+1) rt up' (by omega) (by omega) (hT.congr fun a c ha hc=>?_) (hU'.congr fun a c ha hc=>?_)
    ·rw[hT2,aKN,hq,decide_eq_false (by omega),Bool.or_false]
    ·rw[hT2,aMA]
   ·rw[show (s.Y1==s.Y2)=false by simpa using hq,cond_false];refine⟨show xs.length<=2000000 by omega,show ys.length<=2000000 by omega,?_⟩;have hX:s.X1=s.X2:=by omega
    show aAe F (fun t6 t7 qbi qbj aJ aI qv qw qx qy qah qai qaj=>aTr (mC F x0 n) x0 t6 t7 qbi qbj aJ aI qv qw qx qy qah qai qaj) F (bO xs s.X1:Nat) (bO ys s.Y1:Nat) ls i xs ys s.X1 s.Y1 s.X2 s.Y2 rt up part;refine lr4 F _ ls _ _ _ _ _ xs ys w (bO xs s.X1) hw up part b1 gU jJ hsy m4 F (bO ys s.Y1) rt _ hT (by omega) (fun t rt' hT'=>?_) b3;show mC F x0 n ls (aC ((i:Int)+1)) xs ys rt' up part;rw[bX hi (by omega)];refine ih (i+1) rt' up (by omega) (by omega) (hT'.congr fun a c ha hc=>?_) (hU.congr fun a c ha hc=>?_)
    ·rw[hT2,aKN]
    ·rw[hT2,aMA,hX,decide_eq_false (by omega),Bool.or_false]
  ·have e:i=ls.length:=by omega
   subst e;rw[bD (by omega),cond_false];rw[List.take_length] at hT hU;exact hx rt up hT hU
def cdR (x:Option Nat):Int:=match x with
 |none=>0
 |some j=>((j+1:Nat):Int)
theorem bJY (x:Option Nat):cdR x=0↔x=none:=by
 cases x with
 |none=>simp[cdR]
 |some j=>simp only[cdR,reduceCtorEq,iff_false];omega
def jE (c:Pl):Cel:=⟨c.1,c.2⟩
theorem aMu (n:Nat) (a:List Pl):∀(l:List Pl) (L:Pl->Option Nat) (b:List Pl),visit n l (L,a++b)=((visit n l (L,b)).1,a++(visit n l (L,b)).2)
 |[],L,b=>rfl
 |e::l,L,b=>by
  show visit n l (eZ n (L,a++b) e)=((visit n l (eZ n (L,b) e)).1,a++(visit n l (eZ n (L,b) e)).2);have:eZ n (L,a++b) e=((eZ n (L,b) e).1,a++(eZ n (L,b) e).2):=by
   unfold eZ
   by_cases h:L e=none
   ·simp only[h,if_true,List.append_assoc]
   ·simp only[if_neg h]
  rw[this,aMu n a l]
theorem lr8 (F:Nat) (x0:R8) (t8 t9 t11 t14 t15:Int) (xs ys:LI) (rt up:LB) (w h n:Nat) (nx:List Pl) (hnx:∀e∈nx,e∈cellsOf w h) (hnl:nx.length<=1000) (out:List (List aA)) (s0:(Pl->Option Nat)×List Pl)
  (hx:∀part' queue' s',s'=visit n nx s0->Arr cdR w h part' s'.1->queue'=s'.2.map jE->x0 ((n+1:Nat):Int) t8 t9 t11 nx.length t14 t15 xs ys queue' (nx.map jE) out rt up part'):
  ∀(m i:Nat) (s:(Pl->Option Nat)×List Pl) (part:zzZ) (queue:List Cel),i<=nx.length->nx.length<m+i->Arr cdR w h part s.1->queue=s.2.map jE->free (cellsOf w h) s.1+s.2.length<=2000000->visit n (nx.drop i) s=visit n nx s0->
   aAd F x0 m ((n+1:Nat):Int) t8 t9 t11 i t14 t15 xs ys queue (nx.map jE) out rt up part:=by
 intro m
 induction m with
 |zero=>intro i s part queue h1 h2;omega
 |succ m ih=>
  intro i s part queue h1 h2 A hq hr hv;show aF3 _ _ _ _ _ _ _ _ _ _ _ _ _ _ _ _ _;unfold aF3;rw[List.length_map]
  by_cases hi:i<nx.length
  ·rw[aW (show (i:Int)<(nx.length:Int) by omega),cond_true];have hge:(nx.map jE).getD i default=jE (nx.getD i default):=by
    rw[List.getD_eq_getElem?_getD,List.getElem?_map,List.getD_eq_getElem?_getD,List.getElem?_eq_getElem hi];rfl
   have hce:nx.getD i default∈cellsOf w h:=hnx _ (by
    rw[List.getD_eq_getElem?_getD,List.getElem?_eq_getElem hi,Option.getD_some];exact List.getElem_mem _)
   rw[iJ nx i hi] at hv;generalize nx.getD i default=c at hge hce hv;obtain⟨a,b⟩:=c;obtain⟨ha,hb⟩:=pW.1 hce;replace ha:a<w:=ha;replace hb:b<h:=hb;have e4:(jE (a,b)).i=(a:Int):=rfl;have e5:(jE (a,b)).j=(b:Int):=rfl;obtain⟨A1,A2,A3⟩:=id A;have a2:=A2 a ha;have a3:=A3 a b ha hb;have jK:visit n (nx.drop (i+1)) (eZ n s (a,b))=visit n nx s0:=hv;have e6:aC ((i:Int)+1)=((i+1:Nat):Int):=by rw[bQ (by omega) (by omega)];omega
   simp only[Int.toNat_natCast,hge,e4,e5,a3,e6];refine⟨⟨by omega,by omega⟩,⟨by omega,by omega⟩,⟨by omega,by omega⟩,⟨by omega,by omega⟩,?_⟩
   by_cases hn:s.1 (a,b)=none
   ·rw[show (cdR (s.1 (a,b))==0)=true by rw[hn];rfl,cond_true];have gN:eZ n s (a,b)=(upd s.1 (a,b) n,s.2++[(a,b)]):=by
     unfold eZ;rw[if_pos hn]
    have hfr:=aL4 (n:=n) hce hn;have hql:queue.length=s.2.length:=by rw[hq,List.length_map]
    refine⟨⟨by omega,by omega⟩,⟨by omega,by omega⟩,⟨by omega,by omega⟩,⟨by omega,by omega⟩,⟨⟨by omega,by omega⟩,by simp only[List.length_singleton];omega⟩,?_⟩;refine ih (i+1) (eZ n s (a,b)) _ _ (by omega) (by omega) ?_ ?_ ?_ jK
    ·rw[gN];exact A.set ha hb
    ·rw[gN,hq,List.map_append];rfl
    ·rw[gN];simp only[List.length_append,List.length_singleton];omega
   ·rw[show (cdR (s.1 (a,b))==0)=false by
     rw[beq_eq_false_iff_ne];exact fun q=>hn ((bJY _).1 q),cond_false]
    have gN:eZ n s (a,b)=s:=by
     unfold eZ;rw[if_neg hn]
    rw[gN] at jK;exact ih (i+1) s part queue (by omega) (by omega) A hq hr jK
  ·have e:i=nx.length:=by omega
   subst e;rw[bD (by omega),cond_false];rw[List.drop_length] at hv;exact hx part queue s hv A hq
theorem aEb {c:Bool} {r1 r2:Prop} {b:Bool} {x:Cel} {nx:List Cel} {K:List Cel->Prop} (hc:c=true->r1/\r2) (hl:nx.length<=1000) (hK:∀nx',nx'=nx++(if c=true/\b=false then [x] else [])->nx'.length<=nx.length+1->K nx'):nxG c r1 r2 b x nx K:=by
 unfold nxG;cases c with
 |false=>exact hK nx (by simp) (by omega)
 |true=>
  obtain⟨h1,h2⟩:=hc rfl;refine⟨h1,h2,?_⟩;cases b with
  |true=>exact hK nx (by simp) (by omega)
  |false=>exact⟨by simp only[List.length_singleton];omega,hK _ (by simp) (by simp)⟩
theorem aFZ {c b:Bool} {p:Prop} [Decidable p] {x:Cel} {e:Pl} (h:(c=true/\b=false)↔p) (hx:p->x=jE e):(if c=true/\b=false then [x] else [])=(if p then [e] else []).map jE:=by
 by_cases q:p
 ·rw[if_pos (h.2 q),if_pos q,hx q];rfl
 ·rw[if_neg (fun z=>q (h.1 z)),if_neg q];rfl
theorem bAY (rec x0:R7) (i8:R8) (t3 t8 t9 t11 t14 t15:Int) (xs ys:LI) (queue:List Cel) (out:List (List aA)) (rt up:LB) (part:zzZ):
  aF4 rec x0 t3 t8 t9 t11 t14 t15 xs ys queue out rt up part i8=
  cond (decide (t11<(queue.length:Int))) ((0<=t11/\t11<queue.length)/\
   nxG (decide (aC ((queue.getD t11.toNat default).i+1)<t8)) (0<=(queue.getD t11.toNat default).i/\(queue.getD t11.toNat default).i<rt.length) (0<=(queue.getD t11.toNat default).j/\(queue.getD t11.toNat default).j<(rt.getD (queue.getD t11.toNat default).i.toNat default).length)
    ((rt.getD (queue.getD t11.toNat default).i.toNat default).getD (queue.getD t11.toNat default).j.toNat default) (Cel.mk (aC ((queue.getD t11.toNat default).i+1)) (queue.getD t11.toNat default).j) [] fun nx=>
   nxG (decide (0<(queue.getD t11.toNat default).i)) (0<=aC ((queue.getD t11.toNat default).i-1)/\aC ((queue.getD t11.toNat default).i-1)<rt.length) (0<=(queue.getD t11.toNat default).j/\(queue.getD t11.toNat default).j<(rt.getD (aC ((queue.getD t11.toNat default).i-1)).toNat default).length)
    ((rt.getD (aC ((queue.getD t11.toNat default).i-1)).toNat default).getD (queue.getD t11.toNat default).j.toNat default) (Cel.mk (aC ((queue.getD t11.toNat default).i-1)) (queue.getD t11.toNat default).j) nx fun nx=>
   nxG (decide (aC ((queue.getD t11.toNat default).j+1)<t9)) (0<=(queue.getD t11.toNat default).i/\(queue.getD t11.toNat default).i<up.length) (0<=(queue.getD t11.toNat default).j/\(queue.getD t11.toNat default).j<(up.getD (queue.getD t11.toNat default).i.toNat default).length)
    ((up.getD (queue.getD t11.toNat default).i.toNat default).getD (queue.getD t11.toNat default).j.toNat default) (Cel.mk (queue.getD t11.toNat default).i (aC ((queue.getD t11.toNat default).j+1))) nx fun nx=>
   nxG (decide (0<(queue.getD t11.toNat default).j)) (0<=(queue.getD t11.toNat default).i/\(queue.getD t11.toNat default).i<up.length) (0<=aC ((queue.getD t11.toNat default).j-1)/\aC ((queue.getD t11.toNat default).j-1)<(up.getD (queue.getD t11.toNat default).i.toNat default).length)
    ((up.getD (queue.getD t11.toNat default).i.toNat default).getD (aC ((queue.getD t11.toNat default).j-1)).toNat default) (Cel.mk (queue.getD t11.toNat default).i (aC ((queue.getD t11.toNat default).j-1))) nx fun nx=>
   i8 t3 t8 t9 t11 0 t14 t15 xs ys queue nx out rt up part) (x0 t3 t8 t9 t11 t14 t15 xs ys queue out rt up part):=rfl
def nxs (w h:Nat) (f g:Nat->Nat->Bool) (i k:Nat):List Pl:=
 (if i+1<w/\f (i+1) k=false then [(i+1,k)] else [])++(if 0<i/\f i k=false then [(i-1,k)] else [])++(if k+1<h/\g i (k+1)=false then [(i,k+1)] else [])++(if 0<k/\g i k=false then [(i,k-1)] else [])
theorem bDK {w h:Nat} {f g:Nat->Nat->Bool} {i k:Nat} (hci:i<w) (hck:k<h) (e:Pl):e∈nxs w h f g i k↔e∈nbs w h f g (i,k):=by
 have hnb:nbs w h f g (i,k)=(if 0<i/\f i k=false then [(i-1,k)] else [])++(if i+1<w/\f (i+1) k=false then [(i+1,k)] else [])++(if 0<k/\g i k=false then [(i,k-1)] else [])++(if k+1<h/\g i (k+1)=false then [(i,k+1)] else []):=by
  unfold nbs;rw[if_pos ⟨hci,hck⟩]
 rw[hnb];unfold nxs;simp only[List.mem_append];generalize (e∈if i+1<w/\f (i+1) k=false then [(i+1,k)] else [])=A;generalize (e∈if 0<i/\f i k=false then [(i-1,k)] else [])=B;generalize (e∈if k+1<h/\g i (k+1)=false then [(i,k+1)] else [])=C;generalize (e∈if 0<k/\g i k=false then [(i,k-1)] else [])=D;constructor
 ·rintro (((q|q)|q)|q)
  ·exact .inl (.inl (.inr q))
  ·exact .inl (.inl (.inl q))
  ·exact .inr q
  ·exact .inl (.inr q)
 ·rintro (((q|q)|q)|q)
  ·exact .inl (.inl (.inr q))
  ·exact .inl (.inl (.inl q))
  ·exact .inr q
  ·exact .inl (.inr q)
set_option maxHeartbeats 2000000 in
theorem lr7 (F:Nat) (x0:R7) (t14 t15:Int) (xs ys:LI) (rt up:LB) (f g:Nat->Nat->Bool) (w h n:Nat) (nP:w<=1000) (hh:ys.length=h+1) (qD:h<=1000) (hF:2000000<F+1)
  (hT:Tab w ys.length rt (fun i j=>f (i+1) j)) (hU:Tab w ys.length up (fun i j=>g i (j+1))) (out:List (List aA)) (L0:Pl->Option Nat) (c0:Pl) (h0:L0 c0=none) (hf:∀d,L0 d≠some n)
  (hx:∀t queue' part',Arr cdR w h part' (iU (nbs w h f g) L0 c0 n)->x0 ((n+1:Nat):Int) w h t t14 t15 xs ys queue' out rt up part'):
  ∀(m t:Nat) (L:Pl->Option Nat) (S:List Pl) (part:zzZ) (queue:List Cel),Arr cdR w h part L->queue=S.map jE->t<=S.length->iL (nbs w h f g) (cellsOf w h) L0 c0 n (fun _=>False) L (S.drop t)->free (cellsOf w h) L+S.length<=2000000->free (cellsOf w h) L+(S.length-t)<m->
   rY F x0 m ((n+1:Nat):Int) w h t t14 t15 xs ys queue out rt up part:=by
 intro m
 induction m with
 |zero=>intro t L S part queue A hq ht W hr hm;omega
 |succ m ih=>
  intro t L S part queue A hq ht W hr hm;show aF4 _ _ _ _ _ _ _ _ _ _ _ _ _ _ _ _;rw[bAY];have hql:queue.length=S.length:=by rw[hq,List.length_map]
  by_cases hlt:t<S.length
  ·rw[aW (show (t:Int)<(queue.length:Int) by omega),cond_true];have hge:queue.getD t default=jE (S.getD t default):=by
    rw[hq,List.getD_eq_getElem?_getD,List.getElem?_map,List.getD_eq_getElem?_getD,List.getElem?_eq_getElem hlt];rfl
   have hdr:=iJ S t hlt;generalize S.getD t default=c at hge hdr;rw[hdr] at W;obtain⟨hcn,hcc⟩:=W.mem c (by simp);obtain⟨i,k⟩:=c;obtain⟨hci,hck⟩:=pW.1 hcc;replace hci:i<w:=hci;replace hck:k<h:=hck;have e4:(jE (i,k)).i=(i:Int):=rfl;have e5:(jE (i,k)).j=(k:Int):=rfl;have e6:aC ((i:Int)+1)=((i+1:Nat):Int):=by rw[bQ (by omega) (by omega)];omega
   have e7:aC ((k:Int)+1)=((k+1:Nat):Int):=by rw[bQ (by omega) (by omega)];omega
   have e8:aC ((i:Int)-1)=(i:Int)-1:=bQ (by omega) (by omega);have e9:aC ((k:Int)-1)=(k:Int)-1:=bQ (by omega) (by omega);have e10:((i:Int)-1).toNat=i-1:=by omega
   have e11:((k:Int)-1).toNat=k-1:=by omega
   obtain⟨T1,T2,T3⟩:=hT;obtain⟨U1,U2,U3⟩:=hU;have t2:=T2 i hci;have u2:=U2 i hci;have t3:=T3 i k hci (by omega);have u3:=U3 i k hci (by omega);simp only at t3 u3;rw[Int.toNat_natCast,hge,e4,e5,e6,e7,e8,e9,e10,e11,Int.toNat_natCast,Int.toNat_natCast];refine⟨⟨by omega,by omega⟩,?_⟩;refine aEb (fun q=>⟨⟨by omega,by omega⟩,by omega,by omega⟩) (by simp) fun n1 en1 ln1=>?_
   have hl1:(decide (((i+1:Nat):Int)<(w:Int))=true/\(rt.getD i default).getD k default=false)↔(i+1<w/\f (i+1) k=false):=by
    rw[t3,decide_eq_true_eq];constructor<;>(intro q;exact⟨by omega,q.2⟩)
   rw[List.nil_append,aFZ (x:=Cel.mk ((i+1:Nat):Int) k) (e:=(i+1,k)) hl1 (fun _=>rfl)] at en1;refine aEb (fun q=>?_) (by simp at ln1;omega) fun n2 en2 ln2=>?_
   ·have q:=of_decide_eq_true q;have:=T2 (i-1) (by omega);exact⟨⟨by omega,by omega⟩,by omega,by omega⟩
   have hl2:(decide ((0:Int)<(i:Int))=true/\(rt.getD (i-1) default).getD k default=false)↔(0<i/\f i k=false):=by
    rw[decide_eq_true_eq];constructor
    ·rintro ⟨q1,q2⟩
     have:=T3 (i-1) k (by omega) (by omega);simp only[show i-1+1=i by omega] at this;exact⟨by omega,by rw[<- this];exact q2⟩
    ·rintro ⟨q1,q2⟩
     have:=T3 (i-1) k (by omega) (by omega);simp only[show i-1+1=i by omega] at this;exact⟨by omega,by rw[this];exact q2⟩
   rw[aFZ (x:=Cel.mk ((i:Int)-1) k) (e:=(i-1,k)) hl2 (fun q=>by
    unfold jE;rw[show ((i:Int)-1)=((i-1:Nat):Int) by omega])] at en2
   refine aEb (fun q=>⟨⟨by omega,by omega⟩,by omega,by omega⟩) (by simp at ln1;omega) fun n3 en3 ln3=>?_
   have hl3:(decide (((k+1:Nat):Int)<(h:Int))=true/\(up.getD i default).getD k default=false)↔(k+1<h/\g i (k+1)=false):=by
    rw[u3,decide_eq_true_eq];constructor<;>(intro q;exact⟨by omega,q.2⟩)
   rw[aFZ (x:=Cel.mk i ((k+1:Nat):Int)) (e:=(i,k+1)) hl3 (fun _=>rfl)] at en3;refine aEb (fun q=>?_) (by simp at ln1;omega) fun n4 en4 ln4=>?_
   ·have q:=of_decide_eq_true q;exact⟨⟨by omega,by omega⟩,by omega,by omega⟩
   have hl4:(decide ((0:Int)<(k:Int))=true/\(up.getD i default).getD (k-1) default=false)↔(0<k/\g i k=false):=by
    rw[decide_eq_true_eq];constructor
    ·rintro ⟨q1,q2⟩
     have:=U3 i (k-1) (by omega) (by omega);simp only[show k-1+1=k by omega] at this;exact⟨by omega,by rw[<- this];exact q2⟩
    ·rintro ⟨q1,q2⟩
     have:=U3 i (k-1) (by omega) (by omega);simp only[show k-1+1=k by omega] at this;exact⟨by omega,by rw[this];exact q2⟩
   rw[aFZ (x:=Cel.mk i ((k:Int)-1)) (e:=(i,k-1)) hl4 (fun q=>by
    unfold jE;rw[show ((k:Int)-1)=((k-1:Nat):Int) by omega])] at en4
   have hnl:n4.length<=4:=by simp at ln1;omega
   rw[en1] at en2;rw[en2,<- List.map_append] at en3;rw[en3,<- List.map_append,<- List.map_append] at en4;clear en1 en2 en3 ln1 ln2 ln3 ln4;have hin:∀e,e∈nxs w h f g i k↔e∈nbs w h f g (i,k):=fun e=>bDK hci hck e
   change n4=(nxs w h f g i k).map jE at en4;generalize nxs w h f g i k=nx at en4 hin;subst en4;rw[List.length_map] at hnl;have hcells:∀e∈nx,e∈cellsOf w h:=fun e he=>aEf ((hin e).1 he)
   show aAd F (fun t3 t8 t9 t11 t14 qbk qbl aJ aI qak qal qam qan qao qap=>aTo (rY F x0 m) x0 t3 t8 t9 t11 t14 qbk qbl aJ aI qak qal qam qan qao qap) F ((n+1:Nat):Int) w h t (0:Nat) t14 t15 xs ys queue (nx.map jE) out rt up part;refine lr8 F _ _ _ _ _ _ xs ys rt up w h n nx hcells (by omega) out (L,S) (fun part' queue' s' hs' A' hq'=>?_) F 0 (L,S) part queue (by omega) (by omega) A hq hr rfl;show rY F x0 m ((n+1:Nat):Int) w h (aC ((t:Int)+1)) t14 t15 xs ys queue' out rt up part';rw[bX hlt (by omega)];have hfree:=aIR (n:=n) (cells:=cellsOf w h) nx (L,S) hcells;have hsp:visit n nx (L,S)=((visit n nx (L,S.drop (t+1))).1,S.take (t+1)++(visit n nx (L,S.drop (t+1))).2):=by
    rw[<- aMu,List.take_append_drop]
   have htl:(S.take (t+1)).length=t+1:=by rw[List.length_take];omega
   have hW:=W.next (c:=(i,k)) (rest:=S.drop (t+1)) (l:=nx) (by simp) (fun d hd=>by
    rcases List.mem_cons.1 hd with q|q
    ·exact .inl q
    ·exact .inr q) (fun d hd=>List.mem_cons_of_mem _ hd) hf (fun e he=>⟨(hin e).1 he,hcells e he⟩) (fun e he=>(hin e).2 he)
   rw[<- hs'] at hfree;simp only at hfree;have e1:s'.1=(visit n nx (L,S.drop (t+1))).1:=by rw[hs',hsp]
   have e2:s'.2=S.take (t+1)++(visit n nx (L,S.drop (t+1))).2:=by rw[hs',hsp]
   have hl2':t+1<=s'.2.length:=by
    rw[e2,List.length_append,htl];omega
   refine ih (t+1) s'.1 s'.2 part' queue' A' hq' hl2' ?_ (by omega) (by omega);have e3:s'.2.drop (t+1)=(visit n nx (L,S.drop (t+1))).2:=by
    rw[e2];exact List.drop_left' htl
   rw[e1,e3];exact hW
  ·have e:t=S.length:=by omega
   subst e;rw[bD (by omega),cond_false];rw[List.drop_length] at W;refine hx _ queue part ?_;rw[<- W.done h0];exact A
theorem lr6 (F:Nat) (x0:R6) (xs ys:LI) (rt up:LB) (f g:Nat->Nat->Bool) (w h:Nat) (hw:xs.length=w+1) (hh:ys.length=h+1) (nP:w<=1000) (qD:h<=1000) (hF:2000000<F+1) (hwh:h*w<=10000)
  (hbx:∀j,j<xs.length->0<=xs.getD j default/\xs.getD j default<=1048576) (hby:∀j,j<ys.length->0<=ys.getD j default/\ys.getD j default<=1048576)
  (hT:Tab w ys.length rt (fun i j=>f (i+1) j)) (hU:Tab w ys.length up (fun i j=>g i (j+1))) (k:Nat) (hk:k<h)
  (hx:∀part' out' L',jV (nbs w h f g) (gG xs ys) (fL w k w) (fun _=>none,[])=(L',out')->Arr cdR w h part' L'->x0 k w xs ys rt up part' out'):
  ∀(n i:Nat) (part:zzZ) (out:List (List aA)) (L:Pl->Option Nat),i<=w->w<n+i->jV (nbs w h f g) (gG xs ys) (fL w k i) (fun _=>none,[])=(L,out)->Arr cdR w h part L->
   uP F x0 n k i xs ys rt up part out:=by
 intro n
 induction n with
 |zero=>intro i part out L h1 h2;omega
 |succ n ih=>
  intro i part out L h1 h2 hrun A;show aF5 _ _ _ _ _ _ _ _ _ _ _;unfold aF5;have e1:aC ((i:Int)+1)=((i+1:Nat):Int):=by rw[bQ (by omega) (by omega)];omega
  rw[e1]
  by_cases hi:i<w
  ·rw[aW (show ((i+1:Nat):Int)<(xs.length:Int) by omega),cond_true];have hinv:=jP.run (aEe (w:=w) (h:=h) (lf:=f) (bl:=g)) (rect:=gG xs ys) (fL w k i) [] (fun _=>none,[]) (jP.nil _ _);rw[hrun,List.nil_append] at hinv;simp only at hinv;have hpl:(fL w k i).length<=10000:=by
    rw[aN8];have:(k+1)*w<=h*w:=Nat.mul_le_mul_right w hk;rw[Nat.succ_mul] at this;omega
   have hol:out.length<=10000:=by
    have:=aEM (nbs w h f g) (gG xs ys) (fL w k i) (fun _=>none,[]);rw[hrun] at this;simp at this;omega
   have hml:∀j,(out.getD j default).length<=10000:=fun j=>by
    refine Nat.le_trans (aL7 out j) ?_;rw[hinv.perm.length_eq,List.length_map];exact hpl
   have hnext:jV (nbs w h f g) (gG xs ys) (fL w k (i+1)) (fun _=>none,[])=lB (nbs w h f g) (gG xs ys) (L,out) (i,k):=by
    rw[aN6,aNN,hrun];rfl
   obtain⟨A1,A2,A3⟩:=id A;have a2:=A2 i hi;have a3:=A3 i k hi hk;have e2:aC ((k:Int)+1)=((k+1:Nat):Int):=by rw[bQ (by omega) (by omega)];omega
   have e8:aC ((xs.length:Int)-1)=(w:Nat):=by rw[bQ (by omega) (by omega)];omega
   have e9:aC ((ys.length:Int)-1)=(h:Nat):=by rw[bQ (by omega) (by omega)];omega
   have er:aA.mk (xs.getD i default) (ys.getD k default) (aC (xs.getD (i+1) default-xs.getD i default)) (aC (ys.getD (k+1) default-ys.getD k default))=gG xs ys (i,k):=by
    have b1:=hbx i (by omega);have b2:=hbx (i+1) (by omega);have b3:=hby k (by omega);have b4:=hby (k+1) (by omega);rw[bQ (by omega) (by omega),bQ (by omega) (by omega)];rfl
   simp only[Int.toNat_natCast,e2,e8,e9,er,a3];refine⟨⟨⟨by omega,by omega⟩,by omega,by omega⟩,?_⟩;cases hL:L (i,k) with
   |none=>
    rw[hL] at a3;rw[show (cdR none==0)=true by rfl,cond_true];have hlen2:(out++[([]:List aA)]).length=out.length+1:=by simp
    rw[hlen2];refine⟨by simp only[List.length_singleton];omega,⟨⟨by omega,by omega⟩,by omega,by omega⟩,?_⟩;show rY F (fun t3 t8 t9 t11 qbk qbl aJ aI qak qal qam qan qao=>aFc (uP F x0 n) x0 t3 t8 t9 t11 qbk qbl aJ aI qak qal qam qan qao) F ((out.length+1:Nat):Int) w h (0:Nat) k i xs ys [Cel.mk i k] (out++[[]]) rt up (part.set i ((part.getD i default).set k ((out.length+1:Nat):Int)));have hf:∀d,L d≠some out.length:=fun d q=>by
     have:=hinv.bound d _ q;omega
    have hcm:(i,k)∈cellsOf w h:=pW.2 ⟨hi,hk⟩;have hfl:=aVW (cellsOf w h) (upd L (i,k) out.length);rw[aGS] at hfl;refine lr7 F _ _ _ xs ys rt up f g w h out.length nP hh qD hF hT hU (out++[[]]) L (i,k) hL hf (fun t queue' part' A'=>?_) F 0 (upd L (i,k) out.length) [(i,k)] _ _ (A.set hi hk) rfl (by simp) (iL.init hL hcm hf) (by simp;omega) (by simp;omega);obtain⟨B1,B2,B3⟩:=id A';have b2:=B2 i hi;have b3:=B3 i k hi hk;have hcc:iU (nbs w h f g) L (i,k) out.length (i,k)=some out.length:=by
     unfold iU;rw[if_pos .base]
    rw[hcc] at b3;show aFc _ _ _ _ _ _ _ _ _ _ _ _ _ _ _;unfold aFc;have b4:(part'.getD i default).getD k default=((out.length+1:Nat):Int):=b3;have b5:aC (((out.length+1:Nat):Int)-1)=((out.length:Nat):Int):=by rw[bQ (by omega) (by omega)];omega
    have wR:(out++[[]]).getD out.length default=([]:List aA):=by simp
    simp only[Int.toNat_natCast,e1,e2,er,b4,b5,hlen2,wR,List.length_set,List.length_nil,List.length_singleton,List.nil_append];refine⟨⟨⟨by omega,by omega⟩,by omega,by omega⟩,⟨by omega,by omega⟩,⟨by omega,by omega⟩,⟨by omega,by omega⟩,⟨by omega,by omega⟩,⟨by omega,by omega⟩,⟨by omega,by omega⟩,⟨by omega,by omega⟩,by omega,⟨by omega,by omega⟩,⟨by trivial,by trivial⟩,?_⟩;refine ih (i+1) _ _ (iU (nbs w h f g) L (i,k) out.length) (by omega) (by omega) ?_ A';rw[hnext];unfold lB;simp only[hL,if_true,hcc,Option.getD_some,wR,List.nil_append]
   |some j=>
    rw[hL] at a3;have hjb:=hinv.bound _ _ hL;have lF:cdR (some j)=((j+1:Nat):Int):=rfl;have hm:=hml j;have b5:aC (((j+1:Nat):Int)-1)=((j:Nat):Int):=by rw[bQ (by omega) (by omega)];omega
    rw[lF,show (((j+1:Nat):Int)==0)=false by rw[beq_eq_false_iff_ne];omega,cond_false];simp only[b5,Int.toNat_natCast,List.length_set,List.length_singleton];refine⟨⟨⟨by omega,by omega⟩,by omega,by omega⟩,⟨by omega,by omega⟩,⟨by omega,by omega⟩,⟨by omega,by omega⟩,⟨by omega,by omega⟩,⟨by omega,by omega⟩,⟨by omega,by omega⟩,⟨by omega,by omega⟩,by omega,⟨by omega,by omega⟩,⟨by trivial,by trivial⟩,?_⟩;refine ih (i+1) _ _ L (by omega) (by omega) ?_ A;rw[hnext];unfold lB;simp only[hL,Option.getD_some,reduceCtorEq,if_false]
  ·have e:i=w:=by omega
   subst e;rw[bD (by omega),cond_false];exact hx part out L hrun A
theorem lr5 (F:Nat) (x0:R5) (xs ys:LI) (rt up:LB) (f g:Nat->Nat->Bool) (w h:Nat) (hw:xs.length=w+1) (hh:ys.length=h+1) (nP:w<=1000) (qD:h<=1000) (hF:2000000<F+1) (hwh:h*w<=10000)
  (hbx:∀j,j<xs.length->0<=xs.getD j default/\xs.getD j default<=1048576) (hby:∀j,j<ys.length->0<=ys.getD j default/\ys.getD j default<=1048576)
  (hT:Tab w ys.length rt (fun i j=>f (i+1) j)) (hU:Tab w ys.length up (fun i j=>g i (j+1)))
  (hx:∀part,x0 h xs ys rt up part (vK (nbs w h f g) (gG xs ys) (cellsOf w h))):
  ∀(n k:Nat) (part:zzZ) (out:List (List aA)) (L:Pl->Option Nat),k<=h->h<n+k->jV (nbs w h f g) (gG xs ys) (fL w k 0) (fun _=>none,[])=(L,out)->Arr cdR w h part L->
   rZ F x0 n k xs ys rt up part out:=by
 intro n
 induction n with
 |zero=>intro k part out L h1 h2;omega
 |succ n ih=>
  intro k part out L h1 h2 hrun A;show aF6 _ _ _ _ _ _ _ _ _ _;unfold aF6;have e1:aC ((k:Int)+1)=((k+1:Nat):Int):=by rw[bQ (by omega) (by omega)];omega
  rw[e1]
  by_cases hk:k<h
  ·rw[aW (show ((k+1:Nat):Int)<(ys.length:Int) by omega),cond_true];show uP F (fun t14 t15 aJ aI dB dA cK dV=>aTp (rZ F x0 n) x0 t14 t15 aJ aI dB dA cK dV) F k (0:Nat) xs ys rt up part out;refine lr6 F _ xs ys rt up f g w h hw hh nP qD hF hwh hbx hby hT hU k hk (fun part' out' L' hrun' A'=>?_) F 0 part out L (by omega) (by omega) hrun A;show rZ F x0 n (aC ((k:Int)+1)) xs ys rt up part' out';rw[bX hk (by omega)];rw[aN7] at hrun';exact ih (k+1) part' out' L' (by omega) (by omega) hrun' A'
  ·have e:k=h:=by omega
   subst e;rw[bD (by omega),cond_false];have e2:fL w k 0=cellsOf w k:=by
    unfold fL;simp
   rw[e2] at hrun;have:=hx part;unfold vK at this;rw[hrun] at this;exact this
theorem bKz (w h:Nat) (m n:Nat) (hw:w<=m) (hh:h<=n):Arr cdR w h (List.replicate m (List.replicate n 0)) (fun _=>none):=by
 have e:∀i,i<m->(List.replicate m (List.replicate n (0:Int))).getD i default=List.replicate n 0:=fun i hi=>by
  rw[List.getD_eq_getElem?_getD,List.getElem?_replicate,if_pos hi];rfl
 refine⟨by simpa using hw,fun i hi=>by rw[e i (by omega)];simpa using hh,fun i k hi hk=>?_⟩;rw[e i (by omega),List.getD_eq_getElem?_getD,List.getElem?_replicate,if_pos (by omega)];rfl
theorem bAf {nm mt:ByteArray} {g gr w h:Int} {cl us:List aA} (h1:(iB nm mt g gr w h cl us !=0)=false):1<=w/\w<=1048576/\1<=h/\h<=1048576:=by
 rw[<- aEL] at h1;exact aI5 h1
theorem bCa (qa qb:ByteArray) (qc qd qf qg:Int) (qh qi:List aA) (a1:List Seg) (h:aIv qa qb qc qd qf qg qh qi a1):∃F,∀Q:List (List aA)->Int->Prop,Q ((sK qa qb qc qd qf qg qh qi a1).1) ((sK qa qb qc qd qf qg qh qi a1).2)->aIE F qa qb qc qd qf qg qh qi a1 Q:=by
 refine⟨2000001,fun Q hQ=>?_⟩;generalize hFq:2000001=F;have hF:2000000<F:=by omega
 clear hFq;unfold aIE aKx;unfold sK at hQ;dsimp only;refine⟨h,?_⟩;cases h1:(iB qa qb qc qd qf qg qh qi !=0) with
 |true=>
  rw[h1] at hQ;exact hQ
 |false=>
 rw[h1] at hQ;simp only[cond_false] at hQ ⊢
 by_cases h2:200<(a1.length:Int)
 ·rw[aW h2] at hQ ⊢;exact hQ
 rw[bD h2] at hQ ⊢;simp only[cond_false] at hQ ⊢;obtain⟨w1,w2,w3,w4⟩:=bAf h1;show zZ F (fun t1 t5 t9 aS aR aU aT bB bA aZ bE aJ aI=>aLA Q t1 t5 t9 aS aR aU aT bB bA aZ bE aJ aI) (fun t1 t5 t9 aS aR aU aT bB bA aZ bE aJ aI=>aCT Q t1 t5 t9 aS aR aU aT bB bA aZ bE aJ aI (aJ9 F Q)) F a1 0 (0:Nat) qa qb qc qd qf qg qh qi [0,qf] [0,qg];refine lr0 F _ _ a1 qa qb qc qd qf qg qh qi (by omega) F 0 _ _ (by omega) (by omega) (by simp) (by simp) (fun q j xs ys=>?_) (fun q=>?_)
 ·rw[List.drop_zero] at q;rw[q] at hQ;exact hQ
 rw[List.drop_zero] at q;rw[q] at hQ;simp only[Bool.not_true,cond_false] at hQ;have hok:∀s∈a1,mJ qf qg s:=fun s hs=>aKM.1 (List.all_eq_true.1 q s hs)
 rw[List.drop_zero,bGN w1,bGL w3];show aCT _ _ _ _ _ _ _ _ _ _ _ _ _ _ _;unfold aCT;have gx:=aTZ qf a1;have gy:=aTY qg a1;have px:=aKv qf a1;have py:=aKu qg a1;have ax:=aCQ qf a1;have ay:=aCP qg a1;have mx:=fun x=>wU (w:=qf) (ls:=a1) (x:=x)
 have my:=fun x=>wT (h:=qg) (ls:=a1) (x:=x)
 unfold oH nbG at hQ;generalize gxs qf a1=xs at*;generalize gys qg a1=ys at*;have hxw:∃w:Nat,xs.length=w+1:=⟨xs.length-1,by omega⟩;have hyh:∃w:Nat,ys.length=w+1:=⟨ys.length-1,by omega⟩;obtain⟨w,hw⟩:=hxw;obtain⟨hh,hhh⟩:=hyh;have ew:((xs.length:Int)-1)=(w:Nat):=by omega
 have eh:((ys.length:Int)-1)=(hh:Nat):=by omega
 have ew':xs.length-1=w:=by omega
 have eh':ys.length-1=hh:=by omega
 have hmul:w*hh<=1000*1000:=Nat.mul_le_mul (by omega) (by omega);have emul:(w:Int)*(hh:Int)=((w*hh:Nat):Int):=by push_cast;rfl
 rw[ew,eh,emul,ew',eh'] at hQ;rw[ew,eh,bQ (n:=(w:Int)) (by omega) (by omega),bQ (n:=(hh:Int)) (by omega) (by omega),emul,bQ (by omega) (by omega)];dsimp only
 by_cases h3:6000<((w*hh:Nat):Int)
 ·rw[aW h3] at hQ ⊢;exact hQ
 rw[bD h3] at hQ ⊢;simp only[cond_false] at hQ ⊢;have hls:∀s∈a1,mJ qf qg s/\s.X1∈xs/\s.X2∈xs/\s.Y1∈ys/\s.Y2∈ys:=fun s hs=>
  ⟨hok s hs,(mx _).2 (.inr (.inr ⟨s,hs,.inl rfl⟩)),(mx _).2 (.inr (.inr ⟨s,hs,.inr rfl⟩)),(my _).2 (.inr (.inr ⟨s,hs,.inl rfl⟩)),(my _).2 (.inr (.inr ⟨s,hs,.inr rfl⟩))⟩
 have hbx:∀j,j<xs.length->0<=xs.getD j default/\xs.getD j default<=1048576:=fun j hj=>by
  rcases(mx _).1 (aF1 hj) with e|e|⟨s,hs,e⟩
  ·omega
  ·omega
  ·have:=(hok s hs).1;omega
 have hby:∀j,j<ys.length->0<=ys.getD j default/\ys.getD j default<=1048576:=fun j hj=>by
  rcases(my _).1 (aF1 hj) with e|e|⟨s,hs,e⟩
  ·omega
  ·omega
  ·have:=(hok s hs).1;omega
 show zY F (fun t6 qbi aJ aI qae qaf qag=>aKz Q t6 qbi aJ aI qae qaf qag (aJ8 F Q)) F (0:Nat) a1 xs ys (List.replicate 0 (List.replicate ys.length false)) (List.replicate 0 (List.replicate ys.length false)) (List.replicate 0 (List.replicate ys.length 0));refine lr1 F _ a1 xs ys w hw (by omega) (by omega) ?_ F 0 (by omega) (by omega);show mC F (fun t1 t12 aJ aI dB dA cK=>aKy Q t1 t12 aJ aI dB dA cK (aJ7 F Q)) F a1 (0:Nat) xs ys _ _ _;refine lr2 F _ a1 (by omega) qf qg xs ys w hw (by omega) (by omega) ax ay (by omega) _ hls (fun rt up hT hU=>?_) F 0 _ _ (by omega) (by omega) (Tab.rep _ _) (Tab.rep _ _);show rZ F (fun t14 aJ aI dB dA cK dV=>aTq Q t14 aJ aI dB dA cK dV) F (0:Nat) xs ys rt up _ [];refine lr5 F _ xs ys rt up _ _ w hh hw hhh (by omega) (by omega) (by omega) (by rw[Nat.mul_comm];omega) hbx hby hT hU (fun part=>?_) F 0 _ [] (fun _=>none) (by omega) (by omega) ?_ (bKz w hh _ _ (by omega) (by omega))
 ·exact hQ
 ·unfold fL cellsOf;rfl
def zC:Nat->Nat->Nat->Canon UU:=fun o b r=>cond (Nat.beq b 0) ⟨[0,1,4,5],[],[],[],[]⟩ (⟨[],[],[],[],[]⟩)
def aLH (a0 a1:List aA) (Q:Bool->Prop) (i0:List aA->List aA->Bool->Int->Prop):Prop:=cond ((a0.length:Int) !=(a1.length:Int)) (Q false) (i0 a0 a1 false 0)
def aAJ (rec:List aA->List aA->Bool->Int->Prop) (x0:List aA->List aA->Bool->Int->Prop) (x1:List aA->List aA->Bool->Int->Prop) (t0 t1:List aA) (t4:Bool) (t5:Int):Prop:=cond (decide (t5<(t0.length:Int))) ((let e0:=(t0.getD t5.toNat default);((0<=t5/\t5<t0.length)/\(let e1:=(t1.getD t5.toNat default);((0<=t5/\t5<t1.length)/\cond (!((e0.X==e1.X)&&((e0.Y==e1.Y)&&((e0.W==e1.W)&&((e0.H==e1.H)&&true))))) (x0 t0 t1 false t5) (rec t0 t1 t4 (aC (t5+1)))))))) (x1 t0 t1 t4 t5)
def aUM (Q:Bool->Prop) (t0 t1:List aA) (t4:Bool) (t5:Int):Prop:=Q t4
def aUL (Q:Bool->Prop) (t0 t1:List aA) (t4:Bool) (t5:Int):Prop:=Q true
def aDZ (F:Nat) (x0:List aA->List aA->Bool->Int->Prop) (x1:List aA->List aA->Bool->Int->Prop):Nat->List aA->List aA->Bool->Int->Prop
 |0,_,_,_,_=>False
 |n+1,t0,t1,t4,t5=>aAJ (aDZ F x0 x1 n) x0 x1 t0 t1 t4 t5
def aOE (F:Nat) (Q:Bool->Prop) (t0 t1:List aA) (t4:Bool) (t5:Int):Prop:=aDZ F (fun t0 t1 t4 t5=>aUM Q t0 t1 t4 t5) (fun t0 t1 t4 t5=>aUL Q t0 t1 t4 t5) F t0 t1 t4 t5
def aIH (F:Nat) (a0 a1:List aA) (Q:Bool->Prop):Prop:=aLH a0 a1 Q (aOE F Q)
open Classical in
def eqB {α:Type} (a b:α):Bool:=decide (a=b)
open Classical in
theorem tM {α:Type} {a b:α}:eqB a b=true↔a=b:=by unfold eqB;rw[decide_eq_true_eq]
theorem bHs {α:Type} (a:α):eqB a a=true:=tM.2 rfl
def aIy (a b:List aA):Prop:=a.length<=2000000
def aDs (a b:List aA):Bool:=eqB a b
theorem aVb (r s:aA):((r.X==s.X)&&((r.Y==s.Y)&&((r.W==s.W)&&((r.H==s.H)&&true))))=eqB r s:=by
 rw[Bool.eq_iff_iff,tM];obtain⟨a,b,c,d⟩:=r;obtain⟨a',b',c',d'⟩:=s;simp only[Bool.and_eq_true,beq_iff_eq,and_true,aA.mk.injEq]
theorem aVa {α:Type} [Inhabited α] (a b:List α) (hab:a.length=b.length) (hl:a.length<=2000000) (W:Nat->Int->Prop) (X Y:Int->Prop)
  (hs:∀n i,i<a.length->(W (n+1) (i:Nat)↔cond (!(eqB (a.getD i default) (b.getD i default))) (X (i:Nat)) (W n ((i+1:Nat):Int)))) (he:∀n,W (n+1) (a.length:Nat)↔Y (a.length:Nat))
  (hX:eqB a b=false->∀j,X j) (hY:eqB a b=true->Y (a.length:Nat)):∀(n i:Nat),i<=a.length->a.length<n+i->a.take i=b.take i->W n (i:Nat):=by
 intro n
 induction n with
 |zero=>intro i h1 h2;omega
 |succ n ih=>
  intro i h1 h2 h3
  by_cases h:i<a.length
  ·rw[hs n i h];cases q:eqB (a.getD i default) (b.getD i default) with
   |false=>
    refine hX ?_ _;cases z:eqB a b with
    |false=>rfl
    |true=>
     rw[tM.1 z,bHs] at q;cases q
   |true=>
    refine ih (i+1) (by omega) (by omega) ?_;rw[List.take_add_one,List.take_add_one,h3];have e:=tM.1 q;rw[List.getD_eq_getElem?_getD,List.getD_eq_getElem?_getD,List.getElem?_eq_getElem h,List.getElem?_eq_getElem (show i<b.length by omega)] at e;rw[List.getElem?_eq_getElem h,List.getElem?_eq_getElem (show i<b.length by omega)];simp only[Option.getD_some] at e;rw[e]
  ·have e:i=a.length:=by omega
   subst e;rw[he n];refine hY (tM.2 ?_);rw[List.take_length,hab,List.take_length] at h3;exact h3
theorem aVc {α:Type} {a b:List α} (h:a.length≠b.length):eqB a b=false:=by
 cases z:eqB a b with
 |false=>rfl
 |true=>exact absurd (congrArg List.length (tM.1 z)) h
theorem bCg (a0 a1:List aA) (h:aIy a0 a1):∃F,∀Q:Bool->Prop,Q (aDs a0 a1)->aIH F a0 a1 Q:=by
 have hl:a0.length<=2000000:=h;refine⟨a0.length+1,fun Q hQ=>?_⟩;unfold aIH aLH;unfold aDs at hQ
 by_cases hab:a0.length=a1.length
 ·rw[show ((a0.length:Int) !=(a1.length:Int))=false by rw[bne_eq_false_iff_eq];omega,cond_false];refine aVa a0 a1 hab hl (fun n i=>aDZ (a0.length+1) (fun t0 t1 t4 t5=>aUM Q t0 t1 t4 t5) (fun t0 t1 t4 t5=>aUL Q t0 t1 t4 t5) n a0 a1 false i) (fun j=>Q false) (fun j=>Q true) (fun n i hi=>?_) (fun n=>?_) (fun q j=>by rw[q] at hQ;exact hQ) (fun q=>by rw[q] at hQ;exact hQ) (a0.length+1) 0 (by omega) (by omega) rfl
  ·show aAJ _ _ _ _ _ _ _↔_;unfold aAJ;rw[aW (show (i:Int)<(a0.length:Int) by omega),cond_true];simp only[Int.toNat_natCast,aVb];rw[bX hi (by omega)];exact⟨fun z=>z.2.2,fun z=>⟨⟨by omega,by omega⟩,⟨by omega,by omega⟩,z⟩⟩
  ·show aAJ _ _ _ _ _ _ _↔_;unfold aAJ;rw[bD (by omega),cond_false];exact Iff.rfl
 ·rw[show ((a0.length:Int) !=(a1.length:Int))=true by rw[bne_iff_ne];omega,cond_true];rw[aVc hab] at hQ;exact hQ
def kZ (a0 a1 a2 a3:Int):Int×Int×Int×Int×Bool:=cond (((a0==a2)&&(a1==a3))||((a0 !=a2)&&(a1 !=a3))) ((0,0,0,0,false)) ((mi a0 a2,mi a1 a3,ma a0 a2,ma a1 a3,true))
def aDz (qo qm qt qn bL bK cC cD:Int):Bool:=cond (qm==qn) (((((decide (bK<qm))&&(decide (qm<(aC (bK+cD)))))&&(decide (qo<(aC (bL+cC)))))&&(decide (bL<qt)))) (((((decide (bL<qo))&&(decide (qo<(aC (bL+cC)))))&&(decide (qm<(aC (bK+cD)))))&&(decide (bK<qn))))
def vG (aE aD aG aF bL bK cC cD:Int):Bool:=((((((iW aE aD aG aF)&&(iW bL bK cC cD))&&(decide (aE<(aC (bL+cC)))))&&(decide (bL<(aC (aE+aG)))))&&(decide (aD<(aC (bK+cD)))))&&(decide (bK<(aC (aD+aF)))))
def vH (aE aD aG aF bL bK cC cD:Int):Int:=cond ((!(iW aE aD aG aF))||(!(iW bL bK cC cD))) (0) (ma (ma (ma (ma 0 (aC ((aC (bL-aE))-aG))) (aC ((aC (aE-bL))-cC))) (aC ((aC (bK-aD))-aF))) (aC ((aC (aD-bK))-cD)))
def aNH (aE aD aG aF bL bK cC cD:Int):Bool:=((((aC ((mi (aC (aE+aG)) (aC (bL+cC)))-(ma aE bL)))==0)&&(decide (0<(aC ((mi (aC (aD+aF)) (aC (bK+cD)))-(ma aD bK))))))||(((aC ((mi (aC (aD+aF)) (aC (bK+cD)))-(ma aD bK)))==0)&&(decide (0<(aC ((mi (aC (aE+aG)) (aC (bL+cC)))-(ma aE bL)))))))
def aBF (aE aD aG aF bL bK cC cD:Int):Int:=aC ((ma (aC ((mi (aC (aE+aG)) (aC (bL+cC)))-(ma aE bL))) 0)*(ma (aC ((mi (aC (aD+aF)) (aC (bK+cD)))-(ma aD bK))) 0))
def aBE (aE aD aG aF bL bK cC cD:Int):Bool:=((((((gK aE aD aG aF)&&(gK bL bK cC cD))&&(decide (aE<(aC (bL+cC)))))&&(decide (bL<(aC (aE+aG)))))&&(decide (aD<(aC (bK+cD)))))&&(decide (bK<(aC (aD+aF)))))
def o4 (aE aD aG aF bL bK cC cD:Int):Int:=cond ((!(gK aE aD aG aF))||(!(gK bL bK cC cD))) (0) (ma (ma (ma 0 (aC ((aC (aE-bL))-cC))) (aC ((aC (bL-aE))-aG))) (ma (ma 0 (aC ((aC (aD-bK))-cD))) (aC ((aC (bK-aD))-aF))))
def aNG (aE aD aG aF bL bK cC cD:Int):Bool:=((((aC ((mi (aC (aE+aG)) (aC (bL+cC)))-(ma aE bL)))==0)&&(decide (0<(aC ((mi (aC (aD+aF)) (aC (bK+cD)))-(ma aD bK))))))||(((aC ((mi (aC (aD+aF)) (aC (bK+cD)))-(ma aD bK)))==0)&&(decide (0<(aC ((mi (aC (aE+aG)) (aC (bL+cC)))-(ma aE bL)))))))
def oV:Nat->Nat->Nat->Canon UU:=fun o b r=>cond (Nat.beq b 0) ⟨[0,3,4,5],[],[(.tmp 3,119,.seg)],[],[]⟩ (cond (Nat.beq b 2) ⟨[0,3,4,5,6],[],[(.tmp 3,119,.seg)],[],[]⟩ (cond (Nat.beq b 4) ⟨[3,4,8],[],[(.tmp 3,119,.seg),(.tmp 4,120,.seg)],[],[]⟩ (⟨[],[],[],[],[]⟩)))
def aVA (a0:List Seg) (Q:List Seg->Prop) (i0:List Seg->Int->List Seg->Prop):Prop:=i0 a0 0 ([])
def aFz (rec:List Seg->Int->List Seg->Prop) (x0:List Seg->Int->List Seg->Prop) (t0:List Seg) (t5:Int) (bS:List Seg) (i1:List Seg->Int->Int->List Seg->Prop):Prop:=cond (decide (t5<(t0.length:Int))) ((let e0:=(t0.getD t5.toNat default);(((0<=t5/\t5<t0.length)/\((bS.length+([e0]).length)*32<=140737488355328))/\i1 t0 t5 (aC (((bS++([e0])).length:Int)-1)) (bS++([e0]))))) (x0 t0 t5 bS)
def aVC (Q:List Seg->Prop) (t0:List Seg) (t5:Int) (bS:List Seg) (i2:Int->List Seg->List Seg->Prop):Prop:=i2 0 bS ([])
def aFy (rec:List Seg->Int->Int->List Seg->Prop) (x0:List Seg->Int->Int->List Seg->Prop) (t0:List Seg) (t5 t6:Int) (bS:List Seg):Prop:=cond (decide (0<t6)) (((0<=t6/\t6<bS.length)/\((0<=(aC (t6-1))/\(aC (t6-1))<bS.length)/\(let r0:=(n9 ((bS.getD t6.toNat default).X1) ((bS.getD t6.toNat default).Y1) ((bS.getD t6.toNat default).X2) ((bS.getD t6.toNat default).Y2) ((bS.getD ((aC (t6-1)).toNat) default).X1) ((bS.getD ((aC (t6-1)).toNat) default).Y1) ((bS.getD ((aC (t6-1)).toNat) default).X2) ((bS.getD ((aC (t6-1)).toNat) default).Y2));cond r0 (((0<=t6/\t6<bS.length)/\(((0<=(aC (t6-1))/\(aC (t6-1))<bS.length)/\(0<=t6/\t6<bS.length))/\((0<=(aC (t6-1))/\(aC (t6-1))<(bS.set t6.toNat (bS.getD ((aC (t6-1)).toNat) default)).length)/\rec t0 t5 (aC (t6-1)) ((bS.set t6.toNat (bS.getD ((aC (t6-1)).toNat) default)).set ((aC (t6-1)).toNat) (bS.getD t6.toNat default)))))) (x0 t0 t5 t6 bS))))) (x0 t0 t5 t6 bS)
def aVB (rec:List Seg->Int->List Seg->Prop) (x0:List Seg->Int->List Seg->Prop) (t0:List Seg) (t5 t6:Int) (bS:List Seg):Prop:=rec t0 (aC (t5+1)) bS
def aFx (rec:Int->List Seg->List Seg->Prop) (x0:Int->List Seg->List Seg->Prop) (t8:Int) (bS bP:List Seg):Prop:=cond (decide (t8<(bS.length:Int))) (cond (decide (0<=(aC ((bP.length:Int)-1)))) (((0<=(aC ((bP.length:Int)-1))/\(aC ((bP.length:Int)-1))<bP.length)/\((0<=t8/\t8<bS.length)/\(let r0:=(o0 ((bP.getD ((aC ((bP.length:Int)-1)).toNat) default).X1) ((bP.getD ((aC ((bP.length:Int)-1)).toNat) default).Y1) ((bP.getD ((aC ((bP.length:Int)-1)).toNat) default).X2) ((bP.getD ((aC ((bP.length:Int)-1)).toNat) default).Y2) ((bS.getD t8.toNat default).X1) ((bS.getD t8.toNat default).Y1) ((bS.getD t8.toNat default).X2) ((bS.getD t8.toNat default).Y2));cond r0 (((0<=(aC ((bP.length:Int)-1))/\(aC ((bP.length:Int)-1))<bP.length)/\(let v1:=(bP.getD ((aC ((bP.length:Int)-1)).toNat) default).X2;((0<=t8/\t8<bS.length)/\((0<=(aC ((bP.length:Int)-1))/\(aC ((bP.length:Int)-1))<bP.length)/\((0<=(aC ((bP.length:Int)-1))/\(aC ((bP.length:Int)-1))<(bP.set ((aC ((bP.length:Int)-1)).toNat) (Seg.mk ((bP.getD ((aC ((bP.length:Int)-1)).toNat) default).X1) ((bP.getD ((aC ((bP.length:Int)-1)).toNat) default).Y1) (ma v1 ((bS.getD t8.toNat default).X2)) ((bP.getD ((aC ((bP.length:Int)-1)).toNat) default).Y2))).length)/\(let v2:=((bP.set ((aC ((bP.length:Int)-1)).toNat) (Seg.mk ((bP.getD ((aC ((bP.length:Int)-1)).toNat) default).X1) ((bP.getD ((aC ((bP.length:Int)-1)).toNat) default).Y1) (ma v1 ((bS.getD t8.toNat default).X2)) ((bP.getD ((aC ((bP.length:Int)-1)).toNat) default).Y2))).getD ((aC ((bP.length:Int)-1)).toNat) default).Y2;((0<=t8/\t8<bS.length)/\((0<=(aC ((bP.length:Int)-1))/\(aC ((bP.length:Int)-1))<(bP.set ((aC ((bP.length:Int)-1)).toNat) (Seg.mk ((bP.getD ((aC ((bP.length:Int)-1)).toNat) default).X1) ((bP.getD ((aC ((bP.length:Int)-1)).toNat) default).Y1) (ma v1 ((bS.getD t8.toNat default).X2)) ((bP.getD ((aC ((bP.length:Int)-1)).toNat) default).Y2))).length)/\rec (aC (t8+1)) bS ((bP.set ((aC ((bP.length:Int)-1)).toNat) (Seg.mk ((bP.getD ((aC ((bP.length:Int)-1)).toNat) default).X1) ((bP.getD ((aC ((bP.length:Int)-1)).toNat) default).Y1) (ma v1 ((bS.getD t8.toNat default).X2)) ((bP.getD ((aC ((bP.length:Int)-1)).toNat) default).Y2))).set ((aC ((bP.length:Int)-1)).toNat) (Seg.mk (((bP.set ((aC ((bP.length:Int)-1)).toNat) (Seg.mk ((bP.getD ((aC ((bP.length:Int)-1)).toNat) default).X1) ((bP.getD ((aC ((bP.length:Int)-1)).toNat) default).Y1) (ma v1 ((bS.getD t8.toNat default).X2)) ((bP.getD ((aC ((bP.length:Int)-1)).toNat) default).Y2))).getD ((aC ((bP.length:Int)-1)).toNat) default).X1) (((bP.set ((aC ((bP.length:Int)-1)).toNat) (Seg.mk ((bP.getD ((aC ((bP.length:Int)-1)).toNat) default).X1) ((bP.getD ((aC ((bP.length:Int)-1)).toNat) default).Y1) (ma v1 ((bS.getD t8.toNat default).X2)) ((bP.getD ((aC ((bP.length:Int)-1)).toNat) default).Y2))).getD ((aC ((bP.length:Int)-1)).toNat) default).Y1) (((bP.set ((aC ((bP.length:Int)-1)).toNat) (Seg.mk ((bP.getD ((aC ((bP.length:Int)-1)).toNat) default).X1) ((bP.getD ((aC ((bP.length:Int)-1)).toNat) default).Y1) (ma v1 ((bS.getD t8.toNat default).X2)) ((bP.getD ((aC ((bP.length:Int)-1)).toNat) default).Y2))).getD ((aC ((bP.length:Int)-1)).toNat) default).X2) (ma v2 ((bS.getD t8.toNat default).Y2))))))))))))) ((((0<=t8/\t8<bS.length)/\((bP.length+([(bS.getD t8.toNat default)]).length)*32<=140737488355328))/\rec (aC (t8+1)) bS (bP++([(bS.getD t8.toNat default)])))))))) ((((0<=t8/\t8<bS.length)/\((bP.length+([(bS.getD t8.toNat default)]).length)*32<=140737488355328))/\rec (aC (t8+1)) bS (bP++([(bS.getD t8.toNat default)]))))) (x0 t8 bS bP)
def bGc (Q:List Seg->Prop) (t8:Int) (bS bP:List Seg):Prop:=Q bP
def aDe (F:Nat) (x0:List Seg->Int->Int->List Seg->Prop):Nat->List Seg->Int->Int->List Seg->Prop
 |0,_,_,_,_=>False
 |n+1,t0,t5,t6,bS=>aFy (aDe F x0 n) x0 t0 t5 t6 bS
def aEw (F:Nat) (rec:List Seg->Int->List Seg->Prop) (x0:List Seg->Int->List Seg->Prop) (t0:List Seg) (t5 t6:Int) (bS:List Seg):Prop:=aDe F (fun t0 t5 t6 bS=>aVB rec x0 t0 t5 t6 bS) F t0 t5 t6 bS
def aAv (F:Nat) (x0:Int->List Seg->List Seg->Prop):Nat->Int->List Seg->List Seg->Prop
 |0,_,_,_=>False
 |n+1,t8,bS,bP=>aFx (aAv F x0 n) x0 t8 bS bP
def aOS (F:Nat) (Q:List Seg->Prop) (t8:Int) (bS bP:List Seg):Prop:=aAv F (fun t8 bS bP=>bGc Q t8 bS bP) F t8 bS bP
def pE (F:Nat) (x0:List Seg->Int->List Seg->Prop):Nat->List Seg->Int->List Seg->Prop
 |0,_,_,_=>False
 |n+1,t0,t5,bS=>aFz (pE F x0 n) x0 t0 t5 bS (aEw F (pE F x0 n) x0)
def aOT (F:Nat) (Q:List Seg->Prop) (t0:List Seg) (t5:Int) (bS:List Seg):Prop:=pE F (fun t0 t5 bS=>aVC Q t0 t5 bS (aOS F Q)) F t0 t5 bS
def aMo (F:Nat) (a0:List Seg) (Q:List Seg->Prop):Prop:=aVA a0 Q (aOT F Q)
def aJI (l:List Seg):Prop:=l.length<=2000000
theorem bFC (F:Nat) (x0:List Seg->Int->Int->List Seg->Prop) (t0:List Seg) (t5:Int) (x:Seg):∀(n:Nat) (ra b:List Seg),ra.length<n->ra.length+b.length<=2000000->(∀j,x0 t0 t5 j (ins ra.reverse x++b))->
  aDe F x0 n t0 t5 (ra.length:Int) (ra.reverse++x::b):=by
 intro n
 induction n with
 |zero=>intro ra b h;omega
 |succ n ih=>
  intro ra b hn hb hx;show aFy _ _ _ _ _ _;unfold aFy;cases ra with
  |nil=>
   rw[bD (by simp),cond_false];exact hx _
  |cons y r=>
   have hlen:(y::r).length=r.length+1:=rfl;rw[hlen] at hn hb;rw[aW (by rw[hlen];omega),cond_true];have e1:aC (((y::r).length:Int)-1)=(r.length:Int):=by
    rw[aDl (by rw[hlen];omega) (by rw[hlen];omega)];rfl
   rw[e1];have e2:(y::r).reverse++x::b=r.reverse++y::x::b:=by simp
   have g1:((y::r).reverse++x::b).getD ((y::r).length:Int).toNat default=x:=by
    rw[Int.toNat_natCast];have:=aAH (y::r).reverse x b;rwa [List.length_reverse] at this
   have g2:((y::r).reverse++x::b).getD (r.length:Int).toNat default=y:=by
    rw[Int.toNat_natCast,e2];have:=aAH r.reverse y (x::b);rwa [List.length_reverse] at this
   have hL:((y::r).reverse++x::b).length=r.length+2+b.length:=by simp;omega
   refine⟨⟨by omega,by rw[hL,hlen];omega⟩,⟨by omega,by rw[hL];omega⟩,?_⟩;rw[g1,g2];have hs:=bFn r.reverse y x;rw[<- List.reverse_cons] at hs;show cond (nJ x y) _ _;cases hc:nJ x y with
   |false=>
    rw[hc] at hs;rw[cond_false];have:=hx ((y::r).length:Int);rw[hs] at this;simpa using this
   |true=>
    rw[hc] at hs;rw[cond_true];have s1:((y::r).reverse++x::b).set ((y::r).length:Int).toNat y=(y::r).reverse++y::b:=by
     rw[Int.toNat_natCast];have:=p8 (y::r).reverse x y b;rwa [List.length_reverse] at this
    have s2:((y::r).reverse++y::b).set (r.length:Int).toNat x=r.reverse++x::(y::b):=by
     have e3:(y::r).reverse++y::b=r.reverse++y::(y::b):=by simp
     rw[Int.toNat_natCast,e3];have:=p8 r.reverse y x (y::b);rwa [List.length_reverse] at this
    rw[s1,s2];refine⟨⟨by omega,by rw[hL,hlen];omega⟩,⟨⟨by omega,by rw[hL];omega⟩,⟨by omega,by rw[hL,hlen];omega⟩⟩,⟨by omega,by simp;omega⟩,?_⟩;refine ih r (y::b) (by omega) (by simp;omega) (fun j=>?_);have:=hx j;rw[hs] at this;simpa using this
theorem bFB (F:Nat) (x0:Int->List Seg->List Seg->Prop) (l:List Seg) (hl:l.length<=2000000):∀(n i:Nat) (out:List Seg),i<=l.length->l.length<n+i->out.length<=i->x0 l.length l ((l.drop i).foldl eV out)->
  aAv F x0 n i l out:=by
 intro n
 induction n with
 |zero=>intro i out h1 h2;omega
 |succ n ih=>
  intro i out h1 h2 ho hx;show aFx _ _ _ _ _;unfold aFx
  by_cases h:i<l.length
  ·rw[aW (show (i:Int)<l.length by omega),cond_true,Int.toNat_natCast,bX h (by omega)];rw[iJ l i h,List.foldl_cons] at hx;generalize l.getD i default=x at hx ⊢;rcases List.eq_nil_or_concat out with rfl|⟨a,y,rfl⟩
   ·rw[bD (by decide),cond_false];refine⟨⟨⟨by omega,by omega⟩,by simp⟩,?_⟩;exact ih (i+1) _ (by omega) (by omega) (by simp) hx
   ·rw[List.concat_eq_append] at ho hx ⊢;have hlo:(a++[y]).length=a.length+1:=by simp
    rw[hlo] at ho;have e1:aC (((a++[y]).length:Int)-1)=(a.length:Int):=by
     rw[aDl (by rw[hlo];omega) (by rw[hlo];omega),hlo];rfl
    rw[e1,aW (show (0:Int)<=(a.length:Int) by omega),cond_true];have g1:(a++[y]).getD (a.length:Int).toNat default=y:=by rw[Int.toNat_natCast];exact aAH a y []
    rw[g1];refine⟨⟨by omega,by rw[hlo];omega⟩,⟨by omega,by omega⟩,?_⟩;have hs:=aOW a y x;show cond (eW y x) _ _;cases hc:eW y x with
    |false=>
     rw[hc] at hs;rw[hs] at hx;rw[cond_false];refine⟨⟨⟨by omega,by omega⟩,by simp;omega⟩,?_⟩;refine ih (i+1) _ (by omega) (by omega) (by simp;omega) ?_;simpa using hx
    |true=>
     rw[hc] at hs;rw[hs] at hx;rw[cond_true];have s1:∀z:Seg,(a++[y]).set (a.length:Int).toNat z=a++[z]:=fun z=>by rw[Int.toNat_natCast];exact p8 a y z []
     have g2:∀z:Seg,(a++[z]).getD (a.length:Int).toNat default=z:=fun z=>by rw[Int.toNat_natCast];exact aAH a z []
     have s2:∀z u:Seg,(a++[z]).set (a.length:Int).toNat u=a++[u]:=fun z u=>by rw[Int.toNat_natCast];exact p8 a z u []
     simp only[s1,g2,s2];have hr:∀z:Seg,0<=(a.length:Int)/\(a.length:Int)<((a++[z]).length:Int):=fun z=>⟨by omega,by simp;omega⟩
     refine⟨hr _,⟨by omega,by omega⟩,hr _,hr _,⟨by omega,by omega⟩,hr _,?_⟩;exact ih (i+1) _ (by omega) (by omega) (by simp;omega) hx
  ·have e:i=l.length:=by omega
   subst e;rw[bD (by omega),cond_false];rw[List.drop_length] at hx;exact hx
theorem bFA (F:Nat) (x0:List Seg->Int->List Seg->Prop) (l:List Seg) (hl:l.length<=2000000) (hF:l.length+1<F):∀(n i:Nat) (out:List Seg),i<=l.length->l.length<n+i->out.length=i->x0 l l.length ((l.drop i).foldl ins out)->
  pE F x0 n l i out:=by
 intro n
 induction n with
 |zero=>intro i out h1 h2;omega
 |succ n ih=>
  intro i out h1 h2 ho hx;show aFz _ _ _ _ _ _;unfold aFz
  by_cases h:i<l.length
  ·rw[aW (show (i:Int)<l.length by omega),cond_true,Int.toNat_natCast];rw[iJ l i h,List.foldl_cons] at hx;generalize l.getD i default=x at hx ⊢;refine⟨⟨⟨by omega,by omega⟩,by simp;omega⟩,?_⟩;have e1:aC (((out++[x]).length:Int)-1)=(out.reverse.length:Int):=by
    rw[aDl (by simp) (by simp;omega)];simp
   show aEw F _ _ l i (aC (((out++[x]).length:Int)-1)) (out++[x]);rw[e1];unfold aEw;have:=bFC F (fun t0 t5 t6 bS=>aVB (pE F x0 n) x0 t0 t5 t6 bS) l i x F out.reverse [] (by simp;omega) (by simp;omega) (fun j=>?_)
   ·rwa [List.reverse_reverse] at this
   ·show pE F x0 n l (aC ((i:Int)+1)) (ins out.reverse.reverse x++[]);rw[List.reverse_reverse,List.append_nil,bX h (by omega)];exact ih (i+1) _ (by omega) (by omega) (by rw[aTO];omega) hx
  ·have e:i=l.length:=by omega
   subst e;rw[bD (by omega),cond_false];rw[List.drop_length] at hx;exact hx
theorem bDA (a0:List Seg) (h:aJI a0):∃F,∀Q:List Seg->Prop,Q (k9 a0)->aMo F a0 Q:=by
 refine⟨a0.length+2,fun Q hQ=>?_⟩;show pE (a0.length+2) _ (a0.length+2) a0 ((0:Nat):Int) [];refine bFA (a0.length+2) _ a0 h (by omega) (a0.length+2) 0 [] (by omega) (by omega) rfl ?_;show aAv (a0.length+2) _ (a0.length+2) ((0:Nat):Int) (z7 a0) [];have hi:=bFb a0;have h':a0.length<=2000000:=h;refine bFB (a0.length+2) _ (z7 a0) (by omega) (a0.length+2) 0 [] (by omega) (by omega) (by simp) ?_;exact hQ
def qM:Nat->Nat->Nat->Canon UU:=fun o b r=>cond (Nat.beq b 0) ⟨[1,2,4,5,7,8,9,10],[2,4,7],[(.cell 7 1,132,.rect),(.cell 7 0,133,.seg)],[],[]⟩ (cond (Nat.beq b 2) ⟨[1,2,4,5,7,10,11,13,15],[2,4,7,11,13],[(.cell 7 1,132,.rect),(.cell 7 0,133,.seg)],[],[]⟩ (⟨[],[],[],[],[]⟩))
def aKw (qa qb:ByteArray) (qc qd qf qg:Int) (qh qi:List aA) (a1:List Opn) (Q:List Seg->List aA->Int->Prop) (i0:List Opn->Int->Int->Int->Int->ByteArray->ByteArray->Int->Int->Int->Int->List aA->List aA->List aA->List Seg->Prop):Prop:=(let r0:=(iB qa qb qc qd qf qg qh qi);((pS qa qb qc qd qf qg qh qi)/\cond (r0 !=0) (Q ([]) ([]) r0) (cond (decide (4000<(a1.length:Int))) (Q ([]) ([]) 4) (i0 a1 0 0 0 0 qa qb qc qd qf qg qh qi ([]) ([])))))
def aF2 (rec:List Opn->Int->Int->Int->Int->ByteArray->ByteArray->Int->Int->Int->Int->List aA->List aA->List aA->List Seg->Prop) (x0:List Opn->Int->Int->Int->Int->ByteArray->ByteArray->Int->Int->Int->Int->List aA->List aA->List aA->List Seg->Prop) (x1:List Opn->Int->Int->Int->Int->ByteArray->ByteArray->Int->Int->Int->Int->List aA->List aA->List aA->List Seg->Prop) (x2:List Opn->Int->Int->ByteArray->ByteArray->Int->Int->Int->Int->List aA->List aA->List aA->List Seg->Prop) (t1:List Opn) (t5 t8 t9 t10:Int) (aS aR:ByteArray) (aU aT bB bA:Int) (aZ bE dI:List aA) (dF:List Seg) (i1:List Opn->Int->Int->Int->ByteArray->ByteArray->Int->Int->Int->Int->List aA->List aA->Int->Int->Int->Int->Int->Int->Int->Int->Int->Int->List aA->List Seg->Prop):Prop:=cond (decide (t10<(t1.length:Int))) ((let e0:=(t1.getD t10.toNat default);((0<=t10/\t10<t1.length)/\cond (e0.Kind==3) ((let r1:=(lN e0.X e0.Y e0.W e0.H 0 0 bB bA);cond (!r1) (x0 t1 16 t8 t9 t10 aS aR aU aT bB bA aZ bE dI dF) ((((dI.length+([(aA.mk e0.X e0.Y e0.W e0.H)]).length)*32<=140737488355328)/\rec t1 t5 t8 t9 (aC (t10+1)) aS aR aU aT bB bA aZ bE (dI++([(aA.mk e0.X e0.Y e0.W e0.H)])) dF)))) ((let r2:=(pH aS aR aU aT bB bA aZ bE e0.X e0.Y);cond ((((e0.Kind !=1)&&(e0.Kind !=2))&&(e0.Kind !=4))||(!r2)) (x0 t1 16 t8 t9 t10 aS aR aU aT bB bA aZ bE dI dF) (cond (e0.Kind !=1) ((let r3:=(kZ t8 t9 e0.X e0.Y);cond (!r3.2.2.2.2) (x0 t1 16 t8 t9 t10 aS aR aU aT bB bA aZ bE dI dF) (i1 t1 t5 t10 0 aS aR aU aT bB bA aZ bE e0.Kind e0.X e0.Y e0.W e0.H e0.N r3.1 r3.2.1 r3.2.2.1 r3.2.2.2.1 dI dF))) (rec t1 t5 e0.X e0.Y (aC (t10+1)) aS aR aU aT bB bA aZ bE dI dF))))))) (x1 t1 t5 t8 t9 t10 aS aR aU aT bB bA aZ bE dI dF)
def bG2 (Q:List Seg->List aA->Int->Prop) (t1:List Opn) (t5 t8 t9 t10:Int) (aS aR:ByteArray) (aU aT bB bA:Int) (aZ bE dI:List aA) (dF:List Seg):Prop:=Q ([]) ([]) t5
def bG1 (Q:List Seg->List aA->Int->Prop) (t1:List Opn) (t5 t8 t9 t10:Int) (aS aR:ByteArray) (aU aT bB bA:Int) (aZ bE dI:List aA) (dF:List Seg):Prop:=((aJI dF)/\Q (k9 dF) dI 0)
def bG0 (Q:List Seg->List aA->Int->Prop) (t1:List Opn) (t5 t10:Int) (aS aR:ByteArray) (aU aT bB bA:Int) (aZ bE dI:List aA) (dF:List Seg):Prop:=Q ([]) ([]) t5
def aTc (rec:List Opn->Int->Int->Int->ByteArray->ByteArray->Int->Int->Int->Int->List aA->List aA->Int->Int->Int->Int->Int->Int->Int->Int->Int->Int->List aA->List Seg->Prop) (x0:List Opn->Int->Int->Int->ByteArray->ByteArray->Int->Int->Int->Int->List aA->List aA->Int->Int->Int->Int->Int->Int->Int->Int->Int->Int->List aA->List Seg->Prop) (x1:List Opn->Int->Int->Int->ByteArray->ByteArray->Int->Int->Int->Int->List aA->List aA->Int->Int->Int->Int->Int->Int->Int->Int->Int->Int->List aA->List Seg->Prop) (t1:List Opn) (t5 t10 t15:Int) (aS aR:ByteArray) (aU aT bB bA:Int) (aZ bE:List aA) (fD eY eX fC fB fA cY cX cV cU:Int) (dI:List aA) (dF:List Seg):Prop:=cond (decide (t15<(aZ.length:Int))) ((let e0:=(aZ.getD t15.toNat default);((0<=t15/\t15<aZ.length)/\(let r1:=(aDz cY cX cV cU e0.X e0.Y e0.W e0.H);cond r1 (x0 t1 16 t10 t15 aS aR aU aT bB bA aZ bE fD eY eX fC fB fA cY cX cV cU dI dF) (rec t1 t5 t10 (aC (t15+1)) aS aR aU aT bB bA aZ bE fD eY eX fC fB fA cY cX cV cU dI dF))))) (x1 t1 t5 t10 t15 aS aR aU aT bB bA aZ bE fD eY eX fC fB fA cY cX cV cU dI dF)
def bGZ (rec:List Opn->Int->Int->Int->Int->ByteArray->ByteArray->Int->Int->Int->Int->List aA->List aA->List aA->List Seg->Prop) (x0:List Opn->Int->Int->Int->Int->ByteArray->ByteArray->Int->Int->Int->Int->List aA->List aA->List aA->List Seg->Prop) (x1:List Opn->Int->Int->Int->Int->ByteArray->ByteArray->Int->Int->Int->Int->List aA->List aA->List aA->List Seg->Prop) (x2:List Opn->Int->Int->ByteArray->ByteArray->Int->Int->Int->Int->List aA->List aA->List aA->List Seg->Prop) (t1:List Opn) (t5 t10 t15:Int) (aS aR:ByteArray) (aU aT bB bA:Int) (aZ bE:List aA) (fD eY eX fC fB fA cY cX cV cU:Int) (dI:List aA) (dF:List Seg):Prop:=x2 t1 t5 t10 aS aR aU aT bB bA aZ bE dI dF
def aTd (rec:List Opn->Int->Int->Int->Int->ByteArray->ByteArray->Int->Int->Int->Int->List aA->List aA->List aA->List Seg->Prop) (x0:List Opn->Int->Int->Int->Int->ByteArray->ByteArray->Int->Int->Int->Int->List aA->List aA->List aA->List Seg->Prop) (x1:List Opn->Int->Int->Int->Int->ByteArray->ByteArray->Int->Int->Int->Int->List aA->List aA->List aA->List Seg->Prop) (x2:List Opn->Int->Int->ByteArray->ByteArray->Int->Int->Int->Int->List aA->List aA->List aA->List Seg->Prop) (t1:List Opn) (t5 t10 t15:Int) (aS aR:ByteArray) (aU aT bB bA:Int) (aZ bE:List aA) (fD eY eX fC fB fA cY cX cV cU:Int) (dI:List aA) (dF:List Seg):Prop:=(((dF.length+([(Seg.mk cY cX cV cU)]).length)*32<=140737488355328)/\rec t1 t5 eY eX (aC (t10+1)) aS aR aU aT bB bA aZ bE dI (dF++([(Seg.mk cY cX cV cU)])))
def aAb (F:Nat) (x0:List Opn->Int->Int->Int->ByteArray->ByteArray->Int->Int->Int->Int->List aA->List aA->Int->Int->Int->Int->Int->Int->Int->Int->Int->Int->List aA->List Seg->Prop) (x1:List Opn->Int->Int->Int->ByteArray->ByteArray->Int->Int->Int->Int->List aA->List aA->Int->Int->Int->Int->Int->Int->Int->Int->Int->Int->List aA->List Seg->Prop):Nat->List Opn->Int->Int->Int->ByteArray->ByteArray->Int->Int->Int->Int->List aA->List aA->Int->Int->Int->Int->Int->Int->Int->Int->Int->Int->List aA->List Seg->Prop
 |0,_,_,_,_,_,_,_,_,_,_,_,_,_,_,_,_,_,_,_,_,_,_,_,_=>False
 |n+1,t1,t5,t10,t15,aS,aR,aU,aT,bB,bA,aZ,bE,fD,eY,eX,fC,fB,fA,cY,cX,cV,cU,dI,dF=>aTc (aAb F x0 x1 n) x0 x1 t1 t5 t10 t15 aS aR aU aT bB bA aZ bE fD eY eX fC fB fA cY cX cV cU dI dF
def aJ3 (F:Nat) (rec:List Opn->Int->Int->Int->Int->ByteArray->ByteArray->Int->Int->Int->Int->List aA->List aA->List aA->List Seg->Prop) (x0:List Opn->Int->Int->Int->Int->ByteArray->ByteArray->Int->Int->Int->Int->List aA->List aA->List aA->List Seg->Prop) (x1:List Opn->Int->Int->Int->Int->ByteArray->ByteArray->Int->Int->Int->Int->List aA->List aA->List aA->List Seg->Prop) (x2:List Opn->Int->Int->ByteArray->ByteArray->Int->Int->Int->Int->List aA->List aA->List aA->List Seg->Prop) (t1:List Opn) (t5 t10 t15:Int) (aS aR:ByteArray) (aU aT bB bA:Int) (aZ bE:List aA) (fD eY eX fC fB fA cY cX cV cU:Int) (dI:List aA) (dF:List Seg):Prop:=aAb F (fun t1 t5 t10 t15 aS aR aU aT bB bA aZ bE fD eY eX fC fB fA cY cX cV cU dI dF=>bGZ rec x0 x1 x2 t1 t5 t10 t15 aS aR aU aT bB bA aZ bE fD eY eX fC fB fA cY cX cV cU dI dF) (fun t1 t5 t10 t15 aS aR aU aT bB bA aZ bE fD eY eX fC fB fA cY cX cV cU dI dF=>aTd rec x0 x1 x2 t1 t5 t10 t15 aS aR aU aT bB bA aZ bE fD eY eX fC fB fA cY cX cV cU dI dF) F t1 t5 t10 t15 aS aR aU aT bB bA aZ bE fD eY eX fC fB fA cY cX cV cU dI dF
def uN (F:Nat) (x0:List Opn->Int->Int->Int->Int->ByteArray->ByteArray->Int->Int->Int->Int->List aA->List aA->List aA->List Seg->Prop) (x1:List Opn->Int->Int->Int->Int->ByteArray->ByteArray->Int->Int->Int->Int->List aA->List aA->List aA->List Seg->Prop) (x2:List Opn->Int->Int->ByteArray->ByteArray->Int->Int->Int->Int->List aA->List aA->List aA->List Seg->Prop):Nat->List Opn->Int->Int->Int->Int->ByteArray->ByteArray->Int->Int->Int->Int->List aA->List aA->List aA->List Seg->Prop
 |0,_,_,_,_,_,_,_,_,_,_,_,_,_,_,_=>False
 |n+1,t1,t5,t8,t9,t10,aS,aR,aU,aT,bB,bA,aZ,bE,dI,dF=>aF2 (uN F x0 x1 x2 n) x0 x1 x2 t1 t5 t8 t9 t10 aS aR aU aT bB bA aZ bE dI dF (aJ3 F (uN F x0 x1 x2 n) x0 x1 x2)
def aNu (F:Nat) (Q:List Seg->List aA->Int->Prop) (t1:List Opn) (t5 t8 t9 t10:Int) (aS aR:ByteArray) (aU aT bB bA:Int) (aZ bE dI:List aA) (dF:List Seg):Prop:=uN F (fun t1 t5 t8 t9 t10 aS aR aU aT bB bA aZ bE dI dF=>bG2 Q t1 t5 t8 t9 t10 aS aR aU aT bB bA aZ bE dI dF) (fun t1 t5 t8 t9 t10 aS aR aU aT bB bA aZ bE dI dF=>bG1 Q t1 t5 t8 t9 t10 aS aR aU aT bB bA aZ bE dI dF) (fun t1 t5 t10 aS aR aU aT bB bA aZ bE dI dF=>bG0 Q t1 t5 t10 aS aR aU aT bB bA aZ bE dI dF) F t1 t5 t8 t9 t10 aS aR aU aT bB bA aZ bE dI dF
def aID (F:Nat) (qa qb:ByteArray) (qc qd qf qg:Int) (qh qi:List aA) (a1:List Opn) (Q:List Seg->List aA->Int->Prop):Prop:=aKw qa qb qc qd qf qg qh qi a1 Q (aNu F Q)
def jS (nm mt:ByteArray) (g gr w h:Int) (cl us:List aA) (ops:List Opn):List Seg×List aA×Int:=
 cond (iB nm mt g gr w h cl us !=0) ([],[],iB nm mt g gr w h cl us) (cond (decide (4000<(ops.length:Int))) ([],[],4) (aBJ w h cl ops))
def aIr (nm mt:ByteArray) (g gr w h:Int) (cl us:List aA) (ops:List Opn):Prop:=True
theorem bEx (F:Nat) (x0 x1:List Opn->Int->Int->Int->ByteArray->ByteArray->Int->Int->Int->Int->List aA->List aA->Int->Int->Int->Int->Int->Int->Int->Int->Int->Int->List aA->List Seg->Prop) (t1:List Opn) (t5 t10:Int) (nm mt:ByteArray) (g gr w h:Int) (cl us:List aA) (hcl:cl.length<=2000000) (c0 c1 c2 c3 c4 c5 s1 s2 s3 s4:Int) (st:List aA) (ls:List Seg) (n:Nat) (hn:cl.length<n)
  (hX:cl.any (jR (Seg.mk s1 s2 s3 s4))=true->∀j,x0 t1 16 t10 j nm mt g gr w h cl us c0 c1 c2 c3 c4 c5 s1 s2 s3 s4 st ls)
  (hY:cl.any (jR (Seg.mk s1 s2 s3 s4))=false->x1 t1 t5 t10 cl.length nm mt g gr w h cl us c0 c1 c2 c3 c4 c5 s1 s2 s3 s4 st ls):
  aAb F x0 x1 n t1 t5 t10 0 nm mt g gr w h cl us c0 c1 c2 c3 c4 c5 s1 s2 s3 s4 st ls:=by
 have ha:cl.all (fun r=>!(jR (Seg.mk s1 s2 s3 s4) r))=!(cl.any (jR (Seg.mk s1 s2 s3 s4))):=by
  rw[List.not_any_eq_all_not]
 refine qK cl (fun r=>!(jR (Seg.mk s1 s2 s3 s4) r)) hcl (fun n i=>aAb F x0 x1 n t1 t5 t10 i nm mt g gr w h cl us c0 c1 c2 c3 c4 c5 s1 s2 s3 s4 st ls) (fun j=>x0 t1 16 t10 j nm mt g gr w h cl us c0 c1 c2 c3 c4 c5 s1 s2 s3 s4 st ls) (fun j=>x1 t1 t5 t10 j nm mt g gr w h cl us c0 c1 c2 c3 c4 c5 s1 s2 s3 s4 st ls) (fun n i=>?_) n hn (fun q=>?_) (fun q=>?_)
 ·rw[Bool.not_not];rfl
 ·rw[ha] at q;exact hX (by simpa using q)
 ·rw[ha] at q;exact hY (by simpa using q)
theorem aYR (x y a b:Int):kZ x y a b=cond (lY x y a b) (mi x a,mi y b,ma x a,ma y b,true) (0,0,0,0,false):=by
 unfold kZ lY;unfold bne;cases (x==a)<;>cases (y==b)<;>rfl
theorem bEy (F:Nat) (x0 x1:List Opn->Int->Int->Int->Int->ByteArray->ByteArray->Int->Int->Int->Int->List aA->List aA->List aA->List Seg->Prop) (x2:List Opn->Int->Int->ByteArray->ByteArray->Int->Int->Int->Int->List aA->List aA->List aA->List Seg->Prop) (nm mt:ByteArray) (g gr w h:Int) (cl us:List aA) (hcl:cl.length<=2000000) (hF:cl.length<F) (l:List Opn) (hl:l.length<=4000) (t5:Int):
  ∀(n i:Nat) (x y:Int) (ls:List Seg) (st:List aA),i<=l.length->l.length<n+i->ls.length<=i->st.length<=i->
   (nF w h cl (l.drop i) (x,y,ls,st)=none->(∀(j x y:Int) (ls:List Seg) (st:List aA),x0 l 16 x y j nm mt g gr w h cl us st ls)/\∀(j:Int) (ls:List Seg) (st:List aA),x2 l 16 j nm mt g gr w h cl us st ls)->
   (∀(x' y':Int) (ls':List Seg) (st':List aA),nF w h cl (l.drop i) (x,y,ls,st)=some (x',y',ls',st')->x1 l t5 x' y' l.length nm mt g gr w h cl us st' ls')->
   uN F x0 x1 x2 n l t5 x y i nm mt g gr w h cl us st ls:=by
 intro n
 induction n with
 |zero=>intro i x y ls st h1 h2;omega
 |succ n ih=>
  intro i x y ls st h1 h2 hls hst hX hY;show aF2 (uN F x0 x1 x2 n) x0 x1 x2 l t5 x y i nm mt g gr w h cl us st ls (aJ3 F (uN F x0 x1 x2 n) x0 x1 x2);unfold aF2
  by_cases hi:i<l.length
  ·rw[aW (show (i:Int)<l.length by omega),cond_true,Int.toNat_natCast,bX hi (by omega)];rw[iJ l i hi] at hX hY;unfold nF at hX hY;generalize l.getD i default=o at hX hY ⊢;obtain⟨k,ox,oy,ow,oh,oN⟩:=o;dsimp only at hX hY ⊢;refine⟨⟨by omega,by omega⟩,?_⟩;have hon:pH nm mt g gr w h cl us ox oy=onB w h ox oy:=rfl;rw[hon,aYR]
   by_cases k3:k=3
   ·subst k3;rw[b33,cond_true];rw[aNh] at hX hY;cases hv:lN ox oy ow oh 0 0 w h with
    |false=>
     rw[hv] at hX;exact(hX rfl).1 _ _ _ _ _
    |true=>
     rw[hv] at hX hY;refine⟨by simp;omega,ih (i+1) _ _ _ _ (by omega) (by omega) (by omega) (by simp;omega) hX hY⟩
   ·have n3:(k==3)=false:=by simpa using k3
    rw[n3,cond_false]
    by_cases k1:k=1
    ·subst k1;have e1:(((((1:Int) !=1)&&((1:Int) !=2))&&((1:Int) !=4))||!(onB w h ox oy))=!(onB w h ox oy):=rfl;have e2:((1:Int) !=1)=false:=rfl;rw[e1,e2];rw[aNj] at hX hY;cases hv:onB w h ox oy with
     |false=>
      rw[hv] at hX;exact(hX rfl).1 _ _ _ _ _
     |true=>
      rw[hv] at hX hY;exact ih (i+1) _ _ _ _ (by omega) (by omega) (by omega) (by omega) hX hY
    ·have n1:(k==1)=false:=by simpa using k1
     have n1':(k !=1)=true:=by simpa using k1
     rw[n1',Bool.true_and]
     by_cases k24:k=2\/k=4
     ·have cW:(((k==1)||(k==2))||(k==4))=true:=by
       rcases k24 with rfl|rfl<;>rfl
      have hk3:(((k !=2)&&(k !=4))||!(onB w h ox oy))=!(onB w h ox oy):=by
       rcases k24 with rfl|rfl<;>rfl
      rw[aNk w h cl k ox oy ow oh oN x y ls st n3 n1 cW] at hX hY;rw[hk3];cases hv:onB w h ox oy with
      |false=>
       rw[hv] at hX;exact(hX rfl).1 _ _ _ _ _
      |true=>
       rw[hv,cond_true] at hX hY;cases hu:lY x y ox oy with
       |false=>
        rw[hu] at hX;exact(hX rfl).1 _ _ _ _ _
       |true=>
        rw[hu,Bool.true_and] at hX hY;refine bEx F _ _ l t5 i nm mt g gr w h cl us hcl k ox oy ow oh oN (mi x ox) (mi y oy) (ma x ox) (ma y oy) st ls F hF (fun q j=>?_) (fun q=>?_)
        ·rw[show cl.any (jR (jW x y ox oy))=true from q] at hX;exact(hX rfl).2 _ _ _
        ·rw[show cl.any (jR (jW x y ox oy))=false from q] at hX hY;unfold aTd;rw[bX hi (by omega)];exact⟨by simp;omega,ih (i+1) _ _ _ _ (by omega) (by omega) (by simp;omega) (by omega) hX hY⟩
     ·have n2:(k !=2)=true:=by simp;omega
      have n4:(k !=4)=true:=by simp;omega
      rw[n2,n4];rw[aNi w h cl k ox oy ow oh oN _ n3 (by rw[n1];simp at n2 n4;simp[n2,n4])] at hX;exact(hX rfl).1 _ _ _ _ _
  ·have e:i=l.length:=by omega
   subst e;rw[bD (by omega),cond_false];rw[List.drop_length] at hY;exact hY _ _ _ _ rfl
theorem aJL (nm mt:ByteArray) (g gr w h:Int) (cl us:List aA):pS nm mt g gr w h cl us:=by
 unfold pS;cases ((kJ nm mt g gr) !=0) with
 |true=>trivial
 |false=>
 cases ((((decide (w<1))||(decide (1048576<w)))||(decide (h<1)))||(decide (1048576<h))) with
 |true=>trivial
 |false=>
 cases h3:((decide (4<(cl.length:Int)))||(decide (48<(us.length:Int)))) with
 |true=>trivial
 |false=>
 simp only[Bool.or_eq_false_iff,decide_eq_false_iff_not] at h3;have h4:cl.length<=2000000:=by omega
 have h5:us.length<=2000000:=by omega
 refine⟨h4,fun _=>h5,?_⟩;cases ((!(fY cl))||(!(fY us))) with
 |true=>trivial
 |false=>exact⟨h4,fun _=>h5⟩
theorem bC6 (qa:ByteArray) (qb:ByteArray) (qc:Int) (qd:Int) (qf:Int) (qg:Int) (qh:List aA) (qi:List aA) (a1:List Opn) (h:aIr qa qb qc qd qf qg qh qi a1):∃F,∀Q:List Seg->List aA->Int->Prop,Q ((jS qa qb qc qd qf qg qh qi a1).1) ((jS qa qb qc qd qf qg qh qi a1).2.1) ((jS qa qb qc qd qf qg qh qi a1).2.2)->aID F qa qb qc qd qf qg qh qi a1 Q:=by
 refine⟨4001,fun Q hQ=>?_⟩;unfold aID aKw;unfold jS at hQ;dsimp only;refine⟨aJL _ _ _ _ _ _ _ _,?_⟩;cases h1:(iB qa qb qc qd qf qg qh qi !=0) with
 |true=>
  rw[h1] at hQ;exact hQ
 |false=>
 rw[h1] at hQ;simp only[cond_false] at hQ ⊢;have hcl:qh.length<=4:=by
  by_cases q:qh.length<=4
  ·exact q
  ·exfalso;unfold iB at h1;rw[aW (show 4<(qh.length:Int) by omega),Bool.true_or,cond_true] at h1
   revert h1
   cases e:(kJ qa qb qc qd !=0)<;>cases ((((decide (qf<1))||(decide (1048576<qf)))||(decide (qg<1)))||(decide (1048576<qg)))<;>simp[e]
 by_cases h2:4000<(a1.length:Int)
 ·rw[aW h2] at hQ ⊢;exact hQ
 rw[bD h2] at hQ ⊢;simp only[cond_false] at hQ ⊢;unfold aBJ at hQ;refine bEy 4001 _ _ _ qa qb qc qd qf qg qh qi (by omega) (by omega) a1 (by omega) 0 4001 0 0 0 [] [] (by omega) (by omega) (by simp) (by simp) (fun q=>⟨fun j x y ls st=>?_,fun j ls st=>?_⟩) (fun x y ls st q=>?_)
 ·rw[List.drop_zero] at q;rw[q] at hQ;exact hQ
 ·rw[List.drop_zero] at q;rw[q] at hQ;exact hQ
 ·rw[List.drop_zero] at q;rw[q] at hQ;have hi:=aE8 qf qg qh a1 _ _ q (by intro z hz;cases hz);have i2:ls.length<=0+a1.length:=hi.2.1;refine⟨show ls.length<=2000000 by omega,?_⟩;exact hQ
def aIY (a_0 a_1 a_2 a_3 c_0 c_1 c_2 c_3:Int):Bool:=(vG c_0 c_1 c_2 c_3 a_0 a_1 a_2 a_3)
def zS:Nat->Nat->Nat->Canon UU:=fun o b r=>cond (Nat.beq b 0) ⟨[0,1,4,7,8],[],[],[],[]⟩ (⟨[],[],[],[],[]⟩)
abbrev yR:=List aA->Int->Int->Int->Int->Int->Int->Int->Prop
def aVN (l:List aA) (c_0 c_1 c_2 c_3:Int) (Q:Int->Prop) (i0:yR):Prop:=i0 l c_0 c_1 c_2 c_3 0 (l.length:Int) 0
def aVM (rec x0 x1:yR) (t0:List aA) (dS eS eQ eP t4 t7 t8:Int):Prop:=cond (decide (t8<t7)) ((let e0:=(t0.getD t8.toNat default);(let r1:=(aIY e0.X e0.Y e0.W e0.H dS eS eQ eP);((0<=t8/\t8<t0.length)/\cond r1 (x0 t0 dS eS eQ eP t8 t7 t8) (rec t0 dS eS eQ eP t4 t7 (aC (t8+1))))))) (x1 t0 dS eS eQ eP t4 t7 t8)
def aDj (F:Nat) (x0 x1:yR):Nat->yR
 |0=>fun _ _ _ _ _ _ _ _=>False
 |n+1=>aVM (aDj F x0 x1 n) x0 x1
def aEy (F:Nat) (Q:Int->Prop):yR:=aDj F (fun _ _ _ _ _ t4 _ _=>Q t4) (fun _ _ _ _ _ _ _ _=>Q (-1)) F
def aMr (F:Nat) (l:List aA) (c_0 c_1 c_2 c_3:Int) (Q:Int->Prop):Prop:=aVN l c_0 c_1 c_2 c_3 Q (aEy F Q)
def tA (a b c d:Int) (r:aA):Bool:=aIY r.X r.Y r.W r.H a b c d
def aE5 (l:List aA) (a b c d:Int):Prop:=l.length<=2000000
def aEC (l:List aA) (a b c d:Int):Int:=nO (tA a b c d) l 0
theorem bDF (l:List aA) (c_0 c_1 c_2 c_3:Int) (h:aE5 l c_0 c_1 c_2 c_3):∃F,∀Q:Int->Prop,Q (aEC l c_0 c_1 c_2 c_3)->aMr F l c_0 c_1 c_2 c_3 Q:=by
 refine⟨l.length+1,fun Q hQ=>?_⟩;show aEy (l.length+1) Q l c_0 c_1 c_2 c_3 0 (l.length:Int) 0;unfold aEy;exact aTV l (tA c_0 c_1 c_2 c_3) h Q (fun n i=>aDj (l.length+1) (fun _ _ _ _ _ t4 _ _=>Q t4) (fun _ _ _ _ _ _ _ _=>Q (-1)) n l c_0 c_1 c_2 c_3 0 l.length i) (fun n i=>rfl) (l.length+1) 0 (by omega) (by omega) hQ
theorem aWQ {α:Type} [Inhabited α] (l:List α) (p:α->Bool) (hl:l.length<=2000000) (W:Nat->Int->Prop) (X Y:Int->Prop)
  (hs:∀n i,W (n+1) i=cond (decide (i<(l.length:Int))) ((0<=i/\i<(l.length:Int))/\cond (p (l.getD i.toNat default)) (X i) (W n (aC (i+1)))) (Y i)) (n:Nat) (hn:l.length<n)
  (hX:l.any p=true->∀j,X j) (hY:l.any p=false->Y l.length):W n 0:=by
 have e:l.all (fun x=>!p x)=!l.any p:=by rw[List.not_any_eq_all_not]
 refine qK l (fun x=>!p x) hl W X Y (fun n i=>by rw[hs,Bool.not_not]) n hn (fun q=>hX ?_) (fun q=>hY ?_)
 ·rw[e] at q;simpa using q
 ·rw[e] at q;simpa using q
theorem lU (len:Nat) (bad:Nat->Bool) (X Y:Prop) (W:Nat->Int->Prop) (hs:∀n (i:Nat),i<len->(bad i=true->X)->(bad i=false->W n ((i+1:Nat):Int))->W (n+1) i)
  (hy:∀n,Y->W (n+1) len) (n:Nat) (hn:len<n) (hX:(List.range len).any bad=true->X) (hY:(List.range len).any bad=false->Y):W n 0:=by
 have key:∀(n i:Nat),i<=len->len<n+i->(∀j,j<i->bad j=false)->W n i:=by
  intro n
  induction n with
  |zero=>intro i h1 h2;omega
  |succ n ih=>
   intro i h1 h2 hb
   by_cases h:i<len
   ·refine hs n i h (fun q=>hX (List.any_eq_true.2 ⟨i,List.mem_range.2 h,q⟩)) (fun q=>ih (i+1) (by omega) (by omega) fun j hj=>?_);rcases Nat.lt_or_ge j i with hji|hji
    ·exact hb j hji
    ·obtain rfl:j=i:=by omega
     exact q
   ·obtain rfl:i=len:=by omega
    refine hy n (hY ?_);cases hq:(List.range i).any bad with
    |false=>rfl
    |true=>
     obtain⟨j,hj,hbj⟩:=List.any_eq_true.1 hq;rw[hb j (List.mem_range.1 hj)] at hbj;cases hbj
 exact key n 0 (Nat.zero_le _) (by omega) fun j hj=>absurd hj (Nat.not_lt_zero _)
def aBY (l:List aA) (c_0 c_1 c_2 c_3:Int):Prop:=(aE5 l c_0 c_1 c_2 c_3)
def o7 (l:List aA) (c_0 c_1 c_2 c_3:Int):Bool:=decide (0<=(aEC l c_0 c_1 c_2 c_3))
def u4 (aE aD aG aF:Int) (a1:List aA):Prop:=(aBY a1 aE aD aG aF)
def oE (aE aD aG aF:Int) (a1:List aA):Bool:=(o7 a1 aE aD aG aF)
def zF:Nat->Nat->Nat->Canon UU:=fun o b r=>cond (Nat.beq b 0) ⟨[1,2,7,13,14],[],[(.tmp 7,67,.rect)],[],[]⟩ (⟨[],[],[],[],[]⟩)
abbrev yF:=Int->Int->Int->Int->List aA->Prop
def aUd (a0:List aA) (a1 a2:Int) (Q:List aA->Prop) (i0:yF):Prop:=((a0.length<=2000000)/\i0 a1 a2 (a0.length:Int) 0 a0)
def aUc (rec x0:yF) (t1 t2 t13 t14:Int) (dU:List aA):Prop:=cond (decide (t14<t13)) (((0<=t14/\t14<dU.length)/\cond ((((decide (((dU.getD t14.toNat default).X)<(-4194304)))||(decide (4194304<((dU.getD t14.toNat default).X))))||(decide (((dU.getD t14.toNat default).Y)<(-4194304))))||(decide (4194304<((dU.getD t14.toNat default).Y)))) (rec t1 t2 t13 (aC (t14+1)) (dU.set t14.toNat (aA.mk ((dU.getD t14.toNat default).X) ((dU.getD t14.toNat default).Y) 0 ((dU.getD t14.toNat default).H)))) ((let v0:=((dU.set t14.toNat (aA.mk (aC (((dU.getD t14.toNat default).X)-t1)) ((dU.getD t14.toNat default).Y) ((dU.getD t14.toNat default).W) ((dU.getD t14.toNat default).H))).getD t14.toNat default).Y;rec t1 t2 t13 (aC (t14+1)) ((dU.set t14.toNat (aA.mk (aC (((dU.getD t14.toNat default).X)-t1)) ((dU.getD t14.toNat default).Y) ((dU.getD t14.toNat default).W) ((dU.getD t14.toNat default).H))).set t14.toNat (aA.mk (((dU.set t14.toNat (aA.mk (aC (((dU.getD t14.toNat default).X)-t1)) ((dU.getD t14.toNat default).Y) ((dU.getD t14.toNat default).W) ((dU.getD t14.toNat default).H))).getD t14.toNat default).X) (aC (v0-t2)) (((dU.set t14.toNat (aA.mk (aC (((dU.getD t14.toNat default).X)-t1)) ((dU.getD t14.toNat default).Y) ((dU.getD t14.toNat default).W) ((dU.getD t14.toNat default).H))).getD t14.toNat default).W) (((dU.set t14.toNat (aA.mk (aC (((dU.getD t14.toNat default).X)-t1)) ((dU.getD t14.toNat default).Y) ((dU.getD t14.toNat default).W) ((dU.getD t14.toNat default).H))).getD t14.toNat default).H))))))) (x0 t1 t2 t13 t14 dU)
def aD5 (F:Nat) (x0:yF):Nat->yF
 |0=>fun _ _ _ _ _=>False
 |n+1=>aUc (aD5 F x0 n) x0
def aEq (F:Nat) (Q:List aA->Prop):yF:=aD5 F (fun _ _ _ _ dU=>Q dU) F
def aMd (F:Nat) (a0:List aA) (a1 a2:Int) (Q:List aA->Prop):Prop:=aUd a0 a1 a2 Q (aEq F Q)
def oP (r:aA):Bool:=(((decide (r.X<(-4194304)))||(decide (4194304<r.X)))||(decide (r.Y<(-4194304))))||(decide (4194304<r.Y))
def gJ (x y:Int) (r:aA):aA:=cond (oP r) (aA.mk r.X r.Y 0 r.H) (aA.mk (aC (r.X-x)) (aC (r.Y-y)) r.W r.H)
def aBT (l:List aA) (x y:Int):Prop:=l.length<=2000000
def sN (l:List aA) (x y:Int):List aA:=l.map (gJ x y)
theorem bEq {α:Type} [Inhabited α] (l:List α) (f:α->α) (hl:l.length<=2000000) (Q:List α->Prop) (W:Nat->Int->List α->Prop)
  (hs:∀n (i:Nat) (m:List α),m.length=l.length->i<l.length->W n ((i+1:Nat):Int) (m.set i (f (m.getD i default)))->W (n+1) i m) (hq:∀n m,m.length=l.length->Q m->W (n+1) l.length m):
  ∀(n i:Nat),i<=l.length->l.length<n+i->Q (l.map f)->W n i ((l.take i).map f++l.drop i):=by
 intro n
 induction n with
 |zero=>intro i h1 h2;omega
 |succ n ih=>
  intro i h1 h2 hQ
  by_cases h:i<l.length
  ·refine hs n i _ (by simp;omega) h ?_;have e:((l.take i).map f++l.drop i).set i (f (((l.take i).map f++l.drop i).getD i default))=(l.take (i+1)).map f++l.drop (i+1):=by
    have hlen:((l.take i).map f).length=i:=by simp;omega
    rw[iJ l i h];have e1:=aAH ((l.take i).map f) (l.getD i default) (l.drop (i+1));rw[hlen] at e1;rw[e1];have e3:=p8 ((l.take i).map f) (l.getD i default) (f (l.getD i default)) (l.drop (i+1));rw[hlen] at e3;have e2:l.take (i+1)=l.take i++[l.getD i default]:=by
     rw[List.take_add_one];simp[List.getD_eq_getElem?_getD,h]
    rw[e3,e2,List.map_append,List.append_assoc];rfl
   rw[e];exact ih (i+1) (by omega) (by omega) hQ
  ·have e:i=l.length:=by omega
   subst e;refine hq n _ (by simp) ?_;rw[List.take_length,List.drop_length,List.append_nil];exact hQ
theorem bCp (a0:List aA) (a1 a2:Int) (h:aBT a0 a1 a2):∃F,∀Q:List aA->Prop,Q (sN a0 a1 a2)->aMd F a0 a1 a2 Q:=by
 refine⟨a0.length+1,fun Q hQ=>?_⟩;refine⟨h,?_⟩;have hh:a0.length<=2000000:=h;show aEq (a0.length+1) Q a1 a2 (a0.length:Int) 0 a0;unfold aEq;refine bEq a0 (gJ a1 a2) (by omega) Q (fun n i m=>aD5 (a0.length+1) (fun _ _ _ _ dU=>Q dU) n a1 a2 (a0.length:Int) i m) (fun n i m hm hi hw=>?_) (fun n m hm hq=>?_) (a0.length+1) 0 (by omega) (by omega) hQ
 ·show cond (decide ((i:Int)<(a0.length:Int))) _ _;rw[aW (by omega),cond_true];refine⟨⟨by omega,by omega⟩,?_⟩;rw[Int.toNat_natCast,bX hi (by omega)];unfold gJ at hw;show cond (oP (m.getD i default)) _ _;cases hf:oP (m.getD i default) with
  |true=>
   rw[hf] at hw;exact hw
  |false=>
   rw[hf] at hw;have hg:∀A:aA,(m.set i A).getD i default=A:=fun A=>by simp[List.getD_eq_getElem?_getD,show i<m.length by omega]
   simp only[cond_false,hg,List.set_set];exact hw
 ·show cond (decide ((a0.length:Int)<(a0.length:Int))) _ _;rw[bD (by omega),cond_false];exact hq
def yY:Nat->Nat->Nat->Canon UU:=fun o b r=>cond (Nat.beq b 0) ⟨[2,4,7,8,9],[2],[],[],[]⟩ (⟨[],[],[],[],[]⟩)
abbrev xS:=Bool->List aA->Int->Int->Int->Int->Int->Int->Prop
def aTf (aE aD aG aF:Int) (a1:List aA) (Q:Bool->Prop) (i0:xS):Prop:=i0 false a1 (a1.length:Int) 0 aE aD aG aF
def aTe (rec x0 x1:xS) (t4:Bool) (t7:List aA) (t8 t9 aS aR aU aT:Int):Prop:=cond (decide (t9<t8)) ((let e0:=(t7.getD t9.toNat default);((0<=t9/\t9<t7.length)/\cond ((((decide (e0.X<aS))&&(decide (e0.Y<aR)))&&(decide ((aC (aS+aU))<(aC (e0.X+e0.W)))))&&(decide ((aC (aR+aT))<(aC (e0.Y+e0.H))))) (x0 true t7 t8 t9 aS aR aU aT) (rec t4 t7 t8 (aC (t9+1)) aS aR aU aT)))) (x1 t4 t7 t8 t9 aS aR aU aT)
def aDT (F:Nat) (x0 x1:xS):Nat->xS
 |0=>fun _ _ _ _ _ _ _ _=>False
 |n+1=>aTe (aDT F x0 x1 n) x0 x1
def aEj (F:Nat) (Q:Bool->Prop):xS:=aDT F (fun t4 _ _ _ _ _ _ _=>Q t4) (fun _ _ _ _ _ _ _ _=>Q false) F
def aM3 (F:Nat) (aE aD aG aF:Int) (a1:List aA) (Q:Bool->Prop):Prop:=aTf aE aD aG aF a1 Q (aEj F Q)
def aAy (x y w h:Int) (e:aA):Bool:=(((decide (e.X<x))&&(decide (e.Y<y)))&&(decide ((aC (x+w))<(aC (e.X+e.W)))))&&(decide ((aC (y+h))<(aC (e.Y+e.H))))
def aIs (x y w h:Int) (l:List aA):Prop:=l.length<=2000000
def sI (x y w h:Int) (l:List aA):Bool:=l.any (aAy x y w h)
theorem bC7 (aE aD aG aF:Int) (a1:List aA) (h:aIs aE aD aG aF a1):∃F,∀Q:Bool->Prop,Q (sI aE aD aG aF a1)->aM3 F aE aD aG aF a1 Q:=by
 refine⟨a1.length+1,fun Q hQ=>?_⟩;show aEj (a1.length+1) Q false a1 (a1.length:Int) 0 _ _ _ _;unfold aEj;refine aWQ a1 (aAy aE aD aG aF) h (fun n i=>aDT (a1.length+1) _ _ n false a1 a1.length i _ _ _ _) _ _ (fun n i=>rfl) (a1.length+1) (by omega) (fun q j=>?_) (fun q=>?_)
 ·unfold sI at hQ;rw[q] at hQ;exact hQ
 ·unfold sI at hQ;rw[q] at hQ;exact hQ
def oU:Nat->Nat->Nat->Canon UU:=fun o b r=>cond (Nat.beq b 0) ⟨[1,2,3,16,17,18],[1,12],[],[],[]⟩ (cond (Nat.beq b 2) ⟨[2,3,46,47,48],[12],[],[],[]⟩ (cond (Nat.beq b 4) ⟨[2,3,7,46,47,48,55,56,57],[7,12],[],[],[]⟩ (⟨[],[],[],[],[]⟩)))
abbrev yM:=Int->Int->Int->ByteArray->ByteArray->Int->Int->List aA->List aA->List aA->List aA->Prop
def aUz (qa qb:ByteArray) (qc qd:Int) (qe qj qk:List aA) (Q:Int->Prop) (i0:yM):Prop:=((qj.length*32<=140737488355328)/\(((qj.length+qk.length)*32<=140737488355328)/\i0 0 ((qj++qk).length:Int) 0 qa qb qc qd qe qj qk (qj++qk)))
def aUy (rec x0 x1:yM) (t2 t17 t18:Int) (aQ aP:ByteArray) (aO aN:Int) (aH aK aL dK:List aA):Prop:=cond (decide (t18<t17)) (((0<=t18/\t18<dK.length)/\(let r0:=(sI ((dK.getD t18.toNat default).X) ((dK.getD t18.toNat default).Y) ((dK.getD t18.toNat default).W) ((dK.getD t18.toNat default).H) aH);((((decide (t18<(aK.length:Int)))&&((((dK.getD t18.toNat default).W)==1)||(((dK.getD t18.toNat default).H)==1)))=false->aIs ((dK.getD t18.toNat default).X) ((dK.getD t18.toNat default).Y) ((dK.getD t18.toNat default).W) ((dK.getD t18.toNat default).H) aH)/\cond (((decide (t18<(aK.length:Int)))&&((((dK.getD t18.toNat default).W)==1)||(((dK.getD t18.toNat default).H)==1)))||(!r0)) (x0 13 t17 t18 aQ aP aO aN aH aK aL dK) (rec t2 t17 (aC (t18+1)) aQ aP aO aN aH aK aL dK))))) (x1 t2 t17 t18 aQ aP aO aN aH aK aL dK)
def aLT (Q:Int->Prop) (t2 t17 t18:Int) (aQ aP:ByteArray) (aO aN:Int) (aH aK aL dK:List aA):Prop:=Q t2
abbrev uE:=Int->Int->Int->List aA->Prop
def aLS (Q:Int->Prop) (i1:uE) (t2 t17 t18:Int) (aQ aP:ByteArray) (aO aN:Int) (aH aK aL dK:List aA):Prop:=i1 t2 (dK.length:Int) 0 dK
abbrev yL:=Int->Int->Int->Nat->Int->Int->Int->Int->Int->Int->List aA->Prop
def aUx (rec x0 x1:uE) (i2:yL) (t2 t47 t48:Int) (dK:List aA):Prop:=cond (decide (t48<t47)) (((0<=t48/\t48<dK.length)/\((0<=t48/\t48<=dK.length)/\i2 t2 t47 t48 t48.toNat ((t48.toNat-0:Nat):Int) 0 ((dK.getD t48.toNat default).X) ((dK.getD t48.toNat default).Y) ((dK.getD t48.toNat default).W) ((dK.getD t48.toNat default).H) dK))) (x0 t2 t47 t48 dK)
def aUw (rec x0 x1:yL) (t2 t47 t48:Int) (t55:Nat) (t56 t57 cN cI dO dN:Int) (dK:List aA):Prop:=cond (decide (t57<t56)) (((0<=t57/\t57<((t55-0:Nat):Int))/\(let r0:=(vH cN cI dO dN ((dK.getD (0+t57.toNat) default).X) ((dK.getD (0+t57.toNat) default).Y) ((dK.getD (0+t57.toNat) default).W) ((dK.getD (0+t57.toNat) default).H));cond (r0==0) (x0 7 t47 t48 t55 t56 t57 cN cI dO dN dK) (rec t2 t47 t48 t55 t56 (aC (t57+1)) cN cI dO dN dK)))) (x1 t2 t47 t48 t55 t56 t57 cN cI dO dN dK)
def aDd (F:Nat) (x0 x1:yL):Nat->yL
 |0=>fun _ _ _ _ _ _ _ _ _ _ _=>False
 |n+1=>aUw (aDd F x0 x1 n) x0 x1
def aJr (F:Nat) (rec x0 x1:uE):yL:=aDd F (fun t2 t47 t48 _ _ _ _ _ _ _ dK=>x1 t2 t47 t48 dK) (fun t2 t47 t48 _ _ _ _ _ _ _ dK=>rec t2 t47 (aC (t48+1)) dK) F
def uW (F:Nat) (x0 x1:uE):Nat->uE
 |0=>fun _ _ _ _=>False
 |n+1=>aUx (uW F x0 x1 n) x0 x1 (aJr F (uW F x0 x1 n) x0 x1)
def aB6 (F:Nat) (Q:Int->Prop):uE:=uW F (fun _ _ _ _=>Q 0) (fun t2 _ _ _=>Q t2) F
def aAu (F:Nat) (x0 x1:yM):Nat->yM
 |0=>fun _ _ _ _ _ _ _ _ _ _ _=>False
 |n+1=>aUy (aAu F x0 x1 n) x0 x1
def aEv (F:Nat) (Q:Int->Prop):yM:=aAu F (aLT Q) (aLS Q (aB6 F Q)) F
def aMn (F:Nat) (qa qb:ByteArray) (qc qd:Int) (qe qj qk:List aA) (Q:Int->Prop):Prop:=aUz qa qb qc qd qe qj qk Q (aEv F Q)
def aAE (nc:Int) (R:List aA) (i:Int) (h:aA):Bool:=((decide (i<nc))&&((h.W==1)||(h.H==1)))||(!(sI h.X h.Y h.W h.H R))
def pF (a b:aA):Bool:=vH a.X a.Y a.W a.H b.X b.Y b.W b.H==0
def aAC (R C H:List aA):Int:=cond ((List.range H.length).any fun i=>aAE C.length R i (H.getD i default)) 13 (cond ((List.range H.length).any fun i=>(List.range i).any fun j=>pF (H.getD i default) (H.getD j default)) 7 0)
def aJH (nm mt:ByteArray) (g gr:Int) (R C M:List aA):Prop:=R.length<=2000000/\C.length<=1000/\M.length<=1000
def aDw (nm mt:ByteArray) (g gr:Int) (R C M:List aA):Int:=aAC R C (C++M)
theorem bCz (qa qb:ByteArray) (qc qd:Int) (qe qj qk:List aA) (h:aJH qa qb qc qd qe qj qk):
  ∃F,∀Q:Int->Prop,Q (aDw qa qb qc qd qe qj qk)->aMn F qa qb qc qd qe qj qk Q:=by
 obtain⟨h1,h2,h3⟩:=h;refine⟨(qj++qk).length+1,fun Q hQ=>?_⟩;refine⟨by omega,by omega,?_⟩;have hlen:(qj++qk).length<=2000:=by simp;omega
 unfold aDw aAC at hQ;generalize qj++qk=H at hQ hlen ⊢;show aEv (H.length+1) Q 0 (H.length:Int) 0 _ _ _ _ _ _ _ H;unfold aEv;refine lU H.length (fun i=>aAE qj.length qe i (H.getD i default)) (Q 13) (aB6 (H.length+1) Q 0 (H.length:Int) 0 H) (fun n i=>aAu (H.length+1) (aLT Q) (aLS Q (aB6 (H.length+1) Q)) n 0 (H.length:Int) i qa qb qc qd qe qj qk H) (fun n i hi hx hw=>?_) (fun n hy=>?_) (H.length+1) (by omega) (fun q=>?_) (fun q=>?_)
 ·show cond (decide ((i:Int)<(H.length:Int))) _ _;rw[aW (by omega),cond_true];refine⟨⟨by omega,by omega⟩,fun _=>h1,?_⟩;rw[Int.toNat_natCast,bX hi (by omega)];show cond (aAE qj.length qe i (H.getD i default)) _ _;cases hb:aAE qj.length qe i (H.getD i default) with
  |true=>exact hx hb
  |false=>exact hw hb
 ·show cond (decide ((H.length:Int)<(H.length:Int))) _ _;rw[bD (by omega),cond_false];exact hy
 ·rw[q] at hQ;exact hQ
 ·rw[q,cond_false] at hQ;unfold aB6;refine lU H.length (fun i=>(List.range i).any fun j=>pF (H.getD i default) (H.getD j default)) (Q 7) (Q 0) (fun n i=>uW (H.length+1) (fun _ _ _ _=>Q 0) (fun t2 _ _ _=>Q t2) n 0 (H.length:Int) i H) (fun n i hi hx hw=>?_) (fun n hy=>?_) (H.length+1) (by omega) (fun q=>?_) (fun q=>?_)
  ·show cond (decide ((i:Int)<(H.length:Int))) _ _;rw[aW (by omega),cond_true];refine⟨⟨by omega,by omega⟩,⟨by omega,by omega⟩,?_⟩;rw[Int.toNat_natCast];unfold aJr;refine lU i (fun j=>pF (H.getD i default) (H.getD j default)) (Q 7) (uW (H.length+1) (fun _ _ _ _=>Q 0) (fun t2 _ _ _=>Q t2) n 0 (H.length:Int) ((i+1:Nat):Int) H) (fun m j=>aDd (H.length+1) _ _ m 0 (H.length:Int) i i ((i-0:Nat):Int) j _ _ _ _ H) (fun m j hj hx hw=>?_) (fun m hy=>?_) (H.length+1) (by omega) hx hw
   ·show cond (decide ((j:Int)<((i-0:Nat):Int))) _ _;rw[aW (by omega),cond_true];refine⟨⟨by omega,by omega⟩,?_⟩;rw[Int.toNat_natCast,Nat.zero_add,bX hj (by omega)];show cond (pF (H.getD i default) (H.getD j default)) _ _;cases hb:pF (H.getD i default) (H.getD j default) with
    |true=>exact hx hb
    |false=>exact hw hb
   ·show cond (decide ((i:Int)<((i-0:Nat):Int))) _ _;rw[bD (by omega),cond_false];show uW _ _ _ _ _ _ (aC ((i:Int)+1)) _;rw[bX hi (by omega)];exact hy
  ·show cond (decide ((H.length:Int)<(H.length:Int))) _ _;rw[bD (by omega),cond_false];exact hy
  ·rw[q] at hQ;exact hQ
  ·rw[q] at hQ;exact hQ
def sE (a b:aA):Bool:=aNH a.X a.Y a.W a.H b.X b.Y b.W b.H
def iE (l:List aA) (a:Nat) (s:List Bool×zzI) (k:Nat):List Bool×zzI:=cond (!(s.1.getD k default)) (cond (sE (l.getD a default) (l.getD k default)) (s.1.set k true,s.2++[(k:Int)]) s) s
def q7 (l:List aA) (a:Nat) (s:List Bool×zzI):List Bool×zzI:=(List.range l.length).foldl (iE l a) s
def xH (l:List aA):Nat->Nat->List Bool×zzI->List Bool×zzI
 |0,_,s=>s
 |n+1,i,s=>cond (decide (i<s.2.length)) (xH l n (i+1) (q7 l (s.2.getD i default).toNat s)) s
def kR (l:List aA):Bool:=((xH l (l.length+1) 0 ((List.replicate l.length false).set 0 true,[0])).2.length:Int)==(l.length:Int)
theorem aGF {α σ:Type} [Inhabited α] (l:List α) (f:σ->α->σ) (Q:σ->Prop) (W:Nat->Int->σ->Prop) (hs:∀n (i:Nat) s,i<l.length->W n ((i+1:Nat):Int) (f s (l.getD i default))->W (n+1) i s)
  (hq:∀n s,Q s->W (n+1) l.length s):∀(n i:Nat) (s:σ),i<=l.length->l.length<n+i->Q ((l.drop i).foldl f s)->W n i s:=by
 intro n
 induction n with
 |zero=>intro i s h1 h2;omega
 |succ n ih=>
  intro i s h1 h2 hQ
  by_cases h:i<l.length
  ·rw[iJ l i h,List.foldl_cons] at hQ;exact hs n i s h (ih (i+1) _ (by omega) (by omega) hQ)
  ·obtain rfl:i=l.length:=by omega
   rw[List.drop_length] at hQ;exact hq n s hQ
def oT:Nat->Nat->Nat->Canon UU:=fun o b r=>cond (Nat.beq b 1) ⟨[1,3,4,80,81,82],[1],[],[],[]⟩ (cond (Nat.beq b 3) ⟨[1,2,102,103,104],[1],[],[],[]⟩ (cond (Nat.beq b 5) ⟨[1,2,8,102,103,104,112,113,114],[1,8],[],[],[]⟩ (⟨[],[],[],[],[]⟩)))
abbrev yB:=Int->Int->List aA->Int->Int->ByteArray->ByteArray->Int->Int->List aA->List aA->List aA->Prop
def aLM (qa qb:ByteArray) (qc qd:Int) (qe qj qk:List aA) (Q:Int->Prop) (i0:yB):Prop:=cond ((!(vn qa))||(!(vn qb))) (Q 2) (cond (!(lA qc qd)) (Q 1) (cond (((decide (12<(qe.length:Int)))||(decide (12<(qj.length:Int))))||(decide (12<(qk.length:Int)))) (Q 4) ((((((qe.length:Int)==0)=false->vW qe)/\(((((qe.length:Int)==0)||(!(dQ qe)))=false->vW qj)/\(((((qe.length:Int)==0)||(!(dQ qe)))||(!(dQ qj)))=false->vW qk)))/\cond (((((qe.length:Int)==0)||(!(dQ qe)))||(!(dQ qj)))||(!(dQ qk))) (Q 1) ((let e0:=(qe.getD 0 default);((0<=(0:Int)/\(0:Int)<qe.length)/\(let e1:=(qe.getD 0 default);((0<=(0:Int)/\(0:Int)<qe.length)/\i0 e0.X e1.Y qe (qe.length:Int) 0 qa qb qc qd qe qj qk)))))))))
def aU1 (rec x0:yB) (t3 t4:Int) (t80:List aA) (t81 t82:Int) (aQ aP:ByteArray) (aO aN:Int) (aH aK aL:List aA):Prop:=cond (decide (t82<t81)) ((let e0:=(t80.getD t82.toNat default);((0<=t82/\t82<t80.length)/\rec (mi t3 e0.X) (mi t4 e0.Y) t80 t81 (aC (t82+1)) aQ aP aO aN aH aK aL))) (x0 t3 t4 t80 t81 t82 aQ aP aO aN aH aK aL)
abbrev uD:=List aA->Int->Int->ByteArray->ByteArray->Int->Int->List aA->List aA->List aA->Prop
def aLN (Q:Int->Prop) (i1:uD) (t3 t4:Int) (t80:List aA) (t81 t82:Int) (aQ aP:ByteArray) (aO aN:Int) (aH aK aL:List aA):Prop:=cond ((t3 !=0)||(t4 !=0)) (Q 1) (i1 aH (aH.length:Int) 0 aQ aP aO aN aH aK aL)
abbrev aHs:=Int->List aA->Int->Int->ByteArray->ByteArray->Int->Int->List aA->List aA->List aA->Prop
abbrev uC:=List aA->Int->Int->List aA->Int->Int->ByteArray->ByteArray->Int->Int->List aA->List aA->List aA->Int->Int->Int->Int->Prop
def aU0 (rec x0:uD) (x1:aHs) (i2:uC) (t102:List aA) (t103 t104:Int) (aQ aP:ByteArray) (aO aN:Int) (aH aK aL:List aA):Prop:=cond (decide (t104<t103)) ((let e0:=(t102.getD t104.toNat default);((0<=t104/\t104<t102.length)/\((0<=t104/\t104<=aH.length)/\i2 t102 t103 t104 (aH.take t104.toNat) ((aH.take t104.toNat).length:Int) 0 aQ aP aO aN aH aK aL e0.X e0.Y e0.W e0.H)))) (x0 t102 t103 t104 aQ aP aO aN aH aK aL)
abbrev aMP:=Int->List aA->Int->Int->List aA->Int->Int->ByteArray->ByteArray->Int->Int->List aA->List aA->List aA->Int->Int->Int->Int->Prop
def aUZ (rec:uC) (x0:aMP) (x1:uC) (t102:List aA) (t103 t104:Int) (t112:List aA) (t113 t114:Int) (aQ aP:ByteArray) (aO aN:Int) (aH aK aL:List aA) (tU tT tS tR:Int):Prop:=cond (decide (t114<t113)) ((let e0:=(t112.getD t114.toNat default);((0<=t114/\t114<t112.length)/\(let r1:=(vG tU tT tS tR e0.X e0.Y e0.W e0.H);cond r1 (x0 7 t102 t103 t104 t112 t113 t114 aQ aP aO aN aH aK aL tU tT tS tR) (rec t102 t103 t104 t112 t113 (aC (t114+1)) aQ aP aO aN aH aK aL tU tT tS tR))))) (x1 t102 t103 t104 t112 t113 t114 aQ aP aO aN aH aK aL tU tT tS tR)
def aD2 (F:Nat) (x0:aMP) (x1:uC):Nat->uC
 |0=>fun _ _ _ _ _ _ _ _ _ _ _ _ _ _ _ _ _=>False
 |n+1=>aUZ (aD2 F x0 x1 n) x0 x1
def aJl (F:Nat) (rec x0:uD) (x1:aHs):uC:=aD2 F (fun t2 t102 t103 t104 _ _ _ aQ aP aO aN aH aK aL _ _ _ _=>x1 t2 t102 t103 t104 aQ aP aO aN aH aK aL) (fun t102 t103 t104 _ _ _ aQ aP aO aN aH aK aL _ _ _ _=>rec t102 t103 (aC (t104+1)) aQ aP aO aN aH aK aL) F
def j0 (F:Nat) (x0:uD) (x1:aHs):Nat->uD
 |0=>fun _ _ _ _ _ _ _ _ _ _=>False
 |n+1=>aU0 (j0 F x0 x1 n) x0 x1 (aJl F (j0 F x0 x1 n) x0 x1)
def aEo (F:Nat) (Q:Int->Prop):uD:=j0 F (fun _ _ _ aQ aP aO aN aH aK aL=>((1<=aH.length/\aH.length<=100)/\cond (!(kR aH)) (Q 6) ((let r0:=(aDw aQ aP aO aN aH aK aL);((aJH aQ aP aO aN aH aK aL)/\Q r0))))) (fun t2 _ _ _ _ _ _ _ _ _ _=>Q t2) F
def aAn (F:Nat) (x0:yB):Nat->yB
 |0=>fun _ _ _ _ _ _ _ _ _ _ _ _=>False
 |n+1=>aU1 (aAn F x0 n) x0
def aJm (F:Nat) (Q:Int->Prop):yB:=aAn F (aLN Q (aEo F Q)) F
def aIJ (F:Nat) (qa qb:ByteArray) (qc qd:Int) (qe qj qk:List aA) (Q:Int->Prop):Prop:=aLM qa qb qc qd qe qj qk Q (aJm F Q)
def ovP (a b:aA):Bool:=vG a.X a.Y a.W a.H b.X b.Y b.W b.H
def dC (R:List aA):Int×Int:=R.foldl (fun m r=>(mi m.1 r.X,mi m.2 r.Y)) ((R.getD 0 default).X,(R.getD 0 default).Y)
def iF (nm mt:ByteArray) (g gr:Int) (R C M:List aA):Int:=
 cond ((!(vn nm))||(!(vn mt))) 2 (cond (!(lA g gr)) 1 (cond (((decide (12<(R.length:Int)))||(decide (12<(C.length:Int))))||(decide (12<(M.length:Int)))) 4
  (cond (((((R.length:Int)==0)||(!(dQ R)))||(!(dQ C)))||(!(dQ M))) 1 (cond (((dC R).1 !=0)||((dC R).2 !=0)) 1
   (cond ((List.range R.length).any fun i=>(R.take i).any (ovP (R.getD i default))) 7 (cond (!(kR R)) 6 (aAC R C (C++M))))))))
def aEZ (nm mt:ByteArray) (g gr:Int) (R C M:List aA):Prop:=True
def aBB (nm mt:ByteArray) (g gr:Int) (R C M:List aA):Int:=iF nm mt g gr R C M
theorem bCk (qa qb:ByteArray) (qc qd:Int) (qe qj qk:List aA) (h:aEZ qa qb qc qd qe qj qk):
  ∃F,∀Q:Int->Prop,Q (aBB qa qb qc qd qe qj qk)->aIJ F qa qb qc qd qe qj qk Q:=by
 refine⟨60,fun Q hQ=>?_⟩;unfold aBB iF at hQ;unfold aIJ aLM;cases h1:((!(vn qa))||(!(vn qb)))
 ·rw[h1] at hQ;simp only[cond_false] at hQ ⊢;cases h2:!(lA qc qd)
  ·rw[h2] at hQ;simp only[cond_false] at hQ ⊢;cases h3:(((decide (12<(qe.length:Int)))||(decide (12<(qj.length:Int))))||(decide (12<(qk.length:Int))))
   ·rw[h3] at hQ;simp only[cond_false] at hQ ⊢;simp only[Bool.or_eq_false_iff,decide_eq_false_iff_not] at h3;have l1:qe.length<=12:=by omega
    have l2:qj.length<=12:=by omega
    have l3:qk.length<=12:=by omega
    refine⟨⟨fun _=>show _<=2000000 by omega,fun _=>show _<=2000000 by omega,fun _=>show _<=2000000 by omega⟩,?_⟩;cases h4:(((((qe.length:Int)==0)||(!(dQ qe)))||(!(dQ qj)))||(!(dQ qk)))
    ·rw[h4] at hQ;simp only[cond_false] at hQ ⊢;have hpos:0<qe.length:=by
      simp only[Bool.or_eq_false_iff,beq_eq_false_iff_ne] at h4;omega
     refine⟨⟨by omega,by omega⟩,⟨by omega,by omega⟩,?_⟩;unfold aJm;unfold dC at hQ;refine aGF qe (fun (m:Int×Int) r=>(mi m.1 r.X,mi m.2 r.Y)) (fun m=>aLN Q (aEo 60 Q) m.1 m.2 qe qe.length qe.length qa qb qc qd qe qj qk) (fun n i m=>aAn 60 _ n m.1 m.2 qe qe.length i _ _ _ _ _ _ _) (fun n i m hi hw=>?_) (fun n m hq=>?_) 60 0 ((qe.getD 0 default).X,(qe.getD 0 default).Y) (by omega) (by omega) ?_
     ·show cond (decide ((i:Int)<(qe.length:Int))) _ _;rw[aW (by omega),cond_true];refine⟨⟨by omega,by omega⟩,?_⟩;rw[Int.toNat_natCast,bX hi (by omega)];exact hw
     ·show cond (decide ((qe.length:Int)<(qe.length:Int))) _ _;rw[bD (by omega),cond_false];exact hq
     ·rw[List.drop_zero];generalize qe.foldl (fun (m:Int×Int) r=>(mi m.1 r.X,mi m.2 r.Y)) ((qe.getD 0 default).X,(qe.getD 0 default).Y)=m at hQ ⊢;show cond ((m.1 !=0)||(m.2 !=0)) _ _;cases h5:((m.1 !=0)||(m.2 !=0))
      ·rw[h5] at hQ;simp only[cond_false] at hQ ⊢;unfold aEo;refine lU qe.length (fun i=>(qe.take i).any (ovP (qe.getD i default))) (Q 7) (cond (!(kR qe)) (Q 6) (Q (aAC qe qj (qj++qk)))) (fun n i=>j0 60 _ _ n qe qe.length i qa qb qc qd qe qj qk) (fun n i hi hx hw=>?_) (fun n hy=>?_) 60 (by omega) (fun q=>?_) (fun q=>?_)
       ·show cond (decide ((i:Int)<(qe.length:Int))) _ _;rw[aW (by omega),cond_true];refine⟨⟨by omega,by omega⟩,⟨by omega,by omega⟩,?_⟩;rw[Int.toNat_natCast];unfold aJl;refine aWQ (qe.take i) (ovP (qe.getD i default)) (by simp;omega) (fun m j=>aD2 60 _ _ m qe qe.length i (qe.take i) ((qe.take i).length:Int) j _ _ _ _ _ _ _ _ _ _ _) (fun _=>Q 7) (fun _=>j0 60 _ _ n qe qe.length (aC ((i:Int)+1)) qa qb qc qd qe qj qk) (fun m j=>rfl) 60 (by simp;omega) (fun q j=>hx q) (fun q=>?_);rw[bX hi (by omega)];exact hw q
       ·show cond (decide ((qe.length:Int)<(qe.length:Int))) _ _;rw[bD (by omega),cond_false];refine⟨⟨by omega,by omega⟩,?_⟩;cases hc:!(kR qe)
        ·rw[hc] at hy;exact⟨⟨by omega,by omega,by omega⟩,hy⟩
        ·rw[hc] at hy;exact hy
       ·rw[q] at hQ;exact hQ
       ·rw[q,cond_false] at hQ;cases hc:!(kR qe)<;>rw[hc] at hQ<;>exact hQ
      ·rw[h5] at hQ;exact hQ
    ·rw[h4] at hQ;exact hQ
   ·rw[h3] at hQ;exact hQ
  ·rw[h2] at hQ;exact hQ
 ·rw[h1] at hQ;exact hQ
def uI:Nat->Nat->Nat->Canon UU:=fun o b r=>cond (Nat.beq b 0) ⟨[1,2,10,11,12],[1],[],[],[]⟩ (cond (Nat.beq b 2) ⟨[1,5,6,37,38,39],[1],[],[],[]⟩ (⟨[],[],[],[],[]⟩))
abbrev xW:=Int->List aA->Int->Int->ByteArray->ByteArray->Int->Int->List aA->List aA->List aA->Prop
def aTl (qa qb:ByteArray) (qc qd:Int) (qe qj qk:List aA) (Q:Int->Prop) (i0:xW):Prop:=i0 0 qe (qe.length:Int) 0 qa qb qc qd qe qj qk
def aTk (rec x0 x1:xW) (t2:Int) (t10:List aA) (t11 t12:Int) (aQ aP:ByteArray) (aO aN:Int) (aH aK aL:List aA):Prop:=cond (decide (t12<t11)) ((let e0:=(t10.getD t12.toNat default);((0<=t12/\t12<t10.length)/\cond (!(iW e0.X e0.Y e0.W e0.H)) (x0 1 t10 t11 t12 aQ aP aO aN aH aK aL) (rec t2 t10 t11 (aC (t12+1)) aQ aP aO aN aH aK aL)))) (x1 t2 t10 t11 t12 aQ aP aO aN aH aK aL)
def aTn (Q:Int->Prop) (t2:Int) (t10:List aA) (t11 t12:Int) (aQ aP:ByteArray) (aO aN:Int) (aH aK aL:List aA):Prop:=Q t2
abbrev xV:=Int->Int->List aA->Int->Int->ByteArray->ByteArray->Int->Int->List aA->List aA->List aA->Prop
def aTm (Q:Int->Prop) (i1:xV) (t2:Int) (t10:List aA) (t11 t12:Int) (aQ aP:ByteArray) (aO aN:Int) (aH aK aL:List aA):Prop:=cond ((aH.length:Int)==0) ((let r0:=(aBB aQ aP aO aN aH aK aL);((aEZ aQ aP aO aN aH aK aL)/\Q r0))) ((let e1:=(aH.getD 0 default);((0<=(0:Int)/\(0:Int)<aH.length)/\(let e2:=(aH.getD 0 default);((0<=(0:Int)/\(0:Int)<aH.length)/\i1 e1.X e2.Y aH (aH.length:Int) 0 aQ aP aO aN aH aK aL)))))
def aTj (rec x0:xV) (t5 t6:Int) (t37:List aA) (t38 t39:Int) (aQ aP:ByteArray) (aO aN:Int) (aH aK aL:List aA):Prop:=cond (decide (t39<t38)) ((let e0:=(t37.getD t39.toNat default);((0<=t39/\t39<t37.length)/\rec (mi t5 e0.X) (mi t6 e0.Y) t37 t38 (aC (t39+1)) aQ aP aO aN aH aK aL))) (x0 t5 t6 t37 t38 t39 aQ aP aO aN aH aK aL)
def aDV (F:Nat) (x0:xV):Nat->xV
 |0=>fun _ _ _ _ _ _ _ _ _ _ _ _=>False
 |n+1=>aTj (aDV F x0 n) x0
def aJ6 (F:Nat) (Q:Int->Prop):xV:=aDV F (fun t5 t6 _ _ _ aQ aP aO aN aH aK aL=>((aBT aH t5 t6)/\((aBT aK t5 t6)/\((aBT aL t5 t6)/\(let r0:=(aBB aQ aP aO aN (sN aH t5 t6) (sN aK t5 t6) (sN aL t5 t6));((aEZ aQ aP aO aN (sN aH t5 t6) (sN aK t5 t6) (sN aL t5 t6))/\Q r0)))))) F
def aAc (F:Nat) (x0 x1:xW):Nat->xW
 |0=>fun _ _ _ _ _ _ _ _ _ _ _=>False
 |n+1=>aTk (aAc F x0 x1 n) x0 x1
def aEk (F:Nat) (Q:Int->Prop):xW:=aAc F (aTn Q) (aTm Q (aJ6 F Q)) F
def aM5 (F:Nat) (qa qb:ByteArray) (qc qd:Int) (qe qj qk:List aA) (Q:Int->Prop):Prop:=aTl qa qb qc qd qe qj qk Q (aEk F Q)
def mvS (nm mt:ByteArray) (g gr:Int) (R C M:List aA):Int:=
 cond (!(R.all fS)) 1 (cond ((R.length:Int)==0) (iF nm mt g gr R C M) (iF nm mt g gr (R.map (gJ (dC R).1 (dC R).2)) (C.map (gJ (dC R).1 (dC R).2)) (M.map (gJ (dC R).1 (dC R).2))))
def aIu (nm mt:ByteArray) (g gr:Int) (R C M:List aA):Prop:=R.length<=2000000/\C.length<=2000000/\M.length<=2000000
def vC (nm mt:ByteArray) (g gr:Int) (R C M:List aA):Int:=mvS nm mt g gr R C M
theorem bC9 (qa qb:ByteArray) (qc qd:Int) (qe qj qk:List aA) (h:aIu qa qb qc qd qe qj qk):
  ∃F,∀Q:Int->Prop,Q (vC qa qb qc qd qe qj qk)->aM5 F qa qb qc qd qe qj qk Q:=by
 obtain⟨h1,h2,h3⟩:=h;refine⟨qe.length+1,fun Q hQ=>?_⟩;unfold vC mvS at hQ;show aEk (qe.length+1) Q 0 qe (qe.length:Int) 0 qa qb qc qd qe qj qk;unfold aEk;refine qK qe fS h1 (fun n i=>aAc (qe.length+1) _ _ n 0 qe qe.length i qa qb qc qd qe qj qk) _ _ (fun n i=>rfl) (qe.length+1) (by omega) (fun q j=>?_) (fun q=>?_)
 ·rw[q] at hQ;exact hQ
 ·rw[q] at hQ;change Q (cond ((qe.length:Int)==0) _ _) at hQ;show cond ((qe.length:Int)==0) _ _;cases h4:((qe.length:Int)==0)
  ·rw[h4] at hQ;simp only[cond_false] at hQ ⊢;have hpos:0<qe.length:=by
    simp only[beq_eq_false_iff_ne] at h4;omega
   refine⟨⟨by omega,by omega⟩,⟨by omega,by omega⟩,?_⟩;unfold aJ6;unfold dC at hQ;refine aGF qe (fun (m:Int×Int) r=>(mi m.1 r.X,mi m.2 r.Y)) (fun m=>Q (iF qa qb qc qd (qe.map (gJ m.1 m.2)) (qj.map (gJ m.1 m.2)) (qk.map (gJ m.1 m.2)))) (fun n i m=>aDV (qe.length+1) _ n m.1 m.2 qe qe.length i qa qb qc qd qe qj qk) (fun n i m hi hw=>?_) (fun n m hq=>?_) (qe.length+1) 0 ((qe.getD 0 default).X,(qe.getD 0 default).Y) (by omega) (by omega) hQ
   ·show cond (decide ((i:Int)<(qe.length:Int))) _ _;rw[aW (by omega),cond_true];refine⟨⟨by omega,by omega⟩,?_⟩;rw[Int.toNat_natCast,bX hi (by omega)];exact hw
   ·show cond (decide ((qe.length:Int)<(qe.length:Int))) _ _;rw[bD (by omega),cond_false];exact⟨h1,h2,h3,trivial,hq⟩
  ·rw[h4] at hQ;exact⟨trivial,hQ⟩
def kY:Nat->Nat->Nat->Canon UU:=fun o b r=>cond (Nat.beq b 0) ⟨[1,2,29,30,31],[1],[],[],[]⟩ (cond (Nat.beq b 2) ⟨[1,2,7,49,50,51],[1,7],[],[],[]⟩ (cond (Nat.beq b 4) ⟨[1,2,7,49,50,51,56,57,58],[1,7],[],[],[]⟩ (cond (Nat.beq b 6) ⟨[1,2,83,84,85],[1],[],[],[]⟩ (cond (Nat.beq b 8) ⟨[1,2,13,83,84,85,93,94,95],[1,13],[],[],[]⟩ (cond (Nat.beq b 10) ⟨[1,2,13,15,83,84,85,93,94,95,100,101,102],[1,13,15],[],[],[]⟩ (⟨[],[],[],[],[]⟩))))))
abbrev kW:=Int->List Pce->Int->Int->ByteArray->ByteArray->Int->Int->Int->Int->List aA->List aA->List Pce->Prop
def aLU (y0 y1:ByteArray) (y2 y3 y4 y5:Int) (y6 y7:List aA) (y8:List Pce) (Q:Int->Prop) (i0:kW):Prop:=(let r0:=(gX y0 y1 y2 y3 y4 y5 y6 y7);cond (r0 !=0) (Q r0) (cond (decide (8<(y8.length:Int))) (Q 4) (i0 0 y8 (y8.length:Int) 0 y0 y1 y2 y3 y4 y5 y6 y7 y8)))
def aVJ (rec x0 x1:kW) (t2:Int) (t29:List Pce) (t30 t31:Int) (aQ aP:ByteArray) (aO aN aH aK:Int) (aL bN:List aA) (bG:List Pce):Prop:=cond (decide (t31<t30)) ((let e0:=(t29.getD t31.toNat default);((0<=t31/\t31<t29.length)/\(let r1:=(vC e0.Name e0.Material e0.Gauge e0.Grain e0.Rects e0.Cuts e0.Forms);((aIu e0.Name e0.Material e0.Gauge e0.Grain e0.Rects e0.Cuts e0.Forms)/\cond (r1 !=0) (x0 r1 t29 t30 t31 aQ aP aO aN aH aK aL bN bG) (rec t2 t29 t30 (aC (t31+1)) aQ aP aO aN aH aK aL bN bG)))))) (x1 t2 t29 t30 t31 aQ aP aO aN aH aK aL bN bG)
def aLW (Q:Int->Prop) (t2:Int) (t29:List Pce) (t30 t31:Int) (aQ aP:ByteArray) (aO aN aH aK:Int) (aL bN:List aA) (bG:List Pce):Prop:=Q t2
abbrev uG:=Int->List Pce->Int->Int->ByteArray->ByteArray->Int->Int->Int->Int->List aA->List aA->List Pce->Int->Int->Int->Int->Prop
def aLV (Q:Int->Prop) (i1:uG) (t2:Int) (t29:List Pce) (t30 t31:Int) (aQ aP:ByteArray) (aO aN aH aK:Int) (aL bN:List aA) (bG:List Pce):Prop:=i1 t2 bG (bG.length:Int) 0 aQ aP aO aN aH aK aL bN bG 0 0 aH aK
abbrev yO:=Int->List Pce->Int->Int->List aA->Int->Int->ByteArray->ByteArray->Int->Int->Int->Int->List aA->List aA->List Pce->Int->Int->Int->Int->Prop
def aVI (rec x0 x1:uG) (i2:yO) (t2:Int) (t49:List Pce) (t50 t51:Int) (aQ aP:ByteArray) (aO aN aH aK:Int) (aL bN:List aA) (bG:List Pce) (cN cI dO dN:Int):Prop:=cond (decide (t51<t50)) ((let e0:=(t49.getD t51.toNat default);((0<=t51/\t51<t49.length)/\i2 t2 t49 t50 t51 e0.Rects (e0.Rects.length:Int) 0 aQ aP aO aN aH aK aL bN bG cN cI dO dN))) (x0 t2 t49 t50 t51 aQ aP aO aN aH aK aL bN bG cN cI dO dN)
def aGB (Q:Int->Prop) (i3:kW) (t2:Int) (t49:List Pce) (t50 t51:Int) (aQ aP:ByteArray) (aO aN aH aK:Int) (aL bN:List aA) (bG:List Pce) (cN cI dO dN:Int):Prop:=i3 t2 bG (bG.length:Int) 0 aQ aP aO aN aH aK aL bN bG
def aGA (Q:Int->Prop) (t2:Int) (t49:List Pce) (t50 t51:Int) (aQ aP:ByteArray) (aO aN aH aK:Int) (aL bN:List aA) (bG:List Pce) (cN cI dO dN:Int):Prop:=Q t2
def aVH (rec x0 x1:yO) (t2:Int) (t49:List Pce) (t50 t51:Int) (t56:List aA) (t57 t58:Int) (aQ aP:ByteArray) (aO aN aH aK:Int) (aL bN:List aA) (bG:List Pce) (cN cI dO dN:Int):Prop:=cond (decide (t58<t57)) ((let e0:=(t56.getD t58.toNat default);((0<=t58/\t58<t56.length)/\(let r1:=(pI e0.X e0.Y e0.W e0.H cN cI dO dN);((((!r1)=false->u4 e0.X e0.Y e0.W e0.H aL)/\(((!r1)||(oE e0.X e0.Y e0.W e0.H aL))=false->u4 e0.X e0.Y e0.W e0.H bN))/\cond (((!r1)||(oE e0.X e0.Y e0.W e0.H aL))||(oE e0.X e0.Y e0.W e0.H bN)) (x0 13 t49 t50 t51 t56 t57 t58 aQ aP aO aN aH aK aL bN bG cN cI dO dN) (rec t2 t49 t50 t51 t56 t57 (aC (t58+1)) aQ aP aO aN aH aK aL bN bG cN cI dO dN)))))) (x1 t2 t49 t50 t51 t56 t57 t58 aQ aP aO aN aH aK aL bN bG cN cI dO dN)
abbrev uF:=Int->List Pce->Int->Int->List Pce->Int->Int->ByteArray->ByteArray->Int->Int->Int->Int->List aA->List aA->List Pce->ByteArray->ByteArray->Int->Int->List aA->List aA->List aA->Prop
def aVG (rec x0 x1:kW) (i4:uF) (t2:Int) (t83:List Pce) (t84 t85:Int) (aQ aP:ByteArray) (aO aN aH aK:Int) (aL bN:List aA) (bG:List Pce):Prop:=cond (decide (t85<t84)) ((let e0:=(t83.getD t85.toNat default);((0<=t85/\t85<t83.length)/\((0<=t85/\t85<=bG.length)/\i4 t2 t83 t84 t85 (bG.take t85.toNat) ((bG.take t85.toNat).length:Int) 0 aQ aP aO aN aH aK aL bN bG e0.Name e0.Material e0.Gauge e0.Grain e0.Rects e0.Cuts e0.Forms)))) (x0 t2 t83 t84 t85 aQ aP aO aN aH aK aL bN bG)
abbrev yN:=Int->List Pce->Int->Int->List Pce->Int->Int->List aA->Int->Int->ByteArray->ByteArray->Int->Int->Int->Int->List aA->List aA->List Pce->ByteArray->ByteArray->Int->Int->List aA->List aA->List aA->ByteArray->ByteArray->Int->Int->List aA->List aA->List aA->Prop
def aVF (rec x0 x1:uF) (i5:yN) (t2:Int) (t83:List Pce) (t84 t85:Int) (t93:List Pce) (t94 t95:Int) (aQ aP:ByteArray) (aO aN aH aK:Int) (aL bN:List aA) (bG:List Pce) (cY cX:ByteArray) (cV cU:Int) (gW gO iK:List aA):Prop:=cond (decide (t95<t94)) ((let e0:=(t93.getD t95.toNat default);((0<=t95/\t95<t93.length)/\i5 t2 t83 t84 t85 t93 t94 t95 gW (gW.length:Int) 0 aQ aP aO aN aH aK aL bN bG cY cX cV cU gW gO iK e0.Name e0.Material e0.Gauge e0.Grain e0.Rects e0.Cuts e0.Forms))) (x0 t2 t83 t84 t85 t93 t94 t95 aQ aP aO aN aH aK aL bN bG cY cX cV cU gW gO iK)
def aVE (rec x0 x1:yN) (t2:Int) (t83:List Pce) (t84 t85:Int) (t93:List Pce) (t94 t95:Int) (t100:List aA) (t101 t102:Int) (aQ aP:ByteArray) (aO aN aH aK:Int) (aL bN:List aA) (bG:List Pce) (cY cX:ByteArray) (cV cU:Int) (gW gO iK:List aA) (aCf aCe:ByteArray) (aCd aCc:Int) (xG aCb aCa:List aA):Prop:=cond (decide (t102<t101)) ((let e0:=(t100.getD t102.toNat default);((0<=t102/\t102<t100.length)/\((u4 e0.X e0.Y e0.W e0.H xG)/\cond (oE e0.X e0.Y e0.W e0.H xG) (x0 7 t83 t84 t85 t93 t94 t95 t100 t101 t102 aQ aP aO aN aH aK aL bN bG cY cX cV cU gW gO iK aCf aCe aCd aCc xG aCb aCa) (rec t2 t83 t84 t85 t93 t94 t95 t100 t101 (aC (t102+1)) aQ aP aO aN aH aK aL bN bG cY cX cV cU gW gO iK aCf aCe aCd aCc xG aCb aCa))))) (x1 t2 t83 t84 t85 t93 t94 t95 t100 t101 t102 aQ aP aO aN aH aK aL bN bG cY cX cV cU gW gO iK aCf aCe aCd aCc xG aCb aCa)
def aDg (F:Nat) (x0 x1:yO):Nat->yO
 |0=>fun _ _ _ _ _ _ _ _ _ _ _ _ _ _ _ _ _ _ _ _=>False
 |n+1=>aVH (aDg F x0 x1 n) x0 x1
def aJu (F:Nat) (rec x0 x1:uG):yO:=aDg F (fun t2 t49 t50 t51 _ _ _ aQ aP aO aN aH aK aL bN bG cN cI dO dN=>x1 t2 t49 t50 t51 aQ aP aO aN aH aK aL bN bG cN cI dO dN) (fun t2 t49 t50 t51 _ _ _ aQ aP aO aN aH aK aL bN bG cN cI dO dN=>rec t2 t49 t50 (aC (t51+1)) aQ aP aO aN aH aK aL bN bG cN cI dO dN) F
def aDf (F:Nat) (x0 x1:yN):Nat->yN
 |0=>fun _ _ _ _ _ _ _ _ _ _ _ _ _ _ _ _ _ _ _ _ _ _ _ _ _ _ _ _ _ _ _ _ _=>False
 |n+1=>aVE (aDf F x0 x1 n) x0 x1
def aJs (F:Nat) (rec x0 x1:uF):yN:=aDf F (fun t2 t83 t84 t85 t93 t94 t95 _ _ _ aQ aP aO aN aH aK aL bN bG cY cX cV cU gW gO iK _ _ _ _ _ _ _=>x1 t2 t83 t84 t85 t93 t94 t95 aQ aP aO aN aH aK aL bN bG cY cX cV cU gW gO iK) (fun t2 t83 t84 t85 t93 t94 t95 _ _ _ aQ aP aO aN aH aK aL bN bG cY cX cV cU gW gO iK _ _ _ _ _ _ _=>rec t2 t83 t84 t85 t93 t94 (aC (t95+1)) aQ aP aO aN aH aK aL bN bG cY cX cV cU gW gO iK) F
def uX (F:Nat) (x0 x1:uF):Nat->uF
 |0=>fun _ _ _ _ _ _ _ _ _ _ _ _ _ _ _ _ _ _ _ _ _ _ _=>False
 |n+1=>aVF (uX F x0 x1 n) x0 x1 (aJs F (uX F x0 x1 n) x0 x1)
def aJt (F:Nat) (rec x0 x1:kW):uF:=uX F (fun t2 t83 t84 t85 _ _ _ aQ aP aO aN aH aK aL bN bG _ _ _ _ _ _ _=>rec t2 t83 t84 (aC (t85+1)) aQ aP aO aN aH aK aL bN bG) (fun t2 t83 t84 t85 _ _ _ aQ aP aO aN aH aK aL bN bG _ _ _ _ _ _ _=>x1 t2 t83 t84 t85 aQ aP aO aN aH aK aL bN bG) F
def uY (F:Nat) (x0 x1:kW):Nat->kW
 |0=>fun _ _ _ _ _ _ _ _ _ _ _ _ _=>False
 |n+1=>aVG (uY F x0 x1 n) x0 x1 (aJt F (uY F x0 x1 n) x0 x1)
def tG (F:Nat) (Q:Int->Prop):kW:=uY F (fun _ _ _ _ _ _ _ _ _ _ _ _ _=>Q 0) (fun t2 _ _ _ _ _ _ _ _ _ _ _ _=>Q t2) F
def sC (F:Nat) (x0 x1:uG):Nat->uG
 |0=>fun _ _ _ _ _ _ _ _ _ _ _ _ _ _ _ _ _=>False
 |n+1=>aVI (sC F x0 x1 n) x0 x1 (aJu F (sC F x0 x1 n) x0 x1)
def w9 (F:Nat) (Q:Int->Prop):uG:=sC F (aGB Q (tG F Q)) (aGA Q) F
def aAw (F:Nat) (x0 x1:kW):Nat->kW
 |0=>fun _ _ _ _ _ _ _ _ _ _ _ _ _=>False
 |n+1=>aVJ (aAw F x0 x1 n) x0 x1
def aJv (F:Nat) (Q:Int->Prop):kW:=aAw F (aLW Q) (aLV Q (w9 F Q)) F
def aIN (F:Nat) (y0 y1:ByteArray) (y2 y3 y4 y5:Int) (y6 y7:List aA) (y8:List Pce) (Q:Int->Prop):Prop:=aLU y0 y1 y2 y3 y4 y5 y6 y7 y8 Q (aJv F Q)
end
end Go.Proofs.YtjjbojomlfgjlaaGreatDoor
