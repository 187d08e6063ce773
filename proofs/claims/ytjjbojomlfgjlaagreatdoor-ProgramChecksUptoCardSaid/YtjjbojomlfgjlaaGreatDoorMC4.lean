/- Texts of this proof, one behind another: The maps of program.dialects as things that nobody writes: what it means, and what is foun; What program.dialects returns: the map of the three dialects, in new memory. Conditions: n; The kinds of elements of this seat's slices, and the first configuration of the interprete; strings.Builder at this program: what copyCheck and WriteString change, block by block. Co; The contracts of the library's functions that this seat calls: strings.Builder, strconv, s; Arguments that came in, with slices in the elements of slices, and with what holds of all ; What the rows of this seat give and ask: the variables that are laid, a world that lays th; Places that are marked one after another, and the parts of a grid that come of it. Conditi; The parts of a grid, by marking; what they are; that a finer grid has no fewer of them. Co; What pieces of code must make hold, in plain Lean; printed by gen.py. Conditions: none; de; What pieces of code must make hold, in plain Lean; printed by gen.py. Conditions: none; de; Lists of rectangles: what valid, Rights and inside return. Conditions: none.; What pieces of code must make hold, in plain Lean; printed by gen.py. Conditions: none; de; Sheets: what ValidateSheet returns. Conditions: none.; What pieces of code must make hold, in plain Lean; printed by gen.py. Conditions: none; de; Lists that are compared; the reference's union of lines; numbers in range. Conditions: non; What pieces of code must make hold, in plain Lean; printed by gen.py. Condition. Conditions: none. -/
import Derived.Test.YtjjbojomlfgjlaaGreatDoorMC3
import GoSem.Instr.Lookup
import GoSem.Instr.MapUpdate
import Derived.MapKept
import Derived.WalkKit
import Derived.Test.YtjjbojomlfgjlaaGreatDoorMC1
import Derived.WalkSmall
import Derived.Test.YtjjbojomlfgjlaaGreatDoorRows
import Derived.HandedShaped
import Derived.Handed
import Derived.LaidLaws
import Derived.LaidHandle
import Derived.LaidSub
import Derived.Stop.LaidErr
import Derived.Lib.LaidTab
import Derived.Lay
import Derived.MakeChecks
import Derived.ChangeMaps5
import Derived.Deep.DeepHandedRow
import Derived.Shelf.SlSortCmp.Insertion
import Derived.Lib.ItoaLen
import Derived.Lib.ItoaNum
import Derived.Shelf.Sort.Plain
import Derived.Ground.Names2Prog
import Derived.Shelf.Slices.CompactI
import Derived.Shelf.Slices.In.SortNone
import Derived.Test.YtjjbojomlfgjlaaGreatDoorProg
import Derived.Lib.OwnBridge
set_option linter.unusedVariables false
namespace Go.Proofs.YtjjbojomlfgjlaaGreatDoor
open Go.Vm Go.RowKit
def iV:List (Int×Value)->Nat->List MapEntry
 |[],_=>[]
 | (k,v)::l,c=>{key:=.int .i64 k,val:=v,born:=c}::iV l (c+1)
def pM (z:Value):List (Int×Value)->Int->Value
 |[],_=>z
 | (k,v)::l,n=>cond (n==k) v (pM z l n)
def iS:zzI->Int->Bool
 |[],_=>false
 |k::l,n=>cond (n==k) true (iS l n)
def gY:List (Int×ByteArray)->Int->ByteArray
 |[],_=>ByteArray.empty
 | (k,v)::l,n=>cond (n==k) v (gY l n)
def strs (l:List (Int×ByteArray)):List (Int×Value):=l.map fun p=>(p.1,.string p.2)
theorem aNP:∀(l:List (Int×ByteArray)) (n:Int),pM (.string ByteArray.empty) (strs l) n=.string (gY l n)
 |[],n=>rfl
 | (k,v)::l,n=>by
  have ih:=aNP l n;unfold strs at ih ⊢;simp only[List.map_cons,pM,gY];cases n==k
  ·exact ih
  ·rfl
theorem aL8 (n:Int) (z:Value):∀(l:List (Int×Value)) (c i:Nat),∃r,Instr.findNow (.int .i64) (.int .i64 n) (iV l c) i=some r/\
  ((iS (l.map (·.1)) n=false/\r=none/\pM z l n=z)\/(iS (l.map (·.1)) n=true/\∃j,r=some (j,pM z l n)))
 |[],c,i=>⟨none,rfl,.inl ⟨rfl,rfl,rfl⟩⟩
 | (k,v)::l,c,i=>by
  obtain⟨r,h1,h2⟩:=aL8 n z l (c+1) (i+1);simp only[iV,Instr.findNow,Instr.sameNow,if_true,List.map_cons,iS,pM];cases hb:n==k with
  |true=>exact⟨some (i,v),rfl,.inr ⟨rfl,i,rfl⟩⟩
  |false=>exact⟨r,h1,h2⟩
theorem aVu {k:TypeId} (hk:Tryz.prog.underlying k=some (.int .i64)) {q:Bool} {n:Int} {w:World}:(Instr.checkKey q 10000 k (.int .i64 n)).run Tryz.prog w=.ok () w:=by
 rw[show (10000:Nat)=9999+1 from rfl];unfold Instr.checkKey;simp only[Sem.run_bind,run_underlying hk,Result.andThen_ok];rfl
theorem aR1 {t k e:TypeId} (ht:Tryz.prog.underlying t=some (.map k e)) (hk:Tryz.prog.underlying k=some (.int .i64)) {z:Value} {w:World} (hz:(zeroValue e).run Tryz.prog w=.ok z w) {b clock:Nat} {l:List (Int×Value)} (hb:w.heap[b]?=some (.map (iV l 0).toArray clock)) (n:Int):
  (Instr.lookup t (.map (some b)) (.int .i64 n) true).run Tryz.prog w=.ok (.tuple #[pM z l n,.bool (iS (l.map (·.1)) n)]) w:=by
 obtain⟨r,h1,h2⟩:=aL8 n z l 0 0;have hc:∀q,(Instr.checkKey q 10000 k (.int .i64 n)).run Tryz.prog w=.ok () w:=fun q=>by
  rw[aVu hk]
 have hf:(Instr.findKey k (.int .i64 n) (iV l 0)).run Tryz.prog w=.ok r w:=by
  unfold Instr.findKey;simp only[Sem.run_bind,run_underlying hk,Result.andThen_ok,h1,Sem.run_pure]
 have hg:=MapKept.run_getObj_map (P:=Tryz.prog) hb;unfold Instr.lookup;rcases h2 with ⟨h3,rfl,h4⟩|⟨h3,j,rfl⟩
 ·simp only[Sem.run_bind,run_underlying ht,Result.andThen_ok,hg,hc,hf,hz,Sem.run_pure];rw[h3,h4];rfl
 ·simp only[Sem.run_bind,run_underlying ht,Result.andThen_ok,hg,hc,hf,Sem.run_pure];rw[h3];rfl
theorem aVd:∀(l:List (Int×Value)) (c:Nat) (n:Int) (v:Value),iV (l++[(n,v)]) c=iV l c++[{key:=.int .i64 n,val:=v,born:=c+l.length}]
 |[],c,n,v=>rfl
 | (k,x)::l,c,n,v=>by
  simp only[List.cons_append,iV,aVd l (c+1) n v,List.length_cons];rw[show c+1+l.length=c+(l.length+1) by omega]
theorem bFl {t k e:TypeId} (ht:Tryz.prog.underlying t=some (.map k e)) (hk:Tryz.prog.underlying k=some (.int .i64)) {w:World} {b:Nat} {l:List (Int×Value)} (hb:w.heap[b]?=some (.map (iV l 0).toArray l.length)) (n:Int) (v:Value) (hn:iS (l.map (·.1)) n=false):
  (Instr.mapUpdate t (.map (some b)) (.int .i64 n) v).run Tryz.prog w=.ok () {w with heap:=w.heap.setIfInBounds b (.map (iV (l++[(n,v)]) 0).toArray (l++[(n,v)]).length)}:=by
 obtain⟨r,h1,h2⟩:=aL8 n (.map none) l 0 0;have hr:r=none:=by
  rcases h2 with ⟨_,h,_⟩|⟨h,_⟩
  ·exact h
  ·rw[hn] at h;cases h
 subst hr;have hf:(Instr.findKey k (.int .i64 n) (iV l 0)).run Tryz.prog w=.ok none w:=by
  unfold Instr.findKey;simp only[Sem.run_bind,run_underlying hk,Result.andThen_ok,h1,Sem.run_pure]
 have hg:=MapKept.run_getObj_map (P:=Tryz.prog) hb;have hs:=MapKept.run_setObj_map (P:=Tryz.prog) (.map ((iV l 0).toArray.push {key:=.int .i64 n,val:=v,born:=l.length}) (l.length+1)) hb;unfold Instr.mapUpdate;simp only[Sem.run_bind,run_underlying ht,Result.andThen_ok,hg,aVu hk,hf,hs];rw[aVd,List.length_append,Nat.zero_add];have e:∀x:MapEntry,(iV l 0).toArray.push x=(iV l 0++[x]).toArray:=fun x=>by simp
 rw[e];rfl
inductive Frz where
 |D
 |W1
 |W2
 |W3
def zW:List (Int×ByteArray):=[(1,ByteArray.mk #[109,111,118,101]),(2,ByteArray.mk #[108,105,110,101]),(4,ByteArray.mk #[98,114,101,97,107]),(3,ByteArray.mk #[115,116,97,109,112])]
def lJ:List (Int×ByteArray):=[(1,ByteArray.mk #[109]),(2,ByteArray.mk #[108]),(4,ByteArray.mk #[98]),(3,ByteArray.mk #[115])]
def zV:List (Int×ByteArray):=[(5,ByteArray.mk #[109,111,117,110,116]),(6,ByteArray.mk #[98,101,110,100])]
def fv (f:Nat):Value:=.func (.func f) #[] #[]
def lD (v1 v2 v3:Value):List (Int×Value):=[(1,.agg #[v1,fv 99,fv 101]),(2,.agg #[v2,fv 100,fv 102]),(3,.agg #[v3,fv 103,fv 104])]
def isMap (l:List (Int×Value)) (w:World) (st:Nat->Prop) (v:Value):Prop:=∃b,v=.map (some b)/\st b/\w.heap[b]?=some (.map (iV l 0).toArray l.length)
def aCV:Frz->World->(Nat->Prop)->Value->Prop
 | .W1,w,st,v=>isMap (strs zW) w st v
 | .W2,w,st,v=>isMap (strs lJ) w st v
 | .W3,w,st,v=>isMap (strs zV) w st v
 | .D,w,st,v=>∃v1 v2 v3,isMap (strs zW) w st v1/\isMap (strs lJ) w st v2/\isMap (strs zV) w st v3/\isMap (lD v1 v2 v3) w st v
theorem aCL {l:List (Int×Value)} {w w':World} {st st':Nat->Prop} {v:Value} (h:isMap l w st v) (hst:∀b,st b->st' b/\w'.heap[b]?=w.heap[b]?):isMap l w' st' v:=by
 obtain⟨b,rfl,h1,h2⟩:=h;exact⟨b,rfl,(hst b h1).1,(hst b h1).2.trans h2⟩
theorem bGi:∀k w w' st st' v,aCV k w st v->(∀b,st b->st' b/\w'.heap[b]?=w.heap[b]?)->aCV k w' st' v:=by
 intro k w w' st st' v h hst;cases k with
 |D=>
  obtain⟨v1,v2,v3,h1,h2,h3,h4⟩:=h;exact⟨v1,v2,v3,aCL h1 hst,aCL h2 hst,aCL h3 hst,aCL h4 hst⟩
 |_=>exact aCL h hst
theorem bGj:∀k w st v,aCV k w st v->v.oneCell'=true:=by
 intro k w st v h;cases k with
 |D=>
  obtain⟨v1,v2,v3,h1,h2,h3,b,rfl,_⟩:=h;rfl
 |_=>
  obtain⟨b,rfl,_⟩:=h;rfl
end Go.Proofs.YtjjbojomlfgjlaaGreatDoor
set_option linter.unusedVariables false
namespace Go.Proofs.YtjjbojomlfgjlaaGreatDoor
open Go.Vm Go.RowKit
def M (l:List (Int×Value)):Obj:=.map (iV l 0).toArray l.length
def gr (w:World) (xs:List Obj):World:={w with heap:=w.heap++xs.toArray}
theorem bGS (w:World):w=gr w []:=by
 cases w;simp[gr]
theorem aCR (w:World) (xs:List Obj) (i:Nat):(gr w xs).heap[w.heap.size+i]?=xs[i]?:=by
 show (w.heap++xs.toArray)[w.heap.size+i]?=_;rw[Array.getElem?_append_right (by omega),Nat.add_sub_cancel_left];simp
theorem bGT (w:World) (xs:List Obj):Below w.heap.size w (gr w xs):=
 ⟨rfl,rfl,rfl,by simp[gr],fun k hk=>by show (w.heap++xs.toArray)[k]?=_;rw[Array.getElem?_append_left hk]⟩
theorem aFA (t:TypeId) (w:World) (xs:List Obj):(Instr.makeMap t none).run Tryz.prog (gr w xs)=.ok (.map (some (w.heap.size+xs.length))) (gr w (xs++[M []])):=by
 have e:∀(w':World),(Instr.makeMap t none).run Tryz.prog w'=.ok (.map (some w'.heap.size)) {w' with heap:=w'.heap.push (.map #[] 0)}:=fun w'=>rfl
 rw[e];have h1:(gr w xs).heap.size=w.heap.size+xs.length:=by simp[gr]
 rw[h1];have h2:({gr w xs with heap:=(gr w xs).heap.push (.map #[] 0)}:World)=gr w (xs++[M []]):=by
  simp only[gr,M,iV,List.length_nil,World.mk.injEq,and_true];rw[Array.push_eq_append,Array.append_assoc];simp
 rw[h2]
theorem nM {t k e:TypeId} (ht:Tryz.prog.underlying t=some (.map k e)) (hk:Tryz.prog.underlying k=some (.int .i64)) (w:World) (xs xs':List Obj) (i:Nat) (l:List (Int×Value)) (n:Int) (v:Value) (hx:xs[i]?=some (M l)) (hn:iS (l.map (·.1)) n=false) (h':xs.set i (M (l++[(n,v)]))=xs'):
  (Instr.mapUpdate t (.map (some (w.heap.size+i))) (.int .i64 n) v).run Tryz.prog (gr w xs)=.ok () (gr w xs'):=by
 have hb:(gr w xs).heap[w.heap.size+i]?=some (.map (iV l 0).toArray l.length):=(aCR w xs i).trans hx;rw[bFl ht hk hb n v hn,<- h'];have h2:({gr w xs with heap:=(gr w xs).heap.setIfInBounds (w.heap.size+i) (.map (iV (l++[(n,v)]) 0).toArray (l++[(n,v)]).length)}:World)=gr w (xs.set i (M (l++[(n,v)]))):=by
  simp only[gr,M,World.mk.injEq,and_true];rw[Array.setIfInBounds_append_right (by omega),Nat.add_sub_cancel_left];simp
 rw[h2]
theorem aKo {t k e:TypeId} (ht:Tryz.prog.underlying t=some (.map k e)) (hk:Tryz.prog.underlying k=some (.int .i64)) (w:World) (xs xs':List Obj) (l:List (Int×Value)) (n:Int) (v:Value) (hx:xs[0]?=some (M l)) (hn:iS (l.map (·.1)) n=false) (h':xs.set 0 (M (l++[(n,v)]))=xs'):
  (Instr.mapUpdate t (.map (some w.heap.size)) (.int .i64 n) v).run Tryz.prog (gr w xs)=.ok () (gr w xs'):=
 nM ht hk w xs xs' 0 l n v hx hn h'
set_option maxRecDepth 100000 in
theorem bIn (w:World):Calls Tryz.prog 44 #[] w fun e w'=>e=.returned (.map (some w.heap.size))/\
  w'=gr w [M (lD (.map (some (w.heap.size+1))) (.map (some (w.heap.size+2))) (.map (some (w.heap.size+3)))),M (strs zW),M (strs lJ),M (strs zV)]:=by
 have key:Calls Tryz.prog 44 #[] (gr w []) fun e w'=>e=.returned (.map (some w.heap.size))/\
   w'=gr w [M (lD (.map (some (w.heap.size+1))) (.map (some (w.heap.size+2))) (.map (some (w.heap.size+3)))),M (strs zW),M (strs lJ),M (strs zV)]:=by
  go_enter Tryz.func44,Tryz.ntmps44
  go_wp2
  rw[aFA]
  go_wp2
  rw[aFA]
  go_wp2
  rw[nM Tryz.underlying99 Tryz.underlying3 w _ [M [],M [(1,.string (ByteArray.mk #[109,111,118,101]))]] 1 [] 1 (.string (ByteArray.mk #[109,111,118,101])) rfl rfl rfl]
  go_wp2
  rw[nM Tryz.underlying99 Tryz.underlying3 w _ [M [],M [(1,.string (ByteArray.mk #[109,111,118,101])),(2,.string (ByteArray.mk #[108,105,110,101]))]] 1 [(1,.string (ByteArray.mk #[109,111,118,101]))] 2 (.string (ByteArray.mk #[108,105,110,101])) rfl rfl rfl]
  go_wp2
  rw[nM Tryz.underlying99 Tryz.underlying3 w _ [M [],M [(1,.string (ByteArray.mk #[109,111,118,101])),(2,.string (ByteArray.mk #[108,105,110,101])),(4,.string (ByteArray.mk #[98,114,101,97,107]))]] 1 [(1,.string (ByteArray.mk #[109,111,118,101])),(2,.string (ByteArray.mk #[108,105,110,101]))] 4 (.string (ByteArray.mk #[98,114,101,97,107])) rfl rfl rfl]
  go_wp2
  rw[nM Tryz.underlying99 Tryz.underlying3 w _ [M [],M [(1,.string (ByteArray.mk #[109,111,118,101])),(2,.string (ByteArray.mk #[108,105,110,101])),(4,.string (ByteArray.mk #[98,114,101,97,107])),(3,.string (ByteArray.mk #[115,116,97,109,112]))]] 1 [(1,.string (ByteArray.mk #[109,111,118,101])),(2,.string (ByteArray.mk #[108,105,110,101])),(4,.string (ByteArray.mk #[98,114,101,97,107]))] 3 (.string (ByteArray.mk #[115,116,97,109,112])) rfl rfl rfl]
  go_wp2
  rw[aKo Tryz.underlying105 Tryz.underlying3 w _ [M [(1,.agg #[.map (some (w.heap.size+1)),Value.func (Fn.func 99) #[] #[],Value.func (Fn.func 101) #[] #[]])],M [(1,.string (ByteArray.mk #[109,111,118,101])),(2,.string (ByteArray.mk #[108,105,110,101])),(4,.string (ByteArray.mk #[98,114,101,97,107])),(3,.string (ByteArray.mk #[115,116,97,109,112]))]] [] 1 (.agg #[.map (some (w.heap.size+1)),Value.func (Fn.func 99) #[] #[],Value.func (Fn.func 101) #[] #[]]) rfl rfl rfl]
  go_wp2
  rw[aFA]
  go_wp2
  rw[nM Tryz.underlying99 Tryz.underlying3 w _ [M [(1,.agg #[.map (some (w.heap.size+1)),Value.func (Fn.func 99) #[] #[],Value.func (Fn.func 101) #[] #[]])],M [(1,.string (ByteArray.mk #[109,111,118,101])),(2,.string (ByteArray.mk #[108,105,110,101])),(4,.string (ByteArray.mk #[98,114,101,97,107])),(3,.string (ByteArray.mk #[115,116,97,109,112]))],M [(1,.string (ByteArray.mk #[109]))]] 2 [] 1 (.string (ByteArray.mk #[109])) rfl rfl rfl]
  go_wp2
  rw[nM Tryz.underlying99 Tryz.underlying3 w _ [M [(1,.agg #[.map (some (w.heap.size+1)),Value.func (Fn.func 99) #[] #[],Value.func (Fn.func 101) #[] #[]])],M [(1,.string (ByteArray.mk #[109,111,118,101])),(2,.string (ByteArray.mk #[108,105,110,101])),(4,.string (ByteArray.mk #[98,114,101,97,107])),(3,.string (ByteArray.mk #[115,116,97,109,112]))],M [(1,.string (ByteArray.mk #[109])),(2,.string (ByteArray.mk #[108]))]] 2 [(1,.string (ByteArray.mk #[109]))] 2 (.string (ByteArray.mk #[108])) rfl rfl rfl]
  go_wp2
  rw[nM Tryz.underlying99 Tryz.underlying3 w _ [M [(1,.agg #[.map (some (w.heap.size+1)),Value.func (Fn.func 99) #[] #[],Value.func (Fn.func 101) #[] #[]])],M [(1,.string (ByteArray.mk #[109,111,118,101])),(2,.string (ByteArray.mk #[108,105,110,101])),(4,.string (ByteArray.mk #[98,114,101,97,107])),(3,.string (ByteArray.mk #[115,116,97,109,112]))],M [(1,.string (ByteArray.mk #[109])),(2,.string (ByteArray.mk #[108])),(4,.string (ByteArray.mk #[98]))]] 2 [(1,.string (ByteArray.mk #[109])),(2,.string (ByteArray.mk #[108]))] 4 (.string (ByteArray.mk #[98])) rfl rfl rfl]
  go_wp2
  rw[nM Tryz.underlying99 Tryz.underlying3 w _ [M [(1,.agg #[.map (some (w.heap.size+1)),Value.func (Fn.func 99) #[] #[],Value.func (Fn.func 101) #[] #[]])],M [(1,.string (ByteArray.mk #[109,111,118,101])),(2,.string (ByteArray.mk #[108,105,110,101])),(4,.string (ByteArray.mk #[98,114,101,97,107])),(3,.string (ByteArray.mk #[115,116,97,109,112]))],M [(1,.string (ByteArray.mk #[109])),(2,.string (ByteArray.mk #[108])),(4,.string (ByteArray.mk #[98])),(3,.string (ByteArray.mk #[115]))]] 2 [(1,.string (ByteArray.mk #[109])),(2,.string (ByteArray.mk #[108])),(4,.string (ByteArray.mk #[98]))] 3 (.string (ByteArray.mk #[115])) rfl rfl rfl]
  go_wp2
  rw[aKo Tryz.underlying105 Tryz.underlying3 w _ [M [(1,.agg #[.map (some (w.heap.size+1)),Value.func (Fn.func 99) #[] #[],Value.func (Fn.func 101) #[] #[]]),(2,.agg #[.map (some (w.heap.size+2)),Value.func (Fn.func 100) #[] #[],Value.func (Fn.func 102) #[] #[]])],M [(1,.string (ByteArray.mk #[109,111,118,101])),(2,.string (ByteArray.mk #[108,105,110,101])),(4,.string (ByteArray.mk #[98,114,101,97,107])),(3,.string (ByteArray.mk #[115,116,97,109,112]))],M [(1,.string (ByteArray.mk #[109])),(2,.string (ByteArray.mk #[108])),(4,.string (ByteArray.mk #[98])),(3,.string (ByteArray.mk #[115]))]] [(1,.agg #[.map (some (w.heap.size+1)),Value.func (Fn.func 99) #[] #[],Value.func (Fn.func 101) #[] #[]])] 2 (.agg #[.map (some (w.heap.size+2)),Value.func (Fn.func 100) #[] #[],Value.func (Fn.func 102) #[] #[]]) rfl rfl rfl]
  go_wp2
  rw[aFA]
  go_wp2
  rw[nM Tryz.underlying99 Tryz.underlying3 w _ [M [(1,.agg #[.map (some (w.heap.size+1)),Value.func (Fn.func 99) #[] #[],Value.func (Fn.func 101) #[] #[]]),(2,.agg #[.map (some (w.heap.size+2)),Value.func (Fn.func 100) #[] #[],Value.func (Fn.func 102) #[] #[]])],M [(1,.string (ByteArray.mk #[109,111,118,101])),(2,.string (ByteArray.mk #[108,105,110,101])),(4,.string (ByteArray.mk #[98,114,101,97,107])),(3,.string (ByteArray.mk #[115,116,97,109,112]))],M [(1,.string (ByteArray.mk #[109])),(2,.string (ByteArray.mk #[108])),(4,.string (ByteArray.mk #[98])),(3,.string (ByteArray.mk #[115]))],M [(5,.string (ByteArray.mk #[109,111,117,110,116]))]] 3 [] 5 (.string (ByteArray.mk #[109,111,117,110,116])) rfl rfl rfl]
  go_wp2
  rw[nM Tryz.underlying99 Tryz.underlying3 w _ [M [(1,.agg #[.map (some (w.heap.size+1)),Value.func (Fn.func 99) #[] #[],Value.func (Fn.func 101) #[] #[]]),(2,.agg #[.map (some (w.heap.size+2)),Value.func (Fn.func 100) #[] #[],Value.func (Fn.func 102) #[] #[]])],M [(1,.string (ByteArray.mk #[109,111,118,101])),(2,.string (ByteArray.mk #[108,105,110,101])),(4,.string (ByteArray.mk #[98,114,101,97,107])),(3,.string (ByteArray.mk #[115,116,97,109,112]))],M [(1,.string (ByteArray.mk #[109])),(2,.string (ByteArray.mk #[108])),(4,.string (ByteArray.mk #[98])),(3,.string (ByteArray.mk #[115]))],M [(5,.string (ByteArray.mk #[109,111,117,110,116])),(6,.string (ByteArray.mk #[98,101,110,100]))]] 3 [(5,.string (ByteArray.mk #[109,111,117,110,116]))] 6 (.string (ByteArray.mk #[98,101,110,100])) rfl rfl rfl]
  go_wp2
  rw[aKo Tryz.underlying105 Tryz.underlying3 w _ [M [(1,.agg #[.map (some (w.heap.size+1)),Value.func (Fn.func 99) #[] #[],Value.func (Fn.func 101) #[] #[]]),(2,.agg #[.map (some (w.heap.size+2)),Value.func (Fn.func 100) #[] #[],Value.func (Fn.func 102) #[] #[]]),(3,.agg #[.map (some (w.heap.size+3)),Value.func (Fn.func 103) #[] #[],Value.func (Fn.func 104) #[] #[]])],M [(1,.string (ByteArray.mk #[109,111,118,101])),(2,.string (ByteArray.mk #[108,105,110,101])),(4,.string (ByteArray.mk #[98,114,101,97,107])),(3,.string (ByteArray.mk #[115,116,97,109,112]))],M [(1,.string (ByteArray.mk #[109])),(2,.string (ByteArray.mk #[108])),(4,.string (ByteArray.mk #[98])),(3,.string (ByteArray.mk #[115]))],M [(5,.string (ByteArray.mk #[109,111,117,110,116])),(6,.string (ByteArray.mk #[98,101,110,100]))]] [(1,.agg #[.map (some (w.heap.size+1)),Value.func (Fn.func 99) #[] #[],Value.func (Fn.func 101) #[] #[]]),(2,.agg #[.map (some (w.heap.size+2)),Value.func (Fn.func 100) #[] #[],Value.func (Fn.func 102) #[] #[]])] 3 (.agg #[.map (some (w.heap.size+3)),Value.func (Fn.func 103) #[] #[],Value.func (Fn.func 104) #[] #[]]) rfl rfl rfl]
  go_wp2
  go_ret
  exact⟨rfl,rfl⟩
 rw[<- bGS w] at key;exact key
end Go.Proofs.YtjjbojomlfgjlaaGreatDoor
namespace Go.Proofs.YtjjbojomlfgjlaaGreatDoor
open Go.Vm Go.RowKit
set_option linter.unusedVariables false
structure Seg where
 X1:Int
 Y1:Int
 X2:Int
 Y2:Int
instance:Inhabited Seg:=⟨⟨default,default,default,default⟩⟩
structure aA where
 X:Int
 Y:Int
 W:Int
 H:Int
instance:Inhabited aA:=⟨⟨default,default,default,default⟩⟩
structure Opn where
 Kind:Int
 X:Int
 Y:Int
 W:Int
 H:Int
 N:Int
instance:Inhabited Opn:=⟨⟨default,default,default,default,default,default⟩⟩
structure Cel where
 i:Int
 j:Int
instance:Inhabited Cel:=⟨⟨default,default⟩⟩
structure Par where
 e0:Int
 e1:Int
instance:Inhabited Par:=⟨⟨default,default⟩⟩
structure Pce where
 Name:ByteArray
 Material:ByteArray
 Gauge:Int
 Grain:Int
 Rects:List aA
 Cuts:List aA
 Forms:List aA
instance:Inhabited Pce:=⟨⟨default,default,default,default,default,default,default⟩⟩
inductive Knd where
 |seg
 |rect
 |op
 |int
 |str
 |rects
 |bool
 |bools
 |ints
 |cell
 |par
 |pc
def Knd.num:Knd->Nat
 | .seg=>0
 | .rect=>1
 | .op=>2
 | .int=>3
 | .str=>4
 | .rects=>5
 | .bool=>6
 | .bools=>7
 | .ints=>8
 | .cell=>9
 | .par=>10
 | .pc=>11
theorem Knd.bDL:∀{a b:Knd},a.num=b.num->a=b:=by
 intro a b h;cases a<;>cases b<;>first|rfl|cases h
def Knd.deq (a b:Knd):Decidable (a=b):=if h:a.num=b.num then .isTrue (Knd.bDL h) else .isFalse fun e=>h (by rw[e])
inductive Opq where
 |bld
 |dead
abbrev UU:dH where
 τ:=Knd
 deq:=Knd.deq
 T:=fun k=>match k with
  | .seg=>Seg
  | .rect=>aA
  | .op=>Opn
  | .int=>Int
  | .str=>ByteArray
  | .rects=>List aA
  | .bool=>Bool
  | .bools=>List Bool
  | .ints=>zzI
  | .cell=>Cel
  | .par=>Par
  | .pc=>Pce
 ety:=fun k=>match k with
  | .seg=>63
  | .rect=>53
  | .op=>55
  | .int=>3
  | .str=>9
  | .rects=>22
  | .bool=>4
  | .bools=>43
  | .ints=>45
  | .cell=>208
  | .par=>254
  | .pc=>51
 size:=fun k=>match k with
  | .seg=>4
  | .rect=>4
  | .op=>6
  | .int=>1
  | .str=>1
  | .rects=>1
  | .bool=>1
  | .bools=>1
  | .ints=>1
  | .cell=>2
  | .par=>2
  | .pc=>7
 unsl:=fun t t1=>match t,t1 with
  | .rects,.rect=>fun ys=>some ys
  | .bools,.bool=>fun ys=>some ys
  | .ints,.int=>fun ys=>some ys
  |_,_=>fun _=>none
 κ:=Opq
 K:=fun k=>match k with
  | .bld=>ByteArray
  | .dead=>Unit
 φ:=Frz
def wW:(t:Knd)->UU.T t->List (aB UU)
 | .seg,x=>[.int .i64 (Seg.X1 x),.int .i64 (Seg.Y1 x),.int .i64 (Seg.X2 x),.int .i64 (Seg.Y2 x)]
 | .rect,x=>[.int .i64 (aA.X x),.int .i64 (aA.Y x),.int .i64 (aA.W x),.int .i64 (aA.H x)]
 | .op,x=>[.int .i64 (Opn.Kind x),.int .i64 (Opn.X x),.int .i64 (Opn.Y x),.int .i64 (Opn.W x),.int .i64 (Opn.H x),.int .i64 (Opn.N x)]
 | .int,x=>[.int .i64 x]
 | .str,x=>[.str x]
 | .rects,x=>[.sl .rect x]
 | .bool,x=>[.bool x]
 | .bools,x=>[.sl .bool x]
 | .ints,x=>[.sl .int x]
 | .cell,x=>[.int .i64 (Cel.i x),.int .i64 (Cel.j x)]
 | .par,x=>[.int .i64 (Par.e0 x),.int .i64 (Par.e1 x)]
 | .pc,x=>[.str (Pce.Name x),.str (Pce.Material x),.int .i64 (Pce.Gauge x),.int .i64 (Pce.Grain x),.sl .rect (Pce.Rects x),.sl .rect (Pce.Cuts x),.sl .rect (Pce.Forms x)]
def sR (t:Knd):aB UU->Option (List (UU.T t))
 | .sl t2 ys=>kD (U:=UU) t t2 ys
 | .nils=>some []
 |_=>none
theorem o9 {t:Knd} {y:aB UU} {zs:List (UU.T t)} (h:sR t y=some zs):y=.sl t zs\/(y=.nils/\zs=[]):=by
 unfold sR at h;split at h
 ·rename_i t2 ys;obtain⟨rfl,rfl⟩:=kS h;exact .inl rfl
 ·cases h;exact .inr ⟨rfl,rfl⟩
 ·cases h
def aC5:(t:Knd)->List (aB UU)->Option (UU.T t)
 | .seg,[.int .i64 x0,.int .i64 x1,.int .i64 x2,.int .i64 x3]=>some ⟨x0,x1,x2,x3⟩
 | .rect,[.int .i64 x0,.int .i64 x1,.int .i64 x2,.int .i64 x3]=>some ⟨x0,x1,x2,x3⟩
 | .op,[.int .i64 x0,.int .i64 x1,.int .i64 x2,.int .i64 x3,.int .i64 x4,.int .i64 x5]=>some ⟨x0,x1,x2,x3,x4,x5⟩
 | .int,[.int .i64 x0]=>some x0
 | .str,[.str x0]=>some x0
 | .rects,[y0]=>(sR .rect y0).bind fun z0=>some z0
 | .bool,[.bool x0]=>some x0
 | .bools,[y0]=>(sR .bool y0).bind fun z0=>some z0
 | .ints,[y0]=>(sR .int y0).bind fun z0=>some z0
 | .cell,[.int .i64 x0,.int .i64 x1]=>some ⟨x0,x1⟩
 | .par,[.int .i64 x0,.int .i64 x1]=>some ⟨x0,x1⟩
 | .pc,[.str x0,.str x1,.int .i64 x2,.int .i64 x3,y4,y5,y6]=>(sR .rect y4).bind fun z4=>(sR .rect y5).bind fun z5=>(sR .rect y6).bind fun z6=>some ⟨x0,x1,x2,x3,z4,z5,z6⟩
 |_,_=>none
theorem bIu:∀t l x,aC5 t l=some x->l.length=UU.size t:=by
 intro t l x h;unfold aC5 at h;split at h<;>first|rfl|cases h
theorem bHy:∀t x,∀c∈wW t x,c.flat=true/\c.aCM=true:=by
 intro t x c hc;cases t<;>(unfold wW at hc;simp only[List.mem_cons,List.not_mem_nil,or_false] at hc;first| (rcases hc with rfl|hc<;>first|exact⟨rfl,rfl⟩|skip)| (subst hc;exact⟨rfl,rfl⟩))
 all_goals (repeat (first| (subst hc;exact⟨rfl,rfl⟩)| (rcases hc with rfl|hc;exact⟨rfl,rfl⟩)))
theorem bIv:∀t l x,aC5 t l=some x->∀k,k<UU.size t->(l.getD k .any=(wW t x).getD k .any\/(l.getD k .any=.nils/\∃t',(wW t x).getD k .any=.sl t' [])):=by
 intro t l x h k hk;unfold aC5 at h;split at h
 ·cases h;exact .inl rfl
 ·cases h;exact .inl rfl
 ·cases h;exact .inl rfl
 ·cases h;exact .inl rfl
 ·cases h;exact .inl rfl
 ·simp only[Option.bind_eq_some_iff] at h;obtain⟨z0,h0,h⟩:=h;cases h;rcases Nat.lt_or_ge k 1 with cW|cW
  ·have hh:k=0:=by omega
   rcases hh with rfl
   ·rcases o9 h0 with rfl|⟨rfl,rfl⟩
    ·exact .inl rfl
    ·exact .inr ⟨rfl,_,rfl⟩
  ·exact absurd hk (Nat.not_lt.2 cW)
 ·cases h;exact .inl rfl
 ·simp only[Option.bind_eq_some_iff] at h;obtain⟨z0,h0,h⟩:=h;cases h;rcases Nat.lt_or_ge k 1 with cW|cW
  ·have hh:k=0:=by omega
   rcases hh with rfl
   ·rcases o9 h0 with rfl|⟨rfl,rfl⟩
    ·exact .inl rfl
    ·exact .inr ⟨rfl,_,rfl⟩
  ·exact absurd hk (Nat.not_lt.2 cW)
 ·simp only[Option.bind_eq_some_iff] at h;obtain⟨z0,h0,h⟩:=h;cases h;rcases Nat.lt_or_ge k 1 with cW|cW
  ·have hh:k=0:=by omega
   rcases hh with rfl
   ·rcases o9 h0 with rfl|⟨rfl,rfl⟩
    ·exact .inl rfl
    ·exact .inr ⟨rfl,_,rfl⟩
  ·exact absurd hk (Nat.not_lt.2 cW)
 ·cases h;exact .inl rfl
 ·cases h;exact .inl rfl
 ·simp only[Option.bind_eq_some_iff] at h;obtain⟨z4,h4,z5,h5,z6,h6,h⟩:=h;cases h;rcases Nat.lt_or_ge k 7 with cW|cW
  ·have hh:k=0\/k=1\/k=2\/k=3\/k=4\/k=5\/k=6:=by omega
   rcases hh with rfl|rfl|rfl|rfl|rfl|rfl|rfl
   ·exact .inl rfl
   ·exact .inl rfl
   ·exact .inl rfl
   ·exact .inl rfl
   ·rcases o9 h4 with rfl|⟨rfl,rfl⟩
    ·exact .inl rfl
    ·exact .inr ⟨rfl,_,rfl⟩
   ·rcases o9 h5 with rfl|⟨rfl,rfl⟩
    ·exact .inl rfl
    ·exact .inr ⟨rfl,_,rfl⟩
   ·rcases o9 h6 with rfl|⟨rfl,rfl⟩
    ·exact .inl rfl
    ·exact .inr ⟨rfl,_,rfl⟩
  ·exact absurd hk (Nat.not_lt.2 cW)
 ·cases h
def bIo:(t:Knd)->UU.T t
 | .seg=>(default:Seg)
 | .rect=>(default:aA)
 | .op=>(default:Opn)
 | .int=>(default:Int)
 | .str=>(default:ByteArray)
 | .rects=>(default:List aA)
 | .bool=>(default:Bool)
 | .bools=>(default:List Bool)
 | .ints=>(default:zzI)
 | .cell=>(default:Cel)
 | .par=>(default:Par)
 | .pc=>(default:Pce)
def aN9:Knd->Bool
 | .seg=>true
 | .rect=>true
 | .op=>true
 | .int=>true
 | .str=>true
 | .rects=>false
 | .bool=>true
 | .bools=>false
 | .ints=>false
 | .cell=>true
 | .par=>true
 | .pc=>false
theorem bBk:∀t x,aN9 t=true->∀c∈wW t x,c.pure=true:=by
 intro t x h c hc;cases t<;>(first| (cases h;done)|skip)<;>(unfold wW at hc;simp only[List.mem_cons,List.not_mem_nil,or_false] at hc)
 all_goals (repeat (first| (subst hc;rfl)| (rcases hc with rfl|hc;rfl)))
def bFq:Knd->Option Knd
 | .seg=>none
 | .rect=>none
 | .op=>none
 | .int=>none
 | .str=>none
 | .rects=>some .rect
 | .bool=>none
 | .bools=>some .bool
 | .ints=>some .int
 | .cell=>none
 | .par=>none
 | .pc=>none
def EE:Enc UU where
 enc:=wW
 dec:=aC5
 dflt:=bIo
 enc_len:=fun t x=>by cases t<;>rfl
 enc_flat:=bHy
 dec_len:=bIu
 dec_enc:=bIv
 pos:=fun t=>by cases t<;>decide
 plain:=aN9
 plain_ok:=bBk
 unsl_ok:=fun t t1 ys y h=>by cases t<;>cases t1<;>first| (cases h;done)| (cases h;rfl)
 inner:=bFq
 inner_ok:=fun t t1 h x=>by cases t<;>first| (cases h;done)| (cases h;exact⟨_,rfl⟩)
 rep:=fun k=>match k with
  | .bld=>pP
  | .dead=>fun _=>aBP
 rep_val:=fun k d w base p f h=>by
  cases k with
  |bld=>exact bAc h
  |dead=>exact bAa h
 rep_mem:=fun k d w base p f i g u h hu=>by
  cases k with
  |bld=>exact aNX h hu
  |dead=>exact h.2 i g u hu
 rep_mono:=fun k d w w' base p f h h1 h2=>by
  cases k with
  |bld=>exact bAd h h1 h2
  |dead=>exact bAb h h1 h2
 frep:=aCV
 frep_mono:=bGi
 frep_cell:=bGj
def bHz (t:TypeId):Option Knd:=
 cond (Nat.beq t 63) (some .seg) (cond (Nat.beq t 53) (some .rect) (cond (Nat.beq t 55) (some .op) (cond (Nat.beq t 3) (some .int) (cond (Nat.beq t 9) (some .str) (cond (Nat.beq t 22) (some .rects) (cond (Nat.beq t 4) (some .bool) (cond (Nat.beq t 43) (some .bools) (cond (Nat.beq t 45) (some .ints) (cond (Nat.beq t 208) (some .cell) (cond (Nat.beq t 254) (some .par) (cond (Nat.beq t 51) (some .pc) (none))))))))))))
def aJN (t:TypeId):Bool:=Nat.beq t 53||Nat.beq t 55||Nat.beq t 63
theorem bBj:∀t,aJN t=true->aWv Tryz.prog t:=by
 intro t h;unfold aJN at h
 try simp only[Bool.or_eq_true] at h
 rcases h with (h|h)|h
 all_goals (obtain rfl:=Nat.eq_of_beq_eq_true h;exact⟨by kernel_rfl,by kernel_rfl,by kernel_rfl⟩)
def aJV (t:TypeId):Option ((k:UU.κ)×UU.K k):=cond (Nat.beq t 110) (some ⟨.bld,ByteArray.empty⟩) none
theorem bCM:∀t x,aJV t=some x->∀(w:World) (base:Nat),base<=w.heap.size->∃w',(Instr.alloc t true (.tuple #[])).run Tryz.prog w=.ok (.pointer (some ⟨w.heap.size,0,none⟩)) w'/\Below w.heap.size w w'/\
  EE.rep x.1 x.2 w' base (some (0,.pointer (some ⟨w.heap.size,0,none⟩))) (fun _=>none):=by
 intro t x h w base hb;unfold aJV at h;cases ht:Nat.beq t 110 with
 |false=>rw[ht] at h;cases h
 |true=>
  rw[ht] at h;cases h;obtain rfl:=Nat.eq_of_beq_eq_true ht;exact bKd w base hb
def aC4 (n:Int):aB UU:=cond (n==1) (.agg [.frz .W1,.fn 99 [],.fn 101 []]) (cond (n==2) (.agg [.frz .W2,.fn 100 [],.fn 102 []]) (cond (n==3) (.agg [.frz .W3,.fn 103 [],.fn 104 []]) (.agg [.raw (Value.map none),.raw Value.nilFunc,.raw Value.nilFunc])))
def aVS:Frz->TypeId->Option (Int->aB UU×aB UU)
 | .W1,t=>cond (Nat.beq t 99) (some fun n=>(.str (gY zW n),.bool (iS [1,2,4,3] n))) none
 | .W2,t=>cond (Nat.beq t 99) (some fun n=>(.str (gY lJ n),.bool (iS [1,2,4,3] n))) none
 | .W3,t=>cond (Nat.beq t 99) (some fun n=>(.str (gY zV n),.bool (iS [5,6] n))) none
 | .D,t=>cond (Nat.beq t 105) (some fun n=>(aC4 n,.bool (iS [1,2,3] n))) none
theorem aL1 {l:List (Int×ByteArray)} {w:World} {st:Nat->Prop} {v:Value} (n:Int) (h:isMap (strs l) w st v):(Instr.lookup 99 v (.int .i64 n) true).run Tryz.prog w=.ok (.tuple #[.string (gY l n),.bool (iS ((strs l).map (·.1)) n)]) w:=by
 obtain⟨b,rfl,_,hb⟩:=h;have hz:(zeroValue 9).run Tryz.prog w=.ok (.string ByteArray.empty) w:=Tryz.zeroValue9 w;rw[aR1 Tryz.underlying99 Tryz.underlying3 hz hb n,aNP]
theorem fn0 {w:World} {st:Nat->Prop} (f:Nat):Rel EE w (fun _=>none) st (.fn f []:aB UU) (fv f):=.fn f [] #[] rfl (fun k hk=>absurd hk (by simp))
theorem aEO {w:World} {st:Nat->Prop} {v:Value} (k:Frz) (h:aCV k w st v):Rel EE w (fun _=>none) st (.frz k:aB UU) v:=Rel.frz (U:=UU) (E:=EE) k v h
theorem aHo {w:World} {ρ:Own} {st:Nat->Prop} {x y z:aB UU} {a b c:Value} (hx:Rel EE w ρ st x a) (hy:Rel EE w ρ st y b) (hz:Rel EE w ρ st z c):Rel EE w ρ st (.agg [x,y,z]) (.agg #[a,b,c]):=
 .agg _ _ rfl fun k hk=>match k,hk with
  |0,_=>hx
  |1,_=>hy
  |2,_=>hz
theorem bGh:∀k t f,aVS k t=some f->∀(w:World) (st:Nat->Prop) (v:Value) (n:Int),EE.frep k w st v->∃u b,(Instr.lookup t v (.int .i64 n) true).run Tryz.prog w=.ok (.tuple #[u,b]) w/\Rel EE w (fun _=>none) st (f n).1 u/\Rel EE w (fun _=>none) st (f n).2 b/\(f n).1.aCZ=true/\(f n).2.flat=true:=by
 intro k t f h w st v n hv;cases k with
 |D=>
  obtain⟨ht,h⟩:=bI h;obtain rfl:=Nat.eq_of_beq_eq_true ht;cases h;obtain⟨v1,v2,v3,h1,h2,h3,b,rfl,_,hb⟩:=hv;have hz:(zeroValue 103).run Tryz.prog w=.ok (.agg #[.map none,.nilFunc,.nilFunc]) w:=Tryz.zeroValue103 w;refine⟨_,_,aR1 Tryz.underlying105 Tryz.underlying3 hz hb n,?_,.bool _,?_,rfl⟩
  ·show Rel EE w _ st (aC4 n) (pM _ (lD v1 v2 v3) n);unfold aC4 lD;simp only[pM];cases n==1
   ·cases n==2
    ·cases n==3
     ·exact aHo (.raw _) (.raw _) (.raw _)
     ·exact aHo (aEO .W3 h3) (fn0 _) (fn0 _)
    ·exact aHo (aEO .W2 h2) (fn0 _) (fn0 _)
   ·exact aHo (aEO .W1 h1) (fn0 _) (fn0 _)
  ·show (aC4 n).aCZ=true;unfold aC4;cases n==1<;>cases n==2<;>cases n==3<;>rfl
 |W1=>
  obtain⟨ht,h⟩:=bI h;obtain rfl:=Nat.eq_of_beq_eq_true ht;cases h;exact⟨_,_,aL1 n hv,.str _,.bool _,rfl,rfl⟩
 |W2=>
  obtain⟨ht,h⟩:=bI h;obtain rfl:=Nat.eq_of_beq_eq_true ht;cases h;exact⟨_,_,aL1 n hv,.str _,.bool _,rfl,rfl⟩
 |W3=>
  obtain⟨ht,h⟩:=bI h;obtain rfl:=Nat.eq_of_beq_eq_true ht;cases h;exact⟨_,_,aL1 n hv,.str _,.bool _,rfl,rfl⟩
noncomputable def dR:Cfg UU:={P:=Tryz.prog,E:=EE,elt:=bHz,sum:=fun _=>none,plain:=aJN,plainOK:=bBj,deep:=false,inv:=inv1,invOK:=bFh,frzOf:=aVS,frzOK:=bGh,opqOf:=aJV,opqOK:=bCM}
theorem bAP:aX dR:=⟨fun f m h=>(by cases h),fun f m h=>(by cases h)⟩
abbrev zK:=AEx->ASt UU->Prop
def cS4 (c:Code):Code:=cS (cS (cS (cS c)))
def tmL:List (Nat×aB UU)->Nat->aB UU
 |[],_=>.any
 | (k,v)::l,u=>cond (Nat.beq u k) v (tmL l u)
def obL:List (Nat×aV UU)->Nat->Option (aV UU)
 |[],_=>none
 | (k,v)::l,u=>cond (Nat.beq u k) (some v) (obL l u)
def M0:Nat->Nat->Nat->Canon UU:=fun _ _ _=>⟨[],[],[],[],[]⟩
theorem of_eq {p q:Prop} (e:p=q) (h:q):p:=e▸h
theorem nH {α:Type} {p:Prop} (T S:α->Prop) (Q:α) (e:p=T Q) (h:∀Q,S Q->T Q) (h0:S Q):p:=e▸h Q h0
theorem cM {C:Cfg UU} (hs:aX C) (hmix:C.P.follows .mixedOrders=true) {f:FuncId} {m:Model UU} {fn:Func} (hf:C.P.funcs[f]?=some fn) (hn:(fn.name== "runtime.NumGoroutine")=false) (hb:fn.body=some (bo fn))
  (hx:∀xs cs r,m xs=some (cs,r)->dE cs->(Nat.ble xs.length fn.ntmps&&Nat.ble fn.ntmps 1000000)=true/\∃M fuel fr,aA5 (exec C fn.ntmps M fuel 0 (bo fn) (cQ xs) (bH C fr fn fun r'=>r'=r))):aX (C.add f m):=hs.aMJ hmix hf hn hb hx
theorem tin {C:Cfg UU} (hs:aX C) (hmix:C.P.follows .mixedOrders=true) {f:FuncId} {m:Model UU} {fn:Func} (hf:C.P.funcs[f]?=some fn) (hn:(fn.name== "runtime.NumGoroutine")=false) (hb:fn.body=some (bo fn)) (fr:Bool)
  (hx:∀xs cs r,m xs=some (cs,r)->(Nat.ble xs.length fn.ntmps&&Nat.ble fn.ntmps 1000000)=true/\exec C fn.ntmps M0 0 0 (bo fn) (cQ xs) (bH C fr fn fun r'=>r'=r)=(r=r)):aX (C.add f m):=
 hs.aMJ hmix hf hn hb fun xs cs r h _=>⟨(hx xs cs r h).1,M0,0,fr,⟨of_eq (hx xs cs r h).2 rfl⟩⟩
noncomputable def aX4:Cfg UU:=aWW (aWV dR)
theorem aZr:aX aX4:=bAQ (sVN bAP rfl rfl rfl rfl fun _ h=>h.1.1) rfl rfl rfl rfl
end Go.Proofs.YtjjbojomlfgjlaaGreatDoor
set_option linter.unusedVariables false
namespace Go.Proofs
open Go.Shelf Go.RowKit
theorem aWC:(Tryz.prog.info? 110).map (·.size)=some 2:=by kernel_rfl
theorem bKe:liesAt Tryz.prog Tryz.prog.depth 110 (2 / Tryz.prog.cellsOf 110) 0 110 1=true:=by kernel_rfl
theorem bKi:(Tryz.prog.info? 5).map (fun i=>(i.zero,i.size,i.bytes))=some (some (.int .u8 0),1,1):=by kernel_rfl
set_option maxHeartbeats 2000000 in
set_option maxRecDepth 100000 in
theorem bKg (b:Nat) (w:World) (h0:w.cell? ⟨b,0,none⟩=some (.pointer (some ⟨b,0,none⟩))):
  Calls Tryz.prog 105 #[.pointer (some ⟨b,0,none⟩)] w fun e w'=>e=.returned (.tuple #[])/\w'=w:=by
 obtain⟨j,hj,_⟩:=Option.map_eq_some_iff.1 aWC
 go_enter Tryz.func105,Tryz.ntmps105
 go_wp2
 rw[Lib.run_neq_ptr_same w _ Tryz.underlying107 hj]
 go_wp2
 go_end0
 exact⟨rfl,rfl⟩
set_option maxHeartbeats 2000000 in
set_option maxRecDepth 100000 in
theorem bKf (b:Nat) (w:World) (h0:w.cell? ⟨b,0,none⟩=some (.pointer none)) (hsh:w.shape? b=some (110,2)) (hfz:w.frozen? ⟨b,0,none⟩=false):
  Calls Tryz.prog 105 #[.pointer (some ⟨b,0,none⟩)] w fun e w'=>e=.returned (.tuple #[])/\w'=w.setCell ⟨b,0,none⟩ (.pointer (some ⟨b,0,none⟩)):=by
 obtain⟨j,hj,hjs⟩:=Option.map_eq_some_iff.1 aWC
 go_enter Tryz.func105,Tryz.ntmps105
 go_wp2
 rw[Lib.run_to_unsafe w ⟨b,0,none⟩ Tryz.underlying107 Tryz.underlying229 hj (by rw[hjs];decide) hsh (Nat.zero_lt_succ 1)];simp only[Result.andThen];rw[Oper.upon_value]
 go_wp2
 rw[run_callFunc_extern Tryz.func161 (by kernel_rfl) (by kernel_rfl) (by kernel_rfl) (e:=Extern.AbiNoEscape.same) (by kernel_rfl)];rw[Lib.run_noEscape];simp only[Result.andThen];rw[Oper.upon_value]
 go_wp2
 rw[Lib.run_from_unsafe w ⟨b,0,none⟩ Tryz.underlying229 Tryz.underlying107 hj hsh bKe];simp only[Result.andThen];rw[Oper.upon_value]
 go_wp2
 go_end0
 exact⟨rfl,rfl⟩
theorem bKh (B b:Nat) (v:Value) (bs:List Value) (w:World) (h:aA7 110 5 B b v bs w):
  Calls Tryz.prog 105 #[.pointer (some ⟨b,0,none⟩)] w fun e w'=>e=.returned (.tuple #[])/\aA7 110 5 B b v bs w'/\Below B w w'/\w'.heap.size=w.heap.size/\∀k,k≠b->w'.heap[k]?=w.heap[k]?:=by
 obtain⟨hB,⟨q,hq,hb⟩,hown,hne,hnil⟩:=h;have c0:w.cell? ⟨b,0,none⟩=some q:=by rw[Lib.cell_of_heap hb];rfl
 rcases hq with rfl|rfl
 ·refine(bKf b w c0 (by simp[World.shape?,hb]) (Lib.frozen_of_heap hb 0)).mono ?_
  rintro e w' ⟨rfl,rfl⟩
  have hk:∀k,k≠b->(w.setCell ⟨b,0,none⟩ (.pointer (some ⟨b,0,none⟩))).heap[k]?=w.heap[k]?:=fun k hk=>Below.heap_setCell _ _ _ _ hk
  refine⟨rfl,⟨hB,⟨_,.inr rfl,?_⟩,?_,hne,hnil⟩,(Below.refl B w).setCell (p:=⟨b,0,none⟩) hB _,by simp[World.setCell],hk⟩
  ·simp[World.setCell,Array.getElem?_modify,hb]
  ·refine hown.kept (row:=some b) ⟨rfl,rfl,rfl,by simp[World.setCell],fun k _ hk'=>hk k (fun e=>hk' (by rw[e]))⟩ (Or.inr hne)
 ·refine(bKg b w c0).mono ?_
  rintro e w' ⟨rfl,rfl⟩
  exact⟨rfl,⟨hB,⟨_,.inr rfl,hb⟩,hown,hne,hnil⟩,Below.refl B _,rfl,fun _ _=>rfl⟩
set_option maxHeartbeats 2000000 in
set_option maxRecDepth 100000 in
theorem bKa (B b:Nat) (v:Value) (bs:List Value) (s:ByteArray) (w:World) (h:aA7 110 5 B b v bs w) (hs:1<=s.size) (hlen:bs.length+s.size<=140737488355328) (hBw:B<=w.heap.size):
  Calls Tryz.prog 47 #[.pointer (some ⟨b,0,none⟩),.string s] w fun e w'=>e=.returned (.tuple #[.int .i64 s.size,.nilIface])/\
   ∃v',aA7 110 5 B b v' (bs++Lib.strCells s) w'/\Below B w w'/\(∀k,k<w.heap.size->k≠b->v.ownBlock≠some k->w'.heap[k]?=w.heap[k]?)/\
    ∀k,v'.ownBlock=some k->v.ownBlock=some k\/w.heap.size<=k:=by
 obtain⟨i0,hi,qB,lR,tI⟩:=info_parts bKi
 go_enter Tryz.func47,Tryz.ntmps47
 go_wp2_with (go_at_call 105;refine(bKh B b v bs _ h).mono ?_)
 rintro e w1 ⟨rfl,h1,bV,hsz1,mU⟩
 obtain⟨hB,⟨q,hq,hbk⟩,hown,hne,hnil⟩:=h1;have c0:w1.cell? ⟨b,0,none⟩=some q:=by rw[Lib.cell_of_heap hbk];rfl
 have c1:w1.cell? ⟨b,1,none⟩=some v:=by rw[Lib.cell_of_heap hbk];rfl
 go_wp2_with (at_builtin;refine bKb rfl _ _ 108 9 rfl B 5 i0 Tryz.underlying108 Tryz.underlying9 hi qB lR tI _ _ _ rfl hown s rfl ?c4 ?c5 ?_)
 case c4=>omega
 case c5=>omega
 intro v' w2 hown' hgrow hnil' hnew;have hlt:b<w1.heap.size:=(Array.getElem?_eq_some_iff.1 hbk).1;have cA:w2.heap[b]?=some (.cells #[q,v] 110 (0,0)):=by
  rw[hgrow.block b hlt (fun e=>hne e.symm)];exact hbk
 have d0:w2.cell? ⟨b,0,none⟩=some q:=by rw[Lib.cell_of_heap cA];rfl
 have d1:w2.cell? ⟨b,1,none⟩=some v:=by rw[Lib.cell_of_heap cA];rfl
 have f1:w2.frozen? ⟨b,1,none⟩=false:=Lib.frozen_of_heap cA 1;obtain⟨ao,n',cap,rfl⟩:∃ao n' cap,v'=.slice ao n' cap:=by
  rcases hown'.2 with ⟨hv,_⟩|⟨g,cap,cur,hv,_⟩
  ·exact⟨_,_,_,hv⟩
  ·exact⟨_,_,_,hv⟩
 go_wp2
 go_ret2
 have hs0:Lib.strCells s≠[]:=fun e=>by
  have:=Lib.strCells_length s;rw[e,List.length_nil] at this;omega
 have cW:∀(x:Value) k,k≠b->(w2.setCell ⟨b,1,none⟩ x).heap[k]?=w2.heap[k]?:=fun x k hk=>Below.heap_setCell _ _ _ _ hk
 have hne':Value.ownBlock (.slice ao n' cap)≠some b:=Lib.ownBlock_ne hown' cA (by decide);refine⟨rfl,.slice ao n' cap,⟨hB,⟨q,hq,?_⟩,?_,hne',?_⟩,?_,fun k hk hkb hkv=>?_,fun k hk=>?_⟩
 ·simp[World.setCell,Array.getElem?_modify,cA]
 ·refine World.ownsRow.kept (row:=some b) (w:=w2) (by simpa[Lib.strCells_length] using hown') ⟨rfl,rfl,rfl,by simp[World.setCell],fun k _ hk'=>cW _ k (fun e=>hk' (by rw[e]))⟩ (Or.inr hne')
 ·constructor
  ·intro e;have h1:s=ByteArray.empty:=(hnil'.1 e).2;rw[h1] at hs;exact absurd hs (by decide)
  ·intro e;exact absurd (List.append_eq_nil_iff.1 e).2 hs0
 ·exact(bV.grown hgrow (by rw[hsz1];exact hBw) (fun k hk=>(hown.lt k hk).1)).setCell (p:=⟨b,1,none⟩) hB _
 ·rw[cW _ k hkb,hgrow.block k (by omega) (fun e=>hkv e.symm)];exact mU k hkb
 ·rcases hnew k hk with h1|h1
  ·exact .inl h1
  ·exact .inr (by omega)
end Go.Proofs
namespace Go.Proofs.YtjjbojomlfgjlaaGreatDoor
open Go.Vm Go.RowKit
set_option linter.unusedVariables false
noncomputable section
def kO (n:Int):ByteArray:=⟨(Lib.itoa n).toArray⟩
open Go.Sort in
theorem bKn {B:Nat} {w0 w:World} {os:Array Obj} (h:Below B w0 w) (hB:B<=w.heap.size):Below B w0 (grow w os):=
 ⟨h.os,h.tape,h.output,by show w0.heap.size<=(w.heap++os).size;have:=h.size;simp;omega,fun k hk=>by
  show (w.heap++os)[k]?=_;rw[Array.getElem?_append_left (by omega)];exact h.block k hk⟩
theorem aHk {E:Enc UU} {w:World} {N:Nat->Prop} {x:aB UU} {args:Array Value} (h:yS E w N [x] args):∃a,args=#[a]/\Rel E w bU (dJ N w) x a:=by
 obtain⟨h1,h2⟩:=h;have e0:=h2 0 (by simp);obtain⟨l⟩:=args
 match l,h1 with
 |[a],_=>exact⟨a,rfl,e0⟩
theorem aYF {E:Enc UU} {w:World} {ρ:Own} {st:Nat->Prop} {x y:aB UU} {a b:Value} (hx:Rel E w ρ st x a) (hy:Rel E w ρ st y b):Rel E w ρ st (.tup [x,y]) (.tuple #[a,b]):=
 .tup _ _ rfl fun k hk=>match k,hk with
  |0,_=>hx
  |1,_=>hy
def aKC:Model UU
 |[.int .i64 n]=>some ([-9223372036854775808<=n/\n<=9223372036854775807],.str (kO n))
 |_=>none
theorem bAR {C:Cfg UU} (hs:aX C) (hP:C.P=Tryz.prog) (hI:∀w,C.inv w->inv1 w):aX (C.add 48 aKC):=by
 refine hs.put ⟨fun args w=>by rw[hP];exact hG (fn:=Tryz.f48) Tryz.func48 (by kernel_rfl) rfl args w,?_⟩;intro N w args xs cs r hinv hN hargs hm hc;unfold aKC at hm;split at hm
 ·rename_i n;cases hm;obtain⟨a,rfl,ha⟩:=aHk hargs;cases ha;rw[hP];refine(Tryz.strconv_Itoa n hc.1 hc.2 w (hI w hinv).2).mono ?_
  rintro e w' ⟨rfl,k,os,rfl⟩
  exact⟨_,rfl,jQ.of rfl rfl (.str _),bKn (below_drewN (Below.refl _ _) k) (Nat.le_refl _)⟩
 ·cases hm
def aLh:aA4 UU
 |[.ptr 0 0,.str s],.opq .bld b=>some ([1<=s.size/\b.size+s.size<=140737488355328],.tup [.int .i64 s.size,.raw .nilIface],.opq .bld (b++s))
 |_,_=>none
def aLi:aA4 UU
 |[.ptr 0 0],.opq .bld b=>some ([],.str b,.opq .dead ())
 |_,_=>none
theorem aYS (b s:ByteArray):Lib.strCells (b++s)=Lib.strCells b++Lib.strCells s:=by
 unfold Lib.strCells;rw[ByteArray.data_append,Array.toList_append,List.map_append]
def aAU (p:Nat×Value) (m:Option (Nat×Value)):Own:=fun nm=>match nm with
 | .ob i=>if i=0 then some p else none
 | .mem i j=>if i=0/\j=0 then m else none
theorem bIE {C:Cfg UU} (hP:C.P=Tryz.prog) (hE:C.E=EE) (w0:World):zU C 47 aLh w0:=by
 refine⟨fun args w=>by rw[hP];exact hG (fn:=Tryz.f47) Tryz.func47 (by kernel_rfl) rfl args w,fun st ρ w args k0 xs ob ob' cs r hb hst hdom hsep hob hsz hrel lT hm hc jN hpr hown=>?_⟩;unfold aLh at hm;split at hm
 ·rename_i s b;cases hm;obtain rfl:0=k0:=by cases hown;rfl
  obtain⟨h1,h2⟩:1<=s.size/\b.size+s.size<=140737488355328:=hc;rw[hE] at hob hrel ⊢;obtain⟨b0,v,hp,hbld,hf1,nR⟩:pP b w w0.heap.size (ρ (.ob 0)) (fun j=>ρ (.mem 0 j)):=hob;have e0:=hrel 0 (by simp);have e1:=hrel 1 (by simp);obtain⟨l⟩:=args
  match l,hsz with
  |[x,y],_=>
   simp at e0 e1;cases e1;have hx:x=.pointer (some ⟨b0,0,none⟩):=by
    cases e0 with
    |ptr _ _ q hq=>
     rw[hp] at hq;cases hq;rfl
   subst hx;rw[hP];have hbase:w0.heap.size<=w.heap.size:=hb.size;refine(bKa w0.heap.size b0 v (Lib.strCells b) s w hbld h1 (by rw[Lib.strCells_length];exact h2) hbase).mono ?_
   rintro e w' ⟨rfl,v',hbld',hbel,hsame,hnew⟩
   have hnp:∀a,v'≠ .pointer a:=aGd hbld'.2.2.1;have hnp0:∀a,v≠ .pointer a:=aGd hbld.2.2.1
   let g:Nat:=match ρ (.mem 0 0) with
    |some q=>q.1+1
    |none=>0
   have nm1:∀(nm:Name) q u,aAU (0,.pointer (some ⟨b0,0,none⟩)) (some (g,v')) nm=some (q,u)->(nm=.ob 0/\(q,u)=(0,.pointer (some ⟨b0,0,none⟩)))\/(nm=.mem 0 0/\(q,u)=(g,v')):=fun nm q u h=>by
    cases nm with
    |ob i=>
     simp only[aAU] at h;split at h
     ·rename_i e;subst e;cases h;exact .inl ⟨rfl,rfl⟩
     ·cases h
    |mem i j=>
     simp only[aAU] at h;split at h
     ·rename_i e;obtain⟨rfl,rfl⟩:=e;cases h;exact .inr ⟨rfl,rfl⟩
     ·cases h
   have hblk:∀k,v'.ownBlock=some k->blk v'=some k:=fun k h=>by rw[<- iG hnp];exact h
   have hold:∀k,v.ownBlock=some k->∃q,ρ (.mem 0 0)=some (q,v):=fun k h=>by
    rcases nR with ⟨rfl,_⟩|⟨q,h0⟩
    ·cases h
    ·exact⟨q,h0⟩
   refine⟨_,aAU (0,.pointer (some ⟨b0,0,none⟩)) (some (g,v')),rfl,⟨fun _=>aYF (.int _ _) (.raw _),fun h=>by cases h⟩,?_,fun nm q u h=>?_,⟨fun nm hn=>?_,fun nm q u hn h=>?_,hbel,fun k hk hne=>?_,fun nm q u k hn h hbl=>?_,fun nm nm' q q' u u' k hn hn' h h' hne hbl=>?_⟩⟩
   ·refine(show pP (b++s) w' w0.heap.size (aAU (0,.pointer (some ⟨b0,0,none⟩)) (some (g,v')) (.ob 0)) (fun j=>aAU (0,.pointer (some ⟨b0,0,none⟩)) (some (g,v')) (.mem 0 j)) from ?_);exact⟨b0,v',rfl,by rw[aYS];exact hbld',fun j=>rfl,.inr ⟨g,rfl⟩⟩
   ·refine⟨?_,fun h=>by cases h⟩;rcases nm1 nm q u h with ⟨rfl,_⟩|⟨rfl,_⟩<;>rfl
   ·cases h:ρ nm with
    |some p=>exact absurd (hdom nm p.1 p.2 h).1 hn
    |none=>
     cases nm with
     |ob i=>exact if_neg hn
     |mem i j=>exact if_neg (fun e=>hn e.1)
   ·cases nm with
    |ob i=>
     obtain rfl:i=0:=hn;rw[hp] at h;cases h;exact .inl rfl
    |mem i j=>
     obtain rfl:i=0:=hn;cases j with
     |succ j=>rw[show ρ (.mem 0 (j+1))=none from hf1 j] at h;cases h
     |zero=>
      refine .inr ⟨?_,g,v',rfl,?_⟩
      ·rcases nR with ⟨_,h0⟩|⟨q0,h0⟩
       ·rw[show ρ (.mem 0 0)=none from h0] at h;cases h
       ·rw[show ρ (.mem 0 0)=some (q0,v) from h0] at h;cases h;exact hnp0
      ·show q<match ρ (.mem 0 0) with
        |some q=>q.1+1
        |none=>0
       rw[h];exact Nat.lt_succ_self q
   ·refine hsame k hk (fun e=>?_) (fun e=>?_)
    ·subst e;exact hne (.ob 0) _ _ rfl hp rfl
    ·obtain⟨q,h0⟩:=hold k e;exact hne (.mem 0 0) _ _ rfl h0 (by rw[<- iG hnp0];exact e)
   ·rcases nm1 nm q u h with ⟨rfl,h3⟩|⟨rfl,h3⟩
    ·cases h3;exact .inl ⟨.ob 0,0,_,rfl,hp,hbl⟩
    ·cases h3;rcases hnew k (by rw[iG hnp];exact hbl) with h4|h4
     ·obtain⟨q,h0⟩:=hold k h4;exact .inl ⟨.mem 0 0,q,v,rfl,h0,by rw[<- iG hnp0];exact h4⟩
     ·exact .inr h4
   ·have hd:v'.ownBlock≠some b0:=hbld'.2.2.2.1;rcases nm1 nm q u h with ⟨rfl,h3⟩|⟨rfl,h3⟩<;>rcases nm1 nm' q' u' h' with ⟨rfl,h4⟩|⟨rfl,h4⟩
    ·exact absurd rfl hne
    ·cases h3;cases h4;simp only[blk,Option.some.injEq] at hbl;subst hbl;rw[<- iG hnp];exact hd
    ·cases h3;cases h4;rw[<- iG hnp] at hbl;intro e;simp only[blk,Option.some.injEq] at e;subst e;exact hd hbl
    ·exact absurd rfl hne
 ·cases hm
theorem bIF {C:Cfg UU} (hP:C.P=Tryz.prog) (hE:C.E=EE) (w0:World):zU C 50 aLi w0:=by
 refine⟨fun args w=>by rw[hP];exact hG (fn:=Tryz.f50) Tryz.func50 (by kernel_rfl) rfl args w,fun st ρ w args k0 xs ob ob' cs r hb hst hdom hsep hob hsz hrel lT hm hc jN hpr hown=>?_⟩;unfold aLi at hm;split at hm
 ·rename_i b;cases hm;obtain rfl:0=k0:=by cases hown;rfl
  rw[hE] at hob hrel ⊢;obtain⟨b0,v,hp,hbld,hf1,nR⟩:pP b w w0.heap.size (ρ (.ob 0)) (fun j=>ρ (.mem 0 j)):=hob;have e0:=hrel 0 (by simp);obtain⟨l⟩:=args
  match l,hsz with
  |[x],_=>
   simp at e0;have hx:x=.pointer (some ⟨b0,0,none⟩):=by
    cases e0 with
    |ptr _ _ q hq=>
     rw[hp] at hq;cases hq;rfl
   subst hx;rw[hP];have hnp0:∀a,v≠ .pointer a:=aGd hbld.2.2.1;have call:Calls Tryz.prog 50 #[.pointer (some ⟨b0,0,none⟩)] w fun e w'=>e=.returned (.string ⟨b.data.toList.toArray⟩)/\Below w0.heap.size w w'/\w'.heap.size=w.heap.size/\∀k,k<w.heap.size->v.ownBlock≠some k->w'.heap[k]?=w.heap[k]?:=
    bKc Tryz.bFV Tryz.bLe w0.heap.size b0 v b.data.toList w hbld
   refine call.mono ?_
   rintro e w' ⟨rfl,hbel,hsz',hsame⟩
   have hv:(⟨b.data.toList.toArray⟩:ByteArray)=b:=by simp
   rw[hv];refine⟨_,ρ,rfl,⟨fun _=>.str _,fun h=>by cases h⟩,?_,fun nm q u h=>⟨(hdom nm q u h).1,fun h=>by cases h⟩,⟨fun _ _=>rfl,fun _ _ _ _ h=>.inl h,hbel,fun k hk hne=>hsame k hk (fun e=>?_),fun nm q u k hn h hbl=>.inl ⟨nm,q,u,hn,h,hbl⟩,fun nm nm' q q' u u' k _ _ h h' hne hbl=>hsep _ _ _ _ _ _ k h h' hne hbl⟩⟩
   ·refine(show aBP w' w0.heap.size (ρ (.ob 0)) (fun j=>ρ (.mem 0 j)) from ⟨⟨b0,hp,hbld.1,?_⟩,fun i g u hu=>?_⟩)
    ·obtain⟨q,_,h2⟩:=hbld.2.1;have:=(Array.getElem?_eq_some_iff.1 h2).1;omega
    ·have:=aNX (s:=b) (w:=w) (base:=w0.heap.size) (p:=ρ (.ob 0)) (f:=fun j=>ρ (.mem 0 j)) ⟨b0,v,hp,hbld,hf1,nR⟩ hu;refine⟨this.1,fun k hk=>?_⟩;have:=this.2 k hk;omega
   ·rcases nR with ⟨rfl,_⟩|⟨q,h0⟩
    ·cases e
    ·exact hne (.mem 0 0) q v rfl h0 (by rw[<- iG hnp0];exact e)
 ·cases hm
def aX7:Cfg UU:=((aX4.add 48 aKC).aA1 47 aLh).aA1 50 aLi
theorem aZv:aX aX7:=by
 have h1:=bAR aZr rfl fun _ h=>h
 exact(h1.aEU fun w0 _=>bIE rfl rfl w0).aEU fun w0 _=>bIF rfl rfl w0
end
end Go.Proofs.YtjjbojomlfgjlaaGreatDoor
namespace Go.Vm
open Go.RowKit Go.ChangeShapes Go.WideShapes Go.ChangeAt Go.Deep
set_option linter.unusedVariables false
section
variable {P:Program} {H:Type} {enc:TypeId×Value->H} {w:World} {U:dH} {C:Cfg U} {p:(τ:U.τ)->U.T τ->Prop}
abbrev bk (d:DataW H):Nat:=Go.Proofs.YtjjbojomlfgjlaaGreatDoor.Rows.uptoBulk d
theorem bKl (d:DataW H):1<=bk d:=by
 cases d with
 |lit l=>cases l<;>simp[bk,Go.Proofs.YtjjbojomlfgjlaaGreatDoor.Rows.uptoBulk]
 |nil=>simp[bk,Go.Proofs.YtjjbojomlfgjlaaGreatDoor.Rows.uptoBulk]
 |ptr d=>simp[bk,Go.Proofs.YtjjbojomlfgjlaaGreatDoor.Rows.uptoBulk]
 |slice elems spare=>simp[bk,Go.Proofs.YtjjbojomlfgjlaaGreatDoor.Rows.uptoBulk]
 |agg parts=>simp[bk,Go.Proofs.YtjjbojomlfgjlaaGreatDoor.Rows.uptoBulk]
 |iface t d=>simp[bk,Go.Proofs.YtjjbojomlfgjlaaGreatDoor.Rows.uptoBulk]
 |map entries=>simp[bk,Go.Proofs.YtjjbojomlfgjlaaGreatDoor.Rows.uptoBulk]
 |held h=>simp[bk,Go.Proofs.YtjjbojomlfgjlaaGreatDoor.Rows.uptoBulk]
theorem aGe:∀(l:List (DataW H)),l.length<=Go.Proofs.YtjjbojomlfgjlaaGreatDoor.Rows.uptoBulkAll l/\∀d∈l,bk d<=Go.Proofs.YtjjbojomlfgjlaaGreatDoor.Rows.uptoBulkAll l
 |[]=>⟨by simp,fun d h=>by cases h⟩
 |x::l=>by
  obtain⟨h1,h2⟩:=aGe l;have h3:1<=Go.Proofs.YtjjbojomlfgjlaaGreatDoor.Rows.uptoBulk x:=bKl x;refine⟨by simp only[Go.Proofs.YtjjbojomlfgjlaaGreatDoor.Rows.uptoBulkAll,List.length_cons];omega,fun d h=>?_⟩;show bk d<=Go.Proofs.YtjjbojomlfgjlaaGreatDoor.Rows.uptoBulk x+Go.Proofs.YtjjbojomlfgjlaaGreatDoor.Rows.uptoBulkAll l;rcases List.mem_cons.1 h with rfl|h
  ·exact Nat.le_add_right _ _
  ·exact Nat.le_trans (h2 d h) (Nat.le_add_left _ _)
theorem bKm {l:List (DataW H)} {d:DataW H} (h:d∈l):bk d<=bk (.agg l):=by
 have:=(aGe l).2 d h;simp only[bk,Go.Proofs.YtjjbojomlfgjlaaGreatDoor.Rows.uptoBulk] at this ⊢;omega
theorem bKk (l r:List (DataW H)):l.length<=bk (.slice l r)/\∀d∈l,bk d<=bk (.slice l r):=by
 obtain⟨h1,h2⟩:=aGe l;refine⟨by simp only[bk,Go.Proofs.YtjjbojomlfgjlaaGreatDoor.Rows.uptoBulk];omega,fun d h=>?_⟩;have:=h2 d h;simp only[bk,Go.Proofs.YtjjbojomlfgjlaaGreatDoor.Rows.uptoBulk] at this ⊢;omega
theorem bEr {α β:Type} {f:α->Option β}:∀{l:List α} {ys:List β},l.mapM f=some ys->∀a∈l,∃y∈ys,f a=some y:=by
 intro l
 induction l with
 |nil=>intro ys _ a ha;cases ha
 |cons x l ih=>
  intro ys h a ha;rw[List.mapM_cons] at h;obtain⟨y,hy,h⟩:=Option.bind_eq_some_iff.1 h;obtain⟨zs,hzs,h⟩:=Option.bind_eq_some_iff.1 h;cases h;rcases List.mem_cons.1 ha with rfl|ha
  ·exact⟨y,List.mem_cons_self ..,hy⟩
  ·obtain⟨y',h1,h2⟩:=ih hzs a ha;exact⟨y',List.mem_cons_of_mem _ h1,h2⟩
section
variable {base:Nat} {sp:Nat->Bool} {held:Bool}
theorem aYI {d fuel:Nat} {cs:List Value} {tot M:Nat} (hlen:cs.length=tot)
  (ih:∀(t:TypeId) (cs:List Value) (x:DataW H×List MemPlace),kQ P d t=true->DataW.trod enc P w base sp held fuel t cs=some x->
   cs.length=(bY P d t).length/\∀i (h:i<(bY P d t).length),∃fuel' y,DataW.trod enc P w base sp held fuel' ((bY P d t)[i]) [cs.getD i undef]=some y/\bk y.1<=bk x.1):
  ∀(fs:List Field) (off:Nat),tL P (kQ P d) (fun t=>(bY P d t).length) fs off tot=true->
   (∀f∈fs,∃y,DataW.trod enc P w base sp held fuel f.type ((cs.drop f.offset).take (P.cellsOf f.type))=some y/\bk y.1<=M)->
   off+(fs.flatMap fun f=>bY P d f.type).length=tot/\∀i (h:i<(fs.flatMap fun f=>bY P d f.type).length),∃fuel' y,DataW.trod enc P w base sp held fuel' ((fs.flatMap fun f=>bY P d f.type)[i]) [cs.getD (off+i) undef]=some y/\bk y.1<=M:=by
 intro fs
 induction fs with
 |nil=>
  intro off hok _;exact⟨by simpa[tL] using hok,fun i h=>absurd h (by simp)⟩
 |cons f fs ihf=>
  intro off hok hall;simp only[tL,Bool.and_eq_true] at hok;obtain⟨⟨⟨h1,h2⟩,h3⟩,h4⟩:=hok;have h1':=Nat.eq_of_beq_eq_true h1;have h2':=Nat.eq_of_beq_eq_true h2;obtain⟨y,hy,hyM⟩:=hall f (by simp);obtain⟨e1,e2⟩:=ih f.type _ y h3 hy;obtain⟨e3,e4⟩:=ihf (off+P.cellsOf f.type) h4 (fun g hg=>hall g (by simp[hg]));simp only[List.flatMap_cons,List.length_append];refine⟨by omega,fun i hi=>?_⟩
  by_cases hlt:i<(bY P d f.type).length
  ·obtain⟨f',y',hy',hb⟩:=e2 i hlt;refine⟨f',y',?_,Nat.le_trans hb hyM⟩;have hg:((cs.drop f.offset).take (P.cellsOf f.type)).getD i undef=cs.getD (off+i) undef:=by
    simp only[List.getD_eq_getElem?_getD,List.getElem?_take,List.getElem?_drop];rw[if_pos (by omega),h1']
   rw[hg] at hy';rw[List.getElem_append_left hlt];exact hy'
  ·have hr:i-(bY P d f.type).length<(fs.flatMap fun f=>bY P d f.type).length:=by
    omega
   obtain⟨f',y',hy',hb⟩:=e4 _ hr;refine⟨f',y',?_,hb⟩;rw[List.getElem_append_right (by omega)];have e:off+P.cellsOf f.type+(i-(bY P d f.type).length)=off+i:=by omega
   rw[e] at hy';exact hy'
theorem aYG:∀(d:Nat) (t:TypeId) (fuel:Nat) (cs:List Value) (x:DataW H×List MemPlace),kQ P d t=true->DataW.trod enc P w base sp held fuel t cs=some x->
  cs.length=(bY P d t).length/\∀i (h:i<(bY P d t).length),∃fuel' y,DataW.trod enc P w base sp held fuel' ((bY P d t)[i]) [cs.getD i undef]=some y/\bk y.1<=bk x.1:=by
 have leaf:∀{t:TypeId} {fuel:Nat} {cs:List Value} {x:DataW H×List MemPlace} {l:List TypeId},l=[t]->iX P t=true->DataW.trod enc P w base sp held fuel t cs=some x->
   cs.length=l.length/\∀i (h:i<l.length),∃fuel' y,DataW.trod enc P w base sp held fuel' (l[i]) [cs.getD i undef]=some y/\bk y.1<=bk x.1:=fun {t fuel cs x l} hl hk h=>by
  subst hl;obtain⟨h1,_⟩:=aMx hk h;refine⟨h1,fun i hi=>?_⟩;have:i=0:=by simpa using hi
  subst this
  match cs,h1 with
  |[c],_=>exact⟨fuel,x,h,Nat.le_refl _⟩
 intro d
 induction d with
 |zero=>
  intro t fuel cs x hok h;exact leaf rfl hok h
 |succ d ih=>
  intro t fuel cs x hok h;unfold kQ at hok;split at hok
  ·rename_i fields hu;have hl:bY P (d+1) t=fields.toList.flatMap fun f=>bY P d f.type:=by
    simp only[bY,hu]
   rw[hl];cases fuel with
   |zero=>cases h
   |succ fuel=>
    simp only[DataW.trod,hu] at h;split at h
    ·rename_i hlen;obtain⟨ys,hys,hx⟩:=Option.map_eq_some_iff.1 h;have:=aYI (cs:=cs) (M:=bk x.1) hlen (fun t cs x=>ih t fuel cs x) fields.toList 0 hok (fun f hf=>by
      obtain⟨y,hy,e⟩:=bEr hys f hf;refine⟨y,e,?_⟩;rw[<- hx];exact bKm (List.mem_map.2 ⟨y,hy,rfl⟩))
     refine⟨by omega,fun i hi=>?_⟩;have:=this.2 i hi;rwa [Nat.zero_add] at this
    ·cases h
  ·cases hok
  ·rename_i hne hna;refine leaf ?_ hok h;unfold bY;split
   ·rename_i fs hu;exact absurd hu (hne fs)
   ·rename_i m e hu;exact absurd hu (hna m e)
   ·rfl
end
def mX (C:Cfg U) (p:(τ:U.τ)->U.T τ->Prop) (B:Nat) (u:TypeId) (a:aB U):Prop:=
 match C.P.underlying u with
 |some (.int k)=>∃n,a=.int k n/\k.has n
 |some .bool=>∃b,a=.bool b
 |some .string=>∃s,a=.str s/\(s.size:Int)<=9223372036854775807
 |some (.slice e)=>∃τ xs,C.elt e=some τ/\a=.sl τ xs/\xs.length<=B/\∀x∈xs,p τ x
 |_=>False
def oS (C:Cfg U) (p:(τ:U.τ)->U.T τ->Prop) (B:Nat) (enc:TypeId×Value->H) (w:World) (e:TypeId) (τ:U.τ):Prop:=
 C.P.cellsOf e=U.size τ/\∀n cs y,DataW.trod enc C.P w 0 (fun _=>true) true n e cs=some y->bk y.1<=B->∃z:U.T τ,p τ z/\∀k (hk:k<(C.E.enc τ z).length),Rel C.E w bU (dJ (fun _=>False) w) (C.E.enc τ z)[k] (cs.getD k undef)
variable {B:Nat}
theorem bFN {u:TypeId} {v:Value} {fuel:Nat} {y:DataW H×List MemPlace} (hE:∀e,C.P.underlying u=some (.slice e)->∃τ,C.elt e=some τ/\oS C p B enc w e τ)
  (hk:iX C.P u=true) (h:DataW.trod enc C.P w 0 (fun _=>true) true fuel u [v]=some y) (hB:bk y.1<=B):
  ∃a,mX C p B u a/\Rel C.E w bU (dJ (fun _=>False) w) a v:=by
 unfold iX at hk;unfold mX;split at hk
 ·rename_i k hu;simp only[hu];obtain⟨n,h1,_,h2⟩:=DataW.trod_int hu h;cases h1;exact⟨.int k n,⟨_,rfl,(by simpa[Lit.wf] using h2:k.min<=n/\n<=k.max)⟩,.int _ _⟩
 ·rename_i hu;simp only[hu];obtain⟨b,h1,_⟩:=DataW.trod_bool hu h;cases h1;exact⟨.bool b,⟨_,rfl⟩,.bool _⟩
 ·rename_i hu;simp only[hu];obtain⟨s,h1,_,h2⟩:=DataW.trod_string hu h;cases h1;refine⟨.str s,⟨_,rfl,?_⟩,.str _⟩;unfold maxLen at h2;omega
 ·rename_i e hu;simp only[hu];obtain⟨τ,hτ,hs,hel⟩:=hE e hu;rcases open_slice hu h with ⟨h1,_⟩|⟨a,len,cap,m,n,D,Pl,h1,hb,hl,hm,hmm,hx,hall⟩
  ·simp only[List.cons.injEq,and_true] at h1;subst h1;exact⟨.sl τ [],⟨τ,[],hτ,rfl,by simp,by simp⟩,.jI τ⟩
  ·simp only[List.cons.injEq,and_true] at h1;subst h1;have hmc:m=cap:=by simpa using hmm
   subst hmc;have hbs:=bKk ((List.range len).map D) ((List.range (m-len)).map fun j=>D (len+j));rw[hx] at hB;have hlB:len<=B:=by
    have:=hbs.1;simp only[List.length_map,List.length_range] at this;exact Nat.le_trans this hB
   have hDB:∀i,i<len->bk (D i)<=B:=fun i hi=>Nat.le_trans (hbs.2 _ (List.mem_map.2 ⟨i,List.mem_range.2 hi,rfl⟩)) hB
   have hpos:=C.E.pos τ;rcases Nat.eq_zero_or_pos m with h0|hmp
   ·subst h0;have nQ:len=0:=by omega
    subst nQ;exact⟨.sl τ [],⟨τ,[],hτ,rfl,by simp,by simp⟩,.sle τ a⟩
   have hblk:a.block<w.heap.size/\a.spot=none:=by
    obtain⟨cs',h3,_⟩:=hall 0 hmp;obtain⟨_,hlen,hcell⟩:=World.cells?_some h3;have h5:=hcell 0 (by rw[hs];exact hpos);rw[List.getElem?_eq_getElem (by rw[hlen,hs];exact hpos),Nat.zero_mul,add_add] at h5;unfold World.cell? at h5;split at h5
    ·rename_i hh;split at h5
     ·cases h5
     ·rename_i hsp;have cA:(a.add (0+0)).block=a.block:=by simp[Addr.add]
      have mS:(a.add (0+0)).spot=a.spot:=by simp[Addr.add]
      rw[cA] at hh;rw[mS] at hsp;exact⟨(Array.getElem?_eq_some_iff.1 hh).1,by simpa using hsp⟩
    ·cases h5
   obtain⟨hblk,hspot⟩:=hblk;obtain⟨b,o,spot⟩:=a;simp only at hspot hblk;subst hspot;obtain⟨Z,hZ⟩:=choose_lt (α:=Option (U.T τ)×List Value) (n:=len) (p:=fun i z=>∃q,z.1=some q/\p τ q/\w.cells? 0 (Addr.add ⟨b,o,none⟩ (i*C.P.cellsOf e)) (C.P.cellsOf e)=some z.2/\∀k (hk:k<(C.E.enc τ q).length),Rel C.E w bU (dJ (fun _=>False) w) (C.E.enc τ q)[k] (z.2.getD k undef)) (fun i hi=>by
    obtain⟨cs',h3,h4⟩:=hall i (by omega);obtain⟨z,hp,hz⟩:=hel n cs' _ h4 (hDB i hi);exact⟨(some z,cs'),z,rfl,hp,h3,hz⟩)
   have hxs:∃xs:List (U.T τ),xs.length=len/\∀i (h:i<xs.length),(Z i).1=some xs[i]:=by
    have:∀j,j<=len->∃xs:List (U.T τ),xs.length=j/\∀i (h:i<xs.length),(Z i).1=some xs[i]:=by
     intro j
     induction j with
     |zero=>intro _;exact⟨[],rfl,fun i h=>absurd h (by simp)⟩
     |succ j ihj=>
      intro hj;obtain⟨xs,e1,e2⟩:=ihj (by omega);obtain⟨q,hq,_⟩:=hZ j (by omega);refine⟨xs++[q],by simp[e1],fun i hi=>?_⟩
      by_cases hij:i<xs.length
      ·rw[List.getElem_append_left hij];exact e2 i hij
      ·have:i=j:=by simp at hi;omega
       subst this;simp[e1,hq]
    exact this len (Nat.le_refl _)
   obtain⟨xs,e1,e2⟩:=hxs;have hrel:∀i (h:i<xs.length),p τ xs[i]/\∀k (hk:k<(C.E.enc τ xs[i]).length),w.cell? ⟨b,o+(i*U.size τ+k),none⟩=some ((Z i).2.getD k undef)/\Rel C.E w bU (dJ (fun _=>False) w) (C.E.enc τ xs[i])[k] ((Z i).2.getD k undef):=by
    intro i hi;obtain⟨q,hq,hp,h3,h4⟩:=hZ i (by omega);have hqx:q=xs[i]:=by
     have:=e2 i hi;rw[hq] at this;exact Option.some.inj this
    subst hqx;refine⟨hp,fun k hk=>⟨?_,h4 k hk⟩⟩;obtain⟨_,hlen,hcell⟩:=World.cells?_some h3;have hk':k<U.size τ:=by rw[C.E.enc_len] at hk;exact hk
    have:=hcell k (by rw[hs];exact hk');rw[Addr.qL,Addr.qL,hs] at this;rw[<- Nat.add_assoc];rw[this];have hkl:k<(Z i).2.length:=by rw[hlen,hs];exact hk'
    simp[hkl]
   refine⟨.sl τ xs,⟨τ,xs,hτ,rfl,?_,fun x hx=>?_⟩,?_⟩
   ·omega
   ·obtain⟨i,hi,rfl⟩:=List.mem_iff_getElem.1 hx;exact(hrel i hi).1
   ·have:=Rel.sl (E:=C.E) (w:=w) (ρ:=bU) (st:=dJ (fun _=>False) w) τ xs b o m (fun j=>(Z (j / U.size τ)).2.getD (j % U.size τ) undef) ⟨hblk,fun h=>h⟩ (by omega) (fun j hj=>by
     have h5:j / U.size τ<xs.length:=Nat.div_lt_of_lt_mul (by rw[Nat.mul_comm];exact hj);have h6:j % U.size τ<U.size τ:=Nat.mod_lt _ hpos;have:=((hrel (j / U.size τ) h5).2 (j % U.size τ) (by rw[C.E.enc_len];exact h6)).1;have h7:j / U.size τ*U.size τ+j % U.size τ=j:=by rw[Nat.mul_comm];exact Nat.div_add_mod j _
     rw[h7] at this;exact this) (fun i hi k hk=>by
     have hk':k<U.size τ:=by rw[C.E.enc_len] at hk;exact hk
     have h7:(i*U.size τ+k) / U.size τ=i:=by
      rw[Nat.mul_comm,Nat.mul_add_div hpos,Nat.div_eq_of_lt hk',Nat.add_zero]
     have h8:(i*U.size τ+k) % U.size τ=k:=by
      rw[Nat.mul_comm,Nat.mul_add_mod,Nat.mod_eq_of_lt hk']
     simp only[h7,h8];exact((hrel i hi).2 k hk).2)
    rw[e1] at this;exact this
 ·cases hk
theorem aR6 {t:TypeId} {d fuel:Nat} {cs:List Value} {x:DataW H×List MemPlace}
  (hE:∀u∈bY C.P d t,iX C.P u=true/\∀e,C.P.underlying u=some (.slice e)->∃τ,C.elt e=some τ/\oS C p B enc w e τ) (hflat:kQ C.P d t=true)
  (h:DataW.trod enc C.P w 0 (fun _=>true) true fuel t cs=some x) (hB:bk x.1<=B):
  ∃lvs:List (aB U),lvs.length=(bY C.P d t).length/\cs.length=lvs.length/\∀i (h:i<lvs.length) (h':i<(bY C.P d t).length),mX C p B (bY C.P d t)[i] lvs[i]/\Rel C.E w bU (dJ (fun _=>False) w) lvs[i] (cs.getD i undef):=by
 obtain⟨hlen,hleaf⟩:=aYG d t fuel _ _ hflat h;have key:∀j,j<=cs.length->∃lvs:List (aB U),lvs.length=j/\∀i (h:i<lvs.length) (h':i<(bY C.P d t).length),mX C p B (bY C.P d t)[i] lvs[i]/\Rel C.E w bU (dJ (fun _=>False) w) lvs[i] (cs.getD i undef):=by
  intro j
  induction j with
  |zero=>intro _;exact⟨[],rfl,fun i h=>absurd h (by simp)⟩
  |succ j ih=>
   intro hj;obtain⟨lvs,e1,e2⟩:=ih (by omega);have hjl:j<(bY C.P d t).length:=by omega
   obtain⟨f',y,hy,hby⟩:=hleaf j hjl;obtain⟨hk,hE'⟩:=hE _ (List.getElem_mem hjl);obtain⟨a,ha,hr⟩:=bFN hE' hk hy (Nat.le_trans hby hB);refine⟨lvs++[a],by simp[e1],fun i hi hi'=>?_⟩
   by_cases hij:i<lvs.length
   ·rw[List.getElem_append_left hij];exact e2 i hij hi'
   ·have:i=j:=by simp at hi;omega
    subst this;simp[e1];exact⟨ha,by simpa using hr⟩
 obtain⟨lvs,e1,e2⟩:=key cs.length (Nat.le_refl _);exact⟨lvs,by omega,by omega,e2⟩
theorem aNg {e:TypeId} {τ:U.τ} (d:Nat) (hs:C.P.cellsOf e=U.size τ) (hE:∀u∈bY C.P d e,iX C.P u=true/\∀e,C.P.underlying u=some (.slice e)->∃τ,C.elt e=some τ/\oS C p B enc w e τ) (hok:kQ C.P d e=true)
  (hz:∀lvs:List (aB U),lvs.length=(bY C.P d e).length->(∀i (h:i<lvs.length) (h':i<(bY C.P d e).length),mX C p B (bY C.P d e)[i] lvs[i])->∃z,p τ z/\C.E.enc τ z=lvs):oS C p B enc w e τ:=by
 refine⟨hs,fun n cs y h hB=>?_⟩;obtain⟨lvs,h1,h2,h3⟩:=aR6 hE hok h hB;obtain⟨z,hp,rfl⟩:=hz lvs h1 (fun i h h'=>(h3 i h h').1);exact⟨z,hp,fun k hk=>(h3 k hk (by omega)).2⟩
theorem bLT {t:TypeId} {v:Value} {b0 d:Nat} {x:DataW H} {ps:List MemPlace}
  (hE:∀u∈bY C.P d t,iX C.P u=true/\∀e,C.P.underlying u=some (.slice e)->∃τ,C.elt e=some τ/\oS C p B enc w e τ) (hs:nK C.P t=true) (hflat:kQ C.P d t=true)
  (hok:Value.okWide C.P w .any b0 t v) (h:DataW.Trod enc C.P w 0 (fun _=>true) true t v x ps) (hB:bk x<=B):
  ∃lvs:List (aB U),lvs.length=(bY C.P d t).length/\(∀i (h:i<lvs.length) (h':i<(bY C.P d t).length),mX C p B (bY C.P d t)[i] lvs[i])/\Rel C.E w bU (dJ (fun _=>False) w) (.agg lvs) v:=by
 have hv:∃cs,v=.agg cs:=by
  unfold nK at hs;unfold Value.okWide at hok;split at hs
  ·rename_i fs hu;rw[hu] at hok;obtain⟨cs,rfl,_⟩:=hok;exact⟨cs,rfl⟩
  ·rename_i n e hu;rw[hu] at hok;obtain⟨cs,rfl,_⟩:=hok;exact⟨cs,rfl⟩
  ·cases hs
 obtain⟨cs,rfl⟩:=hv;obtain⟨fuel,hf⟩:=h;obtain⟨lvs,h1,h2,h3⟩:=aR6 hE hflat hf hB;refine⟨lvs,h1,fun i h h'=>(h3 i h h').1,.agg lvs cs (by simpa[Value.cells] using h2) (fun k hk=>?_)⟩;simpa[Value.cells] using (h3 k hk (by omega)).2
end
end Go.Vm
namespace Go.Proofs.YtjjbojomlfgjlaaGreatDoor
open Go.Vm Go.ChangeShapes Go.WideShapes Go.ChangeAt Go.RowKit Go.Joins
set_option linter.unusedVariables false
set_option maxRecDepth 100000
noncomputable section
def bGB (n:Int):Prop:=IntKind.i64.has n
theorem own:ownKnob Tryz.prog.godebug=none:=by kernel_rfl
theorem laidOut:laidOutB Tryz.prog=true:=by kernel_rfl
theorem bFk {W:World} (h:W.ShapedOpen Tryz.prog):aAA W:=Tryz.bFT.s1_3 W h
theorem bGU:Tryz.prog.globalNamed "errors.errorType"=some 0:=by kernel_rfl
theorem bA3:(Tryz.prog.cutTypes.find? (·.1== "internal/reflectlite.rtype")).map (·.2)=some 271:=by kernel_rfl
theorem bCZ:((List.range 359).filter fun t=>Tryz.prog.rowNamed t [101,114,114,111,114])=[114]:=by kernel_rfl
theorem aYa:Tryz.prog.types.size=359:=by kernel_rfl
theorem bBi:(Rows.laid_internal_strconv_uint64pow10:DataW Unit)=Lib.tabData .u64 Lib.pow10Tab:=by kernel_rfl
theorem bHr {W:World} {l:List (String×DataW Unit)} (h:handlesMet Tryz.prog l W) (hm:("errors.errorType",Rows.laid_errors_errorType)∈l):aV9 W:=by
 obtain⟨name,u,ty,e1,e2,e3,e4,e5⟩:=h _ hm;have en:name=[101,114,114,111,114]:=(Option.some.inj e1).symm;subst en;obtain rfl:=Option.some.inj (bA3.symm.trans e2);have hm:ty∈(List.range 359).filter fun t=>Tryz.prog.rowNamed t [101,114,114,111,114]:=List.mem_filter.2 ⟨List.mem_range.2 (by rw[<- aYa];exact e3),e4⟩
 rw[bCZ] at hm;obtain rfl:=List.mem_singleton.1 hm;have hh:typeHandle Tryz.prog 114=.pointer (some ⟨5,114,none⟩):=by kernel_rfl
 rw[hh] at e5;show W.cell? ⟨0,0,none⟩=_;simpa using World.var?_cell bGU e5 0
theorem bCS {H:Type} {C:Cfg UU} {enc:TypeId×Value->H} {W:World} {t:TypeId} {v:Value} {b0:Nat} {x:DataW H} {ps:List MemPlace} (hE:∀e,C.P.underlying t=some (.slice e)->∃τ,C.elt e=some τ/\aDI C enc W e τ)
  (hk:iX C.P t=true) (ha:nK C.P t=false) (hok:Value.okWide C.P W .any b0 t v) (h:DataW.Trod enc C.P W 0 (fun _=>true) true t v x ps) (hv:v.cells=#[v]):
  ∃a,Fits C t a/\Rel C.E W bU (dJ (fun _=>False) W) a v:=by
 obtain⟨fuel,hf⟩:=h;rw[hv] at hf;refine aR7 hE hk (b0:=b0) ?_ hf;unfold nK at ha;unfold Value.okWide at hok;split at hok
 ·rename_i hu;rw[hu] at ha;cases ha
 ·rename_i hu;rw[hu] at ha;cases ha
 ·exact hok
theorem bJV {P:Program} {W:World} {b0:Nat} {t:TypeId} {v:Value} {e:TypeId} (hu:P.underlying t=some (.slice e)) (hok:Value.okWide P W .any b0 t v):v.cells=#[v]:=by
 unfold Value.okWide at hok;rw[hu] at hok;simp only at hok;unfold Cell.okWide Cell.ok at hok;rw[hu] at hok;cases v<;>first|rfl| (simp at hok)
theorem bCV (ns:zzI) (h:ns.length=UU.size .op):∃z:UU.T .op,EE.enc .op z=ns.map (aB.int .i64):=by
 match ns,h with
 |[a,b,c,d,e,f],_=>exact⟨Opn.mk a b c d e f,rfl⟩
theorem bCN {H:Type} {enc:TypeId×Value->H} {W:World}:aDI dR enc W 55 .op:=bCO 5 (by kernel_rfl) (by kernel_rfl) (by kernel_rfl) (by kernel_rfl) bCV
theorem bGw {t e:TypeId} {τ:Knd} {a:aB UU} (hu:Tryz.prog.underlying t=some (.slice e)) (he:dR.elt e=some τ) (h:Fits dR t a):∃xs:List (UU.T τ),a=.sl τ xs:=by
 unfold Fits at h;rw[show dR.P.underlying t=_ from hu] at h;obtain⟨τ',xs,h1,h2,_⟩:=h;rw[he] at h1;cases h1;exact⟨xs,h2⟩
theorem fits_int {t:TypeId} {a:aB UU} (hu:Tryz.prog.underlying t=some (.int .i64)) (h:Fits dR t a):∃n,a=.int .i64 n/\bGB n:=by
 unfold Fits at h;rw[show dR.P.underlying t=_ from hu] at h;obtain⟨n,h1,h2⟩:=h;exact⟨n,h1,h2⟩
theorem bCR {H:Type} {enc:TypeId×Value->H} {W:World} {base:Nat} {v:Value} {x:DataW H} {ps:List MemPlace} (hok:Value.okWide Tryz.prog W .any base 29 v) (h:DataW.Trod enc Tryz.prog W 0 (fun _=>true) true 29 v x ps):
  ∃l:List Opn,Rel EE W bU (dJ (fun _=>False) W) (aB.sl .op l:aB UU) v:=by
 obtain⟨a,h1,h2⟩:=bCS (C:=dR) (t:=29) (fun e he=>by
  rw[show dR.P.underlying 29=_ from Tryz.underlying29] at he;cases he;exact⟨.op,by kernel_rfl,bCN⟩) (by kernel_rfl) (by kernel_rfl) hok h (bJV Tryz.underlying29 hok)
 obtain⟨l,rfl⟩:=bGw Tryz.underlying29 (τ:=.op) (by kernel_rfl) h1;exact⟨l,h2⟩
set_option maxRecDepth 100000 in
theorem bLf {H:Type} {enc:TypeId×Value->H} {W:World} {base:Nat} {v:Value} {x:DataW H} {ps:List MemPlace} (hok:Value.okWide Tryz.prog W .any base 55 v) (h:DataW.Trod enc Tryz.prog W 0 (fun _=>true) true 55 v x ps):
  ∃o:Opn,Rel EE W bU (dJ (fun _=>False) W) (aB.agg [.int .i64 o.Kind,.int .i64 o.X,.int .i64 o.Y,.int .i64 o.W,.int .i64 o.H,.int .i64 o.N]:aB UU) v:=by
 obtain⟨zs,h1,h2,h3⟩:=bCU (C:=dR) (d:=5) (t:=55) (fun u hu=>by
  have hl:bY Tryz.prog 5 55=[3,3,3,3,3,3]:=by kernel_rfl
  have hu':u∈[3,3,3,3,3,3]:=hl▸hu;simp only[List.mem_cons,List.not_mem_nil,or_false,or_self] at hu';subst hu';exact⟨by kernel_rfl,fun e he=>by rw[show dR.P.underlying 3=_ from Tryz.underlying3] at he;cases he⟩) (by kernel_rfl) (by kernel_rfl) (by kernel_rfl) hok h
 have hl:bY dR.P 5 55=[3,3,3,3,3,3]:=by kernel_rfl
 simp only[hl] at h1 h2
 match zs,h1 with
 |[a0,a1,a2,a3,a4,a5],_=>
  obtain⟨n0,rfl,_⟩:=fits_int Tryz.underlying3 (h2 0 (by simp) (by simp));obtain⟨n1,rfl,_⟩:=fits_int Tryz.underlying3 (h2 1 (by simp) (by simp));obtain⟨n2,rfl,_⟩:=fits_int Tryz.underlying3 (h2 2 (by simp) (by simp));obtain⟨n3,rfl,_⟩:=fits_int Tryz.underlying3 (h2 3 (by simp) (by simp));obtain⟨n4,rfl,_⟩:=fits_int Tryz.underlying3 (h2 4 (by simp) (by simp));obtain⟨n5,rfl,_⟩:=fits_int Tryz.underlying3 (h2 5 (by simp) (by simp));exact⟨Opn.mk n0 n1 n2 n3 n4 n5,h3⟩
def pQ (B:Nat):(τ:UU.τ)->UU.T τ->Prop:=fun τ=>match τ with
 | .pc=>fun p=>p.Rects.length<=B/\p.Cuts.length<=B/\p.Forms.length<=B
 |_=>fun _=>True
section
variable {H:Type} {enc:TypeId×Value->H} {W:World} {B:Nat}
theorem aAO {t e:TypeId} {τ:Knd} {a:aB UU} (hu:Tryz.prog.underlying t=some (.slice e)) (he:dR.elt e=some τ) (h:mX dR (pQ B) B t a):∃xs:List (UU.T τ),a=.sl τ xs/\xs.length<=B/\∀x∈xs,pQ B τ x:=by
 unfold mX at h;rw[show dR.P.underlying t=_ from hu] at h;obtain⟨τ',xs,h1,h2,h3,h4⟩:=h;rw[he] at h1;cases h1;exact⟨xs,h2,h3,h4⟩
theorem oO {t:TypeId} {a:aB UU} (hu:Tryz.prog.underlying t=some (.int .i64)) (h:mX dR (pQ B) B t a):∃n,a=.int .i64 n:=by
 unfold mX at h;rw[show dR.P.underlying t=_ from hu] at h;obtain⟨n,h1,_⟩:=h;exact⟨n,h1⟩
theorem aGH {t:TypeId} {a:aB UU} (hu:Tryz.prog.underlying t=some .string) (h:mX dR (pQ B) B t a):∃s,a=.str s:=by
 unfold mX at h;rw[show dR.P.underlying t=_ from hu] at h;obtain⟨s,h1,_⟩:=h;exact⟨s,h1⟩
theorem aR8:iX dR.P 9=true/\∀e,dR.P.underlying 9=some (.slice e)->∃τ,dR.elt e=some τ/\oS dR (pQ B) B enc W e τ:=
 ⟨by kernel_rfl,fun e he=>by rw[show dR.P.underlying 9=_ from Tryz.underlying9] at he;cases he⟩
theorem aKO:iX dR.P 3=true/\∀e,dR.P.underlying 3=some (.slice e)->∃τ,dR.elt e=some τ/\oS dR (pQ B) B enc W e τ:=
 ⟨by kernel_rfl,fun e he=>by rw[show dR.P.underlying 3=_ from Tryz.underlying3] at he;cases he⟩
theorem bCP:oS dR (pQ B) B enc W 53 .rect:=by
 have hl:bY dR.P 5 53=[3,3,3,3]:=by kernel_rfl
 refine aNg 5 (by kernel_rfl) (fun u hu=>?_) (by kernel_rfl) (fun lvs h1 h2=>?_)
 ·rw[hl] at hu;simp only[List.mem_cons,List.not_mem_nil,or_false,or_self] at hu;subst hu;exact aKO
 ·simp only[hl] at h1 h2
  match lvs,h1 with
  |[a0,a1,a2,a3],_=>
   obtain⟨n0,rfl⟩:=oO Tryz.underlying3 (h2 0 (by simp) (by simp));obtain⟨n1,rfl⟩:=oO Tryz.underlying3 (h2 1 (by simp) (by simp));obtain⟨n2,rfl⟩:=oO Tryz.underlying3 (h2 2 (by simp) (by simp));obtain⟨n3,rfl⟩:=oO Tryz.underlying3 (h2 3 (by simp) (by simp));exact⟨aA.mk n0 n1 n2 n3,trivial,rfl⟩
theorem aR9:iX dR.P 22=true/\∀e,dR.P.underlying 22=some (.slice e)->∃τ,dR.elt e=some τ/\oS dR (pQ B) B enc W e τ:=
 ⟨by kernel_rfl,fun e he=>by
  rw[show dR.P.underlying 22=_ from Tryz.underlying22] at he;cases he;exact⟨.rect,by kernel_rfl,bCP⟩⟩
theorem bCQ:oS dR (pQ B) B enc W 51 .pc:=by
 have hl:bY dR.P 5 51=[9,9,3,3,22,22,22]:=by kernel_rfl
 refine aNg 5 (by kernel_rfl) (fun u hu=>?_) (by kernel_rfl) (fun lvs h1 h2=>?_)
 ·rw[hl] at hu;have hu':u=9\/u=3\/u=22:=by
   simp only[List.mem_cons,List.not_mem_nil,or_false] at hu;rcases hu with h|h|h|h|h|h|h<;>simp[h]
  rcases hu' with rfl|rfl|rfl
  ·exact aR8
  ·exact aKO
  ·exact aR9
 ·simp only[hl] at h1 h2
  match lvs,h1 with
  |[a0,a1,a2,a3,a4,a5,a6],_=>
   obtain⟨n0,rfl⟩:=aGH Tryz.underlying9 (h2 0 (by simp) (by simp));obtain⟨n1,rfl⟩:=aGH Tryz.underlying9 (h2 1 (by simp) (by simp));obtain⟨n2,rfl⟩:=oO Tryz.underlying3 (h2 2 (by simp) (by simp));obtain⟨n3,rfl⟩:=oO Tryz.underlying3 (h2 3 (by simp) (by simp));obtain⟨n4,rfl,l4,_⟩:=aAO Tryz.underlying22 (τ:=.rect) (by kernel_rfl) (h2 4 (by simp) (by simp));obtain⟨n5,rfl,l5,_⟩:=aAO Tryz.underlying22 (τ:=.rect) (by kernel_rfl) (h2 5 (by simp) (by simp));obtain⟨n6,rfl,l6,_⟩:=aAO Tryz.underlying22 (τ:=.rect) (by kernel_rfl) (h2 6 (by simp) (by simp));exact⟨Pce.mk n0 n1 n2 n3 n4 n5 n6,⟨l4,l5,l6⟩,rfl⟩
theorem bCT {base:Nat} {v:Value} {x:DataW H} {ps:List MemPlace} (hok:Value.okWide Tryz.prog W .any base 27 v) (h:DataW.Trod enc Tryz.prog W 0 (fun _=>true) true 27 v x ps) (hB:bk x<=B):
  ∃(nm mt:ByteArray) (g gr wd ht:Int) (cl us:List aA) (pc:List Pce),(cl.length<=B/\us.length<=B/\∀p∈pc,p.Rects.length<=B/\p.Cuts.length<=B/\p.Forms.length<=B)/\
   Rel EE W bU (dJ (fun _=>False) W) (aB.agg [.str nm,.str mt,.int .i64 g,.int .i64 gr,.int .i64 wd,.int .i64 ht,.sl .rect cl,.sl .rect us,.sl .pc pc]:aB UU) v:=by
 have hl:bY dR.P 5 27=[9,9,3,3,3,3,22,22,25]:=by kernel_rfl
 obtain⟨zs,h1,h2,h3⟩:=bLT (C:=dR) (p:=pQ B) (d:=5) (t:=27) (fun u hu=>by
  rw[hl] at hu;have hu':u=9\/u=3\/u=22\/u=25:=by
   simp only[List.mem_cons,List.not_mem_nil,or_false] at hu;rcases hu with h|h|h|h|h|h|h|h|h<;>simp[h]
  rcases hu' with rfl|rfl|rfl|rfl
  ·exact aR8
  ·exact aKO
  ·exact aR9
  ·refine⟨by kernel_rfl,fun e he=>?_⟩;rw[show dR.P.underlying 25=_ from Tryz.underlying25] at he;cases he;exact⟨.pc,by kernel_rfl,bCQ⟩) (by kernel_rfl) (by kernel_rfl) hok h hB
 simp only[hl] at h1 h2
 match zs,h1 with
 |[a0,a1,a2,a3,a4,a5,a6,a7,a8],_=>
  obtain⟨n0,rfl⟩:=aGH Tryz.underlying9 (h2 0 (by simp) (by simp));obtain⟨n1,rfl⟩:=aGH Tryz.underlying9 (h2 1 (by simp) (by simp));obtain⟨n2,rfl⟩:=oO Tryz.underlying3 (h2 2 (by simp) (by simp));obtain⟨n3,rfl⟩:=oO Tryz.underlying3 (h2 3 (by simp) (by simp));obtain⟨n4,rfl⟩:=oO Tryz.underlying3 (h2 4 (by simp) (by simp));obtain⟨n5,rfl⟩:=oO Tryz.underlying3 (h2 5 (by simp) (by simp));obtain⟨n6,rfl,l6,_⟩:=aAO Tryz.underlying22 (τ:=.rect) (by kernel_rfl) (h2 6 (by simp) (by simp));obtain⟨n7,rfl,l7,_⟩:=aAO Tryz.underlying22 (τ:=.rect) (by kernel_rfl) (h2 7 (by simp) (by simp));obtain⟨n8,rfl,_,l8⟩:=aAO Tryz.underlying25 (τ:=.pc) (by kernel_rfl) (h2 8 (by simp) (by simp));exact⟨n0,n1,n2,n3,n4,n5,n6,n7,n8,⟨l6,l7,l8⟩,h3⟩
end
noncomputable def aXq (os:Os):World:=
 let w0:=World.holding Tryz.prog os ⟨#[],#[],[]⟩
 {w0 with heap:=w0.heap.modify 0 fun
   | .cells _ t frozen=>.cells #[.iface 271 (.agg #[.pointer (some ⟨5,114,none⟩)])] t frozen
   |o=>o}
theorem bFZ (P:Program) (w:World) (l:List (String×DataW Unit)):(w.layVars P l).os=w.os:=World.layVars_os _ _ _
theorem bF3 {w0:World} {laid:List (String×DataW Unit)} (args:Array Value) (hf:w0.layFits Tryz.prog laid []=true) (hi:w0.layIfaces Tryz.prog laid (w0.layVars Tryz.prog laid)=true):
  laidMet Tryz.prog laid ((w0.layVars Tryz.prog laid).forCall (fun _ _=>0) ⟨#[],args,[]⟩).memory:=by
 have e1:(laid.filter fun x=>(laid.map (·.1)).contains x.1)=laid:=List.filter_eq_self.2 fun x hx=>List.contains_iff_mem.2 (List.mem_map.2 ⟨x,hx,rfl⟩)
 have e2:(laid.filter fun x=>!(laid.map (·.1)).contains x.1)=[]:=List.filter_eq_nil_iff.2 fun x hx=>by rw[List.contains_iff_mem.2 (List.mem_map.2 ⟨x,hx,rfl⟩)];simp
 have h:laidMet Tryz.prog laid (w0.layVars Tryz.prog laid):=laidMet_layVars (w0:=w0) (laid.map (·.1)) [] (by rw[e1]) (by rw[e1];exact hf) (by rw[e1];exact hi) (by rw[e2];exact LaidIn.none);exact h.of_heap (by simp[World.memory,World.forCall,Input.heap])
end
end Go.Proofs.YtjjbojomlfgjlaaGreatDoor
namespace Go.Proofs.YtjjbojomlfgjlaaGreatDoor
set_option linter.unusedVariables false
section
variable {α:Type} [DecidableEq α]
inductive Rch (nb:α->List α) (L:α->Option Nat) (c:α):α->Prop
 |base:Rch nb L c c
 |step {d e:α}:Rch nb L c d->e∈nb d->L e=none->Rch nb L c e
open Classical in
noncomputable def iU (nb:α->List α) (L:α->Option Nat) (c:α) (n:Nat):α->Option Nat:=fun d=>if Rch nb L c d then some n else L d
def upd (L:α->Option Nat) (e:α) (n:Nat):α->Option Nat:=fun d=>if d=e then some n else L d
theorem mZ (L:α->Option Nat) (e:α) (n:Nat):upd L e n e=some n:=if_pos rfl
theorem lK {L:α->Option Nat} {e d:α} {n:Nat} (h:d≠e):upd L e n d=L d:=if_neg h
structure iL (nb:α->List α) (cells:List α) (L0:α->Option Nat) (c0:α) (n:Nat) (p:α->Prop) (L:α->Option Nat) (todo:List α):Prop where
 old:∀d,L d=L0 d\/(L d=some n/\L0 d=none/\Rch nb L0 c0 d)
 start:L c0=some n
 mem:∀d∈todo,L d=some n/\d∈cells
 clo:∀d,L d=some n->d∈todo\/p d\/∀e∈nb d,L e≠none
theorem iL.init {nb:α->List α} {cells:List α} {L0:α->Option Nat} {c0:α} {n:Nat} (h0:L0 c0=none) (hc:c0∈cells) (hf:∀d,L0 d≠some n):iL nb cells L0 c0 n (fun _=>False) (upd L0 c0 n) [c0] where
 old d:=by
  by_cases h:d=c0
  ·subst h;exact .inr ⟨mZ ..,h0,.base⟩
  ·exact .inl (lK h)
 start:=mZ ..
 mem d hd:=by
  obtain rfl:=List.mem_singleton.1 hd;exact⟨mZ ..,hc⟩
 clo d hd:=by
  by_cases h:d=c0
  ·exact .inl (by rw[h];exact List.mem_singleton.2 rfl)
  ·rw[lK h] at hd;exact absurd hd (hf d)
omit [DecidableEq α] in
theorem iL.done {nb:α->List α} {cells:List α} {L0:α->Option Nat} {c0:α} {n:Nat} {L:α->Option Nat} (h:iL nb cells L0 c0 n (fun _=>False) L []) (h0:L0 c0=none):L=iU nb L0 c0 n:=by
 funext d;unfold iU
 by_cases hr:Rch nb L0 c0 d
 ·rw[if_pos hr]
  induction hr with
  |base=>exact h.start
  |step hr he hn ih=>
   rename_i d e;rcases h.clo _ ih with hm|hm|hm
   ·cases hm
   ·exact hm.elim
   ·rcases h.old e with h1|⟨h1,_⟩
    ·rw[hn] at h1;exact absurd h1 (hm e he)
    ·exact h1
 ·rw[if_neg hr];rcases h.old d with h1|⟨_,_,h1⟩
  ·exact h1
  ·exact absurd h1 hr
def eZ (n:Nat) (s:(α->Option Nat)×List α) (e:α):(α->Option Nat)×List α:=if s.1 e=none then (upd s.1 e n,s.2++[e]) else s
def visit (n:Nat) (l:List α) (s:(α->Option Nat)×List α):(α->Option Nat)×List α:=l.foldl (eZ n) s
theorem aXy {n:Nat} {s:(α->Option Nat)×List α} {e d:α} (h:s.1 d≠none):(eZ n s e).1 d≠none:=by
 unfold eZ;split
 ·by_cases hd:d=e
  ·subst hd;simp[upd]
  ·show upd _ _ _ d≠_;rw[lK hd];exact h
 ·exact h
theorem aXx {n:Nat} {s:(α->Option Nat)×List α} {e:α}:(eZ n s e).1 e≠none:=by
 unfold eZ;split
 ·simp[upd]
 ·assumption
theorem aMt {n:Nat}:∀(l:List α) (s:(α->Option Nat)×List α) (d:α),s.1 d≠none\/d∈l->(visit n l s).1 d≠none
 |[],s,d,h=>by
  rcases h with h|h
  ·exact h
  ·cases h
 |x::l,s,d,h=>by
  refine aMt l (eZ n s x) d ?_;rcases h with h|h
  ·exact .inl (aXy h)
  ·rcases List.mem_cons.1 h with rfl|h
   ·exact .inl aXx
   ·exact .inr h
theorem iL.eZ {nb:α->List α} {cells:List α} {L0:α->Option Nat} {c0:α} {n:Nat} {c:α} {s:(α->Option Nat)×List α} (h:iL nb cells L0 c0 n (·=c) s.1 s.2) {e:α} (hc:s.1 c=some n) (hcr:Rch nb L0 c0 c) (he:e∈nb c) (hec:e∈cells):
  iL nb cells L0 c0 n (·=c) (eZ n s e).1 (eZ n s e).2:=by
 unfold Go.Proofs.YtjjbojomlfgjlaaGreatDoor.eZ;split
 ·rename_i hn;have h0:L0 e=none:=by
   rcases h.old e with h1|⟨h1,_⟩
   ·rw[<- h1];exact hn
   ·rw[hn] at h1;cases h1
  refine⟨fun d=>?_,?_,fun d hd=>?_,fun d hd=>?_⟩
  ·by_cases hde:d=e
   ·subst hde;exact .inr ⟨mZ ..,h0,.step hcr he h0⟩
   ·show upd _ _ _ d=_\/upd _ _ _ d=_/\_;rw[lK hde];exact h.old d
  ·by_cases hde:c0=e
   ·rw[hde];exact mZ ..
   ·show upd _ _ _ c0=_;rw[lK hde];exact h.start
  ·by_cases hde:d=e
   ·subst hde;exact⟨mZ ..,hec⟩
   ·have hd':d∈s.2:=by
     rcases List.mem_append.1 hd with hd|hd
     ·exact hd
     ·exact absurd (List.mem_singleton.1 hd) hde
    refine⟨?_,(h.mem d hd').2⟩;show upd _ _ _ d=_;rw[lK hde];exact(h.mem d hd').1
  ·by_cases hde:d=e
   ·exact .inl (List.mem_append.2 (.inr (List.mem_singleton.2 hde)))
   ·have hd':s.1 d=some n:=by
     have:upd s.1 e n d=some n:=hd;rwa [lK hde] at this
    rcases h.clo d hd' with h1|h1|h1
    ·exact .inl (List.mem_append.2 (.inl h1))
    ·exact .inr (.inl h1)
    ·refine .inr (.inr fun x hx=>?_);show upd _ _ _ x≠_
     by_cases hxe:x=e
     ·rw[hxe,mZ];simp
     ·rw[lK hxe];exact h1 x hx
 ·exact h
theorem iL.visit {nb:α->List α} {cells:List α} {L0:α->Option Nat} {c0:α} {n:Nat} {c:α} (hcr:Rch nb L0 c0 c):∀(l:List α) (s:(α->Option Nat)×List α),iL nb cells L0 c0 n (·=c) s.1 s.2->s.1 c=some n->(∀e∈l,e∈nb c/\e∈cells)->
  iL nb cells L0 c0 n (·=c) (visit n l s).1 (visit n l s).2/\(visit n l s).1 c=some n
 |[],s,h,hc,_=>⟨h,hc⟩
 |x::l,s,h,hc,hl=>by
  obtain⟨h1,h2⟩:=hl x (List.mem_cons_self ..);refine iL.visit hcr l (Go.Proofs.YtjjbojomlfgjlaaGreatDoor.eZ n s x) (h.eZ hc hcr h1 h2) ?_ fun e he=>hl e (List.mem_cons_of_mem _ he)
  unfold Go.Proofs.YtjjbojomlfgjlaaGreatDoor.eZ;split
  ·by_cases hx:c=x
   ·rw[hx];exact mZ ..
   ·show upd _ _ _ c=_;rw[lK hx];exact hc
  ·exact hc
theorem iL.next {nb:α->List α} {cells:List α} {L0:α->Option Nat} {c0:α} {n:Nat} {L:α->Option Nat} {todo rest l:List α} {c:α} (h:iL nb cells L0 c0 n (fun _=>False) L todo) (hc:c∈todo) (hm:∀d∈todo,d=c\/d∈rest) (hr:∀d∈rest,d∈todo)
  (hf:∀d,L0 d≠some n) (hl:∀e∈l,e∈nb c/\e∈cells) (hall:∀e∈nb c,e∈l):iL nb cells L0 c0 n (fun _=>False) (Go.Proofs.YtjjbojomlfgjlaaGreatDoor.visit n l (L,rest)).1 (Go.Proofs.YtjjbojomlfgjlaaGreatDoor.visit n l (L,rest)).2:=by
 obtain⟨hcn,hcc⟩:=h.mem c hc;have hcr:Rch nb L0 c0 c:=by
  rcases h.old c with h1|⟨_,_,h1⟩
  ·rw[hcn] at h1;exact absurd h1.symm (hf c)
  ·exact h1
 have h1:iL nb cells L0 c0 n (·=c) L rest:=⟨h.old,h.start,fun d hd=>h.mem d (hr d hd),fun d hd=>by
  rcases h.clo d hd with h1|h1|h1
  ·rcases hm d h1 with h2|h2
   ·exact .inr (.inl h2)
   ·exact .inl h2
  ·exact h1.elim
  ·exact .inr (.inr h1)⟩
 obtain⟨h2,h3⟩:=iL.visit hcr l (L,rest) h1 hcn hl;refine⟨h2.old,h2.start,h2.mem,fun d hd=>?_⟩;rcases h2.clo d hd with h4|h4|h4
 ·exact .inl h4
 ·refine .inr (.inr fun e he=>?_);rw[h4] at he;exact aMt l (L,rest) e (.inr (hall e he))
 ·exact .inr (.inr h4)
def free (cells:List α) (L:α->Option Nat):Nat:=(cells.filter fun d=>(L d).isNone).length
theorem aL4 {cells:List α} {L:α->Option Nat} {e:α} {n:Nat} (he:e∈cells) (hn:L e=none):free cells (upd L e n)+1<=free cells L:=by
 unfold free
 induction cells with
 |nil=>cases he
 |cons x l ih=>
  have key:∀l:List α,(l.filter fun d=>(upd L e n d).isNone).length<=(l.filter fun d=>(L d).isNone).length:=fun l=>by
   induction l with
   |nil=>simp
   |cons y l ih=>
    simp only[List.filter_cons]
    by_cases hy:y=e
    ·rw[hy,mZ,hn];simp;omega
    ·rw[lK hy];split
     ·simp;omega
     ·exact ih
  simp only[List.filter_cons]
  by_cases hx:x=e
  ·have:=key l;rw[hx,mZ,hn];simp;omega
  ·rw[lK hx];have hi:=ih (by
    rcases List.mem_cons.1 he with h|h
    ·exact absurd h.symm hx
    ·exact h)
   split
   ·simp;omega
   ·exact hi
theorem aIR {cells:List α} {n:Nat}:∀(l:List α) (s:(α->Option Nat)×List α),(∀e∈l,e∈cells)->free cells (visit n l s).1+(visit n l s).2.length<=free cells s.1+s.2.length
 |[],s,_=>Nat.le_refl _
 |x::l,s,h=>by
  refine Nat.le_trans (aIR l (eZ n s x) fun e he=>h e (List.mem_cons_of_mem _ he)) ?_;unfold eZ;split
  ·rename_i hn;have:=aL4 (n:=n) (h x (List.mem_cons_self ..)) hn;simp only[List.length_append,List.length_singleton];omega
  ·exact Nat.le_refl _
end
abbrev Pl:=Nat×Nat
def nbs (w h:Nat) (lf bl:Nat->Nat->Bool) (c:Pl):List Pl:=
 if c.1<w/\c.2<h then
  (if 0<c.1/\lf c.1 c.2=false then [(c.1-1,c.2)] else [])++(if c.1+1<w/\lf (c.1+1) c.2=false then [(c.1+1,c.2)] else [])++
  (if 0<c.2/\bl c.1 c.2=false then [(c.1,c.2-1)] else [])++(if c.2+1<h/\bl c.1 (c.2+1)=false then [(c.1,c.2+1)] else [])
 else []
def cellsOf (w h:Nat):List Pl:=(List.range h).flatMap fun k=>(List.range w).map fun i=>(i,k)
theorem pW {w h:Nat} {c:Pl}:c∈cellsOf w h↔c.1<w/\c.2<h:=by
 obtain⟨i,k⟩:=c;simp only[cellsOf,List.mem_flatMap,List.mem_range,List.mem_map,Prod.mk.injEq];constructor
 ·rintro ⟨b,hb,a,ha,rfl,rfl⟩
  exact⟨ha,hb⟩
 ·rintro ⟨h1,h2⟩
  exact⟨k,h2,i,h1,rfl,rfl⟩
theorem aNr {w h:Nat} {lf bl:Nat->Nat->Bool} {c e:Pl} (he:e∈nbs w h lf bl c):c.1<w/\c.2<h:=by
 unfold nbs at he;split at he
 ·assumption
 ·cases he
theorem aEf {w h:Nat} {lf bl:Nat->Nat->Bool} {c e:Pl} (he:e∈nbs w h lf bl c):e∈cellsOf w h:=by
 have hc:=aNr he;rw[pW];unfold nbs at he;rw[if_pos hc] at he;simp only[List.mem_append] at he;rcases he with ((he|he)|he)|he
 all_goals
  split at he
  ·obtain rfl:=List.mem_singleton.1 he;simp only;omega
  ·cases he
def Arr (code:Option Nat->Int) (w h:Nat) (part:zzZ) (L:Pl->Option Nat):Prop:=
 w<=part.length/\(∀i,i<w->h<=(part.getD i default).length)/\∀i k,i<w->k<h->(part.getD i default).getD k default=code (L (i,k))
theorem aAF {α:Type} [Inhabited α] (l:List α) (i:Nat) (x:α) (h:i<l.length):(l.set i x).getD i default=x:=by simp[List.getD_eq_getElem?_getD,h]
theorem aAG {α:Type} [Inhabited α] (l:List α) (i j:Nat) (x:α) (h:j≠i):(l.set i x).getD j default=l.getD j default:=by simp[List.getD_eq_getElem?_getD,List.getElem?_set_ne (Ne.symm h)]
theorem Arr.set {code:Option Nat->Int} {w h:Nat} {part:zzZ} {L:Pl->Option Nat} (a:Arr code w h part L) {i k n:Nat} (hi:i<w) (hk:k<h):
  Arr code w h (part.set i ((part.getD i default).set k (code (some n)))) (upd L (i,k) n):=by
 obtain⟨h1,h2,h3⟩:=a;refine⟨by rw[List.length_set];exact h1,fun j hj=>?_,fun j q hj hq=>?_⟩
 ·by_cases hji:j=i
  ·subst hji;rw[aAF _ _ _ (by omega),List.length_set];exact h2 j hj
  ·rw[aAG _ _ _ _ hji];exact h2 j hj
 ·by_cases hji:j=i
  ·subst hji;rw[aAF _ _ _ (by omega)]
   by_cases hqk:q=k
   ·subst hqk;rw[aAF _ _ _ (by have:=h2 j hj;omega),mZ]
   ·rw[aAG _ _ _ _ hqk,lK (fun e=>hqk (Prod.mk.inj e).2)];exact h3 j q hj hq
  ·rw[aAG _ _ _ _ hji,lK (fun e=>hji (Prod.mk.inj e).1)];exact h3 j q hj hq
end Go.Proofs.YtjjbojomlfgjlaaGreatDoor
namespace Go.Proofs.YtjjbojomlfgjlaaGreatDoor
set_option linter.unusedVariables false
section
variable {β:Type}
noncomputable def lB (nb:Pl->List Pl) (rect:Pl->β) (s:(Pl->Option Nat)×List (List β)) (c:Pl):(Pl->Option Nat)×List (List β):=
 let L1:=if s.1 c=none then iU nb s.1 c s.2.length else s.1
 let o1:=if s.1 c=none then s.2++[[]] else s.2
 (L1,o1.set ((L1 c).getD 0) (o1.getD ((L1 c).getD 0) default++[rect c]))
noncomputable def jV (nb:Pl->List Pl) (rect:Pl->β) (l:List Pl) (s:(Pl->Option Nat)×List (List β)):(Pl->Option Nat)×List (List β):=l.foldl (lB nb rect) s
noncomputable def vK (nb:Pl->List Pl) (rect:Pl->β) (cells:List Pl):List (List β):=(jV nb rect cells (fun _=>none,[])).2
inductive Path (nb:Pl->List Pl) (c:Pl):Pl->Prop
 |base:Path nb c c
 |step {d e:Pl}:Path nb c d->e∈nb d->Path nb c e
theorem Rch.path {nb:Pl->List Pl} {L:Pl->Option Nat} {c d:Pl} (h:Rch nb L c d):Path nb c d:=by
 induction h with
 |base=>exact .base
 |step _ he _ ih=>exact .step ih he
theorem Rch.none_ {nb:Pl->List Pl} {L:Pl->Option Nat} {c d:Pl} (h:Rch nb L c d) (hc:L c=none):L d=none:=by
 cases h with
 |base=>exact hc
 |step _ _ h=>exact h
structure jP (nb:Pl->List Pl) (rect:Pl->β) (done:List Pl) (L:Pl->Option Nat) (out:List (List β)):Prop where
 bound:∀d j,L d=some j->j<out.length
 used:∀j,j<out.length->∃d∈done,L d=some j
 lab:∀d∈done,L d≠none
 closed:∀d e j,L d=some j->e∈nb d->L e=some j
 root:∀j,∃r,∀d,L d=some j->Path nb r d
 perm:out.flatten.Perm (done.map rect)
theorem jP.nil (nb:Pl->List Pl) (rect:Pl->β):jP nb rect [] (fun _=>none) [] where
 bound d j h:=by cases h
 used j h:=by cases h
 lab d h:=by cases h
 closed d e j h:=by cases h
 root j:=⟨(0,0),fun d h=>by cases h⟩
 perm:=.refl _
theorem aV2 {β:Type} (x:β):∀(l:List (List β)) (j:Nat),j<l.length->(l.set j (l.getD j default++[x])).flatten.Perm (l.flatten++[x])
 |[],j,h=>by cases h
 |y::l,0,_=>by
  simp only[List.set_cons_zero,List.getD_cons_zero,List.flatten_cons,List.append_assoc];exact List.Perm.append_left y List.perm_append_comm
 |y::l,j+1,h=>by
  simp only[List.set_cons_succ,List.getD_cons_succ,List.flatten_cons,List.append_assoc];exact List.Perm.append_left y (aV2 x l j (by simpa using h))
theorem jP.step {nb:Pl->List Pl} (hsym:∀d e,e∈nb d->d∈nb e) {rect:Pl->β} {done:List Pl} {L:Pl->Option Nat} {out:List (List β)} (h:jP nb rect done L out) (c:Pl):
  jP nb rect (done++[c]) (lB nb rect (L,out) c).1 (lB nb rect (L,out) c).2:=by
 have main:∀(L1:Pl->Option Nat) (o1:List (List β)) (j:Nat),L1 c=some j->j<o1.length->(∀d j,L1 d=some j->j<o1.length)->(∀j,j<o1.length->∃d∈done++[c],L1 d=some j)->(∀d∈done,L1 d≠none)->
   (∀d e j,L1 d=some j->e∈nb d->L1 e=some j)->(∀j,∃r,∀d,L1 d=some j->Path nb r d)->o1.flatten.Perm (done.map rect)->
   jP nb rect (done++[c]) L1 (o1.set ((L1 c).getD 0) (o1.getD ((L1 c).getD 0) default++[rect c])):=fun L1 o1 j hj hjl h1 h2 h3 h4 h5 h6=>by
  rw[hj];refine⟨fun d j hd=>by rw[List.length_set];exact h1 d j hd,fun j hj=>h2 j (by rwa [List.length_set] at hj),fun d hd=>?_,h4,h5,?_⟩
  ·rcases List.mem_append.1 hd with hd|hd
   ·exact h3 d hd
   ·obtain rfl:=List.mem_singleton.1 hd;rw[hj];simp
  ·simp only[Option.getD_some];refine(aV2 (rect c) o1 j hjl).trans ?_;rw[List.map_append,List.map_singleton];exact h6.append_right _
 unfold lB;simp only;cases hc:L c with
 |some j=>
  simp only[reduceCtorEq,if_false];refine main L out j hc (h.bound c j hc) h.bound (fun j hj=>?_) h.lab h.closed h.root h.perm;obtain⟨d,hd,hl⟩:=h.used j hj;exact⟨d,List.mem_append_left _ hd,hl⟩
 |none=>
  simp only[if_true];have hcc:iU nb L c out.length c=some out.length:=by
   unfold iU;rw[if_pos .base]
  refine main _ (out++[[]]) out.length hcc (by simp) (fun d j hd=>?_) (fun j hj=>?_) (fun d hd=>?_) (fun d e j hd he=>?_) (fun j=>?_) (by simpa using h.perm)
  ·unfold iU at hd;split at hd
   ·cases hd;simp
   ·have:=h.bound d j hd;simp;omega
  ·rcases Nat.lt_or_ge j out.length with hlt|hge
   ·obtain⟨d,hd,hl⟩:=h.used j hlt;refine⟨d,List.mem_append_left _ hd,?_⟩;unfold iU;split
    ·rename_i hr;rw[hr.none_ hc] at hl;cases hl
    ·exact hl
   ·have:j=out.length:=by simp at hj;omega
    subst this;exact⟨c,by simp,hcc⟩
  ·unfold iU;split
   ·simp
   ·exact h.lab d hd
  ·unfold iU at hd ⊢
   by_cases hr:Rch nb L c d
   ·rw[if_pos hr] at hd;cases hd;rw[if_pos];refine .step hr he ?_;cases hle:L e with
    |none=>rfl
    |some m=>
     have:=h.closed e d m hle (hsym d e he);rw[hr.none_ hc] at this;cases this
   ·rw[if_neg hr] at hd;have hle:=h.closed d e j hd he;rw[if_neg]
    ·exact hle
    ·intro hre;rw[hre.none_ hc] at hle;cases hle
  ·by_cases hj:j=out.length
   ·subst hj;refine⟨c,fun d hd=>?_⟩;unfold iU at hd;split at hd
    ·rename_i hr;exact hr.path
    ·have:=h.bound d _ hd;omega
   ·obtain⟨r,hr⟩:=h.root j;refine⟨r,fun d hd=>hr d ?_⟩;unfold iU at hd;split at hd
    ·cases hd;exact absurd rfl hj
    ·exact hd
theorem jP.run {nb:Pl->List Pl} (hsym:∀d e,e∈nb d->d∈nb e) {rect:Pl->β}:∀(l done:List Pl) (s:(Pl->Option Nat)×List (List β)),jP nb rect done s.1 s.2->jP nb rect (done++l) (jV nb rect l s).1 (jV nb rect l s).2
 |[],done,s,h=>by rw[List.append_nil];exact h
 |c::l,done,s,h=>by
  have:=jP.run hsym l (done++[c]) (lB nb rect s c) (h.step hsym c);rw[List.append_assoc,List.singleton_append] at this;exact this
theorem aNO {nb:Pl->List Pl} (hsym:∀d e,e∈nb d->d∈nb e) (rect:Pl->β) (cells:List Pl):∃L,jP nb rect cells L (vK nb rect cells):=⟨_,by
 have:=jP.run hsym cells [] (fun _=>none,([]:List (List β))) (jP.nil nb rect);rwa [List.nil_append] at this⟩
end
theorem aEe {w h:Nat} {lf bl:Nat->Nat->Bool}:∀(d e:Pl),e∈nbs w h lf bl d->d∈nbs w h lf bl e:=by
 intro d e he;have hd:=aNr he;have hc:=pW.1 (aEf he);obtain⟨i,k⟩:=d;obtain⟨a,b⟩:=e;unfold nbs at he ⊢;rw[if_pos hd] at he;rw[if_pos hc];simp only at hd hc;simp only[List.mem_append] at he ⊢;rcases he with ((he|he)|he)|he
 ·split at he
  ·rename_i hq;simp only[List.mem_singleton,Prod.mk.injEq] at he;obtain⟨rfl,rfl⟩:=he;have e1:i-1+1=i:=by omega
   refine .inl (.inl (.inr ?_));rw[e1,if_pos ⟨hd.1,hq.2⟩];simp
  ·cases he
 ·split at he
  ·rename_i hq;simp only[List.mem_singleton,Prod.mk.injEq] at he;obtain⟨rfl,rfl⟩:=he;refine .inl (.inl (.inl ?_));rw[if_pos ⟨by omega,hq.2⟩];simp
  ·cases he
 ·split at he
  ·rename_i hq;simp only[List.mem_singleton,Prod.mk.injEq] at he;obtain⟨rfl,rfl⟩:=he;have e1:k-1+1=k:=by omega
   refine .inr ?_;rw[e1,if_pos ⟨hd.2,hq.2⟩];simp
  ·cases he
 ·split at he
  ·rename_i hq;simp only[List.mem_singleton,Prod.mk.injEq] at he;obtain⟨rfl,rfl⟩:=he;refine .inl (.inr ?_);rw[if_pos ⟨by omega,hq.2⟩];simp
  ·cases he
end Go.Proofs.YtjjbojomlfgjlaaGreatDoor
namespace Go.Proofs.YtjjbojomlfgjlaaGreatDoor
open Go.Vm Go.RowKit
set_option linter.unusedVariables false
noncomputable section
def aIZ (a0 a1:Int):Bool:=((decide ((aC (0-a1))<=a0))&&(decide (a0<=a1)))
def lM (a0:Int):Bool:=((decide ((-1048576)<=a0))&&(decide (a0<=1048576)))
def jU (a0 a1 a2:Int):Bool:=((decide (a1<=a0))&&(decide (a0<=a2)))
def iC (qa qb:ByteArray) (qc qd qf qg:Int) (qh qi:List aA) (a1 a2:Int):Bool:=((((decide (0<=a1))&&(decide (a1<=qf)))&&(decide (0<=a2)))&&(decide (a2<=qg)))
def fT (a0 a1 a2 a3:Int):Int×Int×Int×Int:=(mi a0 a2,mi a1 a3,ma a0 a2,ma a1 a3)
def aEA (qo qm qt qn bL bK cC cD:Int):Bool:=cond (qm==qn) (((((decide (bK<qm))&&(decide (qm<(aC (bK+cD)))))&&(decide (qo<(aC (bL+cC)))))&&(decide (bL<qt)))) (((((decide (bL<qo))&&(decide (qo<(aC (bL+cC)))))&&(decide (qm<(aC (bK+cD)))))&&(decide (bK<qn))))
def n9 (qo qm qt qn qr qq qu qs:Int):Bool:=cond (!((qm==qn)==(qq==qs))) (qm==qn) (cond (qm==qn) (((decide (qm<qq))||((qm==qq)&&(decide (qo<qr))))) (((decide (qo<qr))||((qo==qr)&&(decide (qm<qq))))))
def o0 (qo qm qt qn qr qq qu qs:Int):Bool:=cond (qm==qn) ((((qq==qs)&&(qm==qq))&&(decide (qr<=qt)))) ((((qr==qu)&&(qo==qr))&&(decide (qq<=qn))))
def vF (ql aE aD aG aF dG bL bK:Int):Int×Int:=cond (ql==3) ((bL,bK)) ((aE,aD))
def aBG (ql aE aD aG aF dG:Int):Bool:=cond (ql==1) ((((aG==0)&&(aF==0))&&(dG==0))) (cond (ql==2) ((((aG==0)&&(aF==0))&&(dG==0))) (cond (ql==4) ((((aG==0)&&(aF==0))&&(dG==0))) (cond (ql==3) (dG==0) (cond (ql==5) ((((aD==0)&&(aG==0))&&(aF==0))) (cond (ql==6) (aF==0) (false))))))
def aEE (a0 a1:Int):Bool:=((((aIZ a0 1048576)&&(decide (0<a1)))&&(decide (a1<=2097152)))&&(decide ((aC (a0+a1))<=1048576)))
def iW (aE aD aG aF:Int):Bool:=((aEE aE aG)&&(aEE aD aF))
def pI (aE aD aG aF bL bK cC cD:Int):Bool:=((((((iW aE aD aG aF)&&(iW bL bK cC cD))&&(decide (bL<=aE)))&&(decide ((aC (aE+aG))<=(aC (bL+cC)))))&&(decide (bK<=aD)))&&(decide ((aC (aD+aF))<=(aC (bK+cD)))))
def lA (a0 a1:Int):Bool:=((jU a0 1 60)&&(jU a1 0 2))
def o5 (qa qb:ByteArray) (qc qd qf qg:Int) (qh qi:List aA) (a1:Int):Int×Int×Int×Int×Bool:=(a1,a1,aC (qf-(aC (2*a1))),aC (qg-(aC (2*a1))),(iW a1 a1 (aC (qf-(aC (2*a1)))) (aC (qg-(aC (2*a1))))))
def gK (aE aD aG aF:Int):Bool:=cond ((((((!(lM aE))||(!(lM aD)))||(decide (aG<1)))||(decide (aF<1)))||(decide (2097152<aG)))||(decide (2097152<aF))) (false) (((lM (aC (aE+aG)))&&(lM (aC (aD+aF)))))
def lN (aE aD aG aF bL bK cC cD:Int):Bool:=((((((gK aE aD aG aF)&&(gK bL bK cC cD))&&(decide (bL<=aE)))&&(decide (bK<=aD)))&&(decide ((aC (aE+aG))<=(aC (bL+cC)))))&&(decide ((aC (aD+aF))<=(aC (bK+cD)))))
def zJ:Nat->Nat->Nat->Canon UU:=fun o b r=>cond (Nat.beq b 0) ⟨[2,5,6,7],[],[],[],[]⟩ (⟨[],[],[],[],[]⟩)
def aUm (a0:List aA) (Q:Bool->Prop) (i0:Bool->List aA->Int->Int->Prop):Prop:=i0 false a0 (a0.length:Int) 0
def aUl (rec:Bool->List aA->Int->Int->Prop) (x0:Bool->List aA->Int->Int->Prop) (x1:Bool->List aA->Int->Int->Prop) (t2:Bool) (t5:List aA) (t6 t7:Int):Prop:=cond (decide (t7<t6)) ((let e0:=(t5.getD t7.toNat default);((0<=t7/\t7<t5.length)/\cond (!(iW e0.X e0.Y e0.W e0.H)) (x0 false t5 t6 t7) (rec t2 t5 t6 (aC (t7+1)))))) (x1 t2 t5 t6 t7)
def bGb (Q:Bool->Prop) (t2:Bool) (t5:List aA) (t6 t7:Int):Prop:=Q t2
def bGa (Q:Bool->Prop) (t2:Bool) (t5:List aA) (t6 t7:Int):Prop:=Q true
def aAt (F:Nat) (x0:Bool->List aA->Int->Int->Prop) (x1:Bool->List aA->Int->Int->Prop):Nat->Bool->List aA->Int->Int->Prop
 |0,_,_,_,_=>False
 |n+1,t2,t5,t6,t7=>aUl (aAt F x0 x1 n) x0 x1 t2 t5 t6 t7
def aOQ (F:Nat) (Q:Bool->Prop) (t2:Bool) (t5:List aA) (t6 t7:Int):Prop:=aAt F (fun t2 t5 t6 t7=>bGb Q t2 t5 t6 t7) (fun t2 t5 t6 t7=>bGa Q t2 t5 t6 t7) F t2 t5 t6 t7
def aMh (F:Nat) (a0:List aA) (Q:Bool->Prop):Prop:=aUm a0 Q (aOQ F Q)
theorem iJ {α:Type} [Inhabited α] (l:List α) (i:Nat) (h:i<l.length):l.drop i=l.getD i default::l.drop (i+1):=by
 rw[List.drop_eq_getElem_cons h];simp[h]
theorem bQ {n:Int} (h1: -9223372036854775808<=n) (h2:n<=9223372036854775807):aC n=n:=wrapped h1 h2
theorem bX {i n:Nat} (h:i<n) (hn:n<=1000000000):aC ((i:Int)+1)=((i+1:Nat):Int):=by
 rw[bQ (by omega) (by omega)];rfl
theorem aW {p:Prop} [Decidable p] (h:p):decide p=true:=decide_eq_true h
theorem bD {p:Prop} [Decidable p] (h:¬p):decide p=false:=decide_eq_false h
theorem bLQ {α:Type} [Inhabited α] (l:List α) (p:α->Bool) (hl:l.length<=2000000) (W:Nat->Int->Prop) (X Y:Int->Prop)
  (hs:∀n i,W (n+1) i=cond (decide (i<(l.length:Int))) ((0<=i/\i<(l.length:Int))/\cond (!(p (l.getD i.toNat default))) (X i) (W n (aC (i+1)))) (Y i)):∀(n i:Nat),i<=l.length->l.length<n+i->
  ((l.drop i).all p=false->∀j,X j)->((l.drop i).all p=true->Y l.length)->W n i:=by
 intro n
 induction n with
 |zero=>intro i h1 h2;omega
 |succ n ih=>
  intro i h1 h2 hX hY;rw[hs]
  by_cases h:i<l.length
  ·rw[aW (show (i:Int)<l.length by omega),cond_true];refine⟨⟨by omega,by omega⟩,?_⟩;rw[iJ l i h,List.all_cons] at hX hY;rw[Int.toNat_natCast,bX h (by omega)];cases hp:p (l.getD i default) with
   |false=>
    rw[hp] at hX;exact hX rfl _
   |true=>
    rw[hp,Bool.true_and] at hX hY;exact ih (i+1) (by omega) (by omega) hX hY
  ·have e:i=l.length:=by omega
   subst e;rw[bD (by omega),cond_false];exact hY (by rw[List.drop_length];rfl)
theorem qK {α:Type} [Inhabited α] (l:List α) (p:α->Bool) (hl:l.length<=2000000) (W:Nat->Int->Prop) (X Y:Int->Prop)
  (hs:∀n i,W (n+1) i=cond (decide (i<(l.length:Int))) ((0<=i/\i<(l.length:Int))/\cond (!(p (l.getD i.toNat default))) (X i) (W n (aC (i+1)))) (Y i)) (n:Nat) (hn:l.length<n)
  (hX:l.all p=false->∀j,X j) (hY:l.all p=true->Y l.length):W n 0:=
 bLQ l p hl W X Y hs n 0 (by omega) (by omega) hX hY
def fS (r:aA):Bool:=iW r.X r.Y r.W r.H
def aIc (r:aA):Bool:=gK r.X r.Y r.W r.H
def vW (l:List aA):Prop:=l.length<=2000000
def dQ (l:List aA):Bool:=l.all fS
theorem bCt (a0:List aA) (h:vW a0):∃F,∀Q:Bool->Prop,Q (dQ a0)->aMh F a0 Q:=by
 refine⟨a0.length+1,fun Q hQ=>?_⟩;show aAt _ _ _ (a0.length+1) false a0 a0.length 0;refine qK a0 fS h (fun n i=>aAt (a0.length+1) _ _ n false a0 a0.length i) _ _ (fun n i=>rfl) (a0.length+1) (by omega) (fun q j=>?_) (fun q=>?_)
 ·unfold dQ at hQ;rw[q] at hQ;exact hQ
 ·unfold dQ at hQ;rw[q] at hQ;exact hQ
def qQ:Nat->Nat->Nat->Canon UU:=fun o b r=>cond (Nat.beq b 1) ⟨[2,3,70,71,72],[3],[],[],[]⟩ (cond (Nat.beq b 3) ⟨[2,3,70,71,72,76,77,78],[3],[],[],[]⟩ (⟨[],[],[],[],[]⟩))
def aLO (qa qb:ByteArray) (qc qd qf qg:Int) (qh qi:List aA) (Q:Int->Prop) (i0:Int->List (List aA)->Int->Int->Int->Int->Int->Int->Prop):Prop:=cond ((!(vn qa))||(!(vn qb))) (Q 2) (cond (((!(lA qc qd))||(!(jU qf 1 1048576)))||(!(jU qg 1 1048576))) (Q 1) (cond ((decide (4<(qh.length:Int)))||(decide (48<(qi.length:Int)))) (Q 4) ((((vW qh)/\((!(dQ qh))=false->vW qi))/\cond ((!(dQ qh))||(!(dQ qi))) (Q 1) ((let r0:=(o5 qa qb qc qd qf qg qh qi 0);i0 0 ([qh,qi]) (([qh,qi]).length:Int) 0 r0.1 r0.2.1 r0.2.2.1 r0.2.2.2.1))))))
def aU3 (rec:Int->List (List aA)->Int->Int->Int->Int->Int->Int->Prop) (x0:Int->List (List aA)->Int->Int->Int->Int->Int->Int->Prop) (x1:Int->List (List aA)->Int->Int->Int->Int->Int->Int->Prop) (t2:Int) (t70:List (List aA)) (t71 t72 eC eB eA dZ:Int) (i1:Int->List (List aA)->Int->Int->List aA->Int->Int->Int->Int->Int->Int->Prop):Prop:=cond (decide (t72<t71)) ((let e0:=(t70.getD t72.toNat default);((0<=t72/\t72<t70.length)/\i1 t2 t70 t71 t72 e0 (e0.length:Int) 0 eC eB eA dZ))) (x0 t2 t70 t71 t72 eC eB eA dZ)
def bG9 (Q:Int->Prop) (t2:Int) (t70:List (List aA)) (t71 t72 eC eB eA dZ:Int):Prop:=Q 0
def bG8 (Q:Int->Prop) (t2:Int) (t70:List (List aA)) (t71 t72 eC eB eA dZ:Int):Prop:=Q t2
def aU2 (rec:Int->List (List aA)->Int->Int->List aA->Int->Int->Int->Int->Int->Int->Prop) (x0:Int->List (List aA)->Int->Int->List aA->Int->Int->Int->Int->Int->Int->Prop) (x1:Int->List (List aA)->Int->Int->List aA->Int->Int->Int->Int->Int->Int->Prop) (t2:Int) (t70:List (List aA)) (t71 t72:Int) (t76:List aA) (t77 t78 eC eB eA dZ:Int):Prop:=cond (decide (t78<t77)) ((let e0:=(t76.getD t78.toNat default);((0<=t78/\t78<t76.length)/\(let r1:=(pI e0.X e0.Y e0.W e0.H eC eB eA dZ);cond (!r1) (x0 13 t70 t71 t72 t76 t77 t78 eC eB eA dZ) (rec t2 t70 t71 t72 t76 t77 (aC (t78+1)) eC eB eA dZ))))) (x1 t2 t70 t71 t72 t76 t77 t78 eC eB eA dZ)
def bG7 (rec:Int->List (List aA)->Int->Int->Int->Int->Int->Int->Prop) (x0:Int->List (List aA)->Int->Int->Int->Int->Int->Int->Prop) (x1:Int->List (List aA)->Int->Int->Int->Int->Int->Int->Prop) (t2:Int) (t70:List (List aA)) (t71 t72:Int) (t76:List aA) (t77 t78 eC eB eA dZ:Int):Prop:=x1 t2 t70 t71 t72 eC eB eA dZ
def bG6 (rec:Int->List (List aA)->Int->Int->Int->Int->Int->Int->Prop) (x0:Int->List (List aA)->Int->Int->Int->Int->Int->Int->Prop) (x1:Int->List (List aA)->Int->Int->Int->Int->Int->Int->Prop) (t2:Int) (t70:List (List aA)) (t71 t72:Int) (t76:List aA) (t77 t78 eC eB eA dZ:Int):Prop:=rec t2 t70 t71 (aC (t72+1)) eC eB eA dZ
def aAo (F:Nat) (x0:Int->List (List aA)->Int->Int->List aA->Int->Int->Int->Int->Int->Int->Prop) (x1:Int->List (List aA)->Int->Int->List aA->Int->Int->Int->Int->Int->Int->Prop):Nat->Int->List (List aA)->Int->Int->List aA->Int->Int->Int->Int->Int->Int->Prop
 |0,_,_,_,_,_,_,_,_,_,_,_=>False
 |n+1,t2,t70,t71,t72,t76,t77,t78,eC,eB,eA,dZ=>aU2 (aAo F x0 x1 n) x0 x1 t2 t70 t71 t72 t76 t77 t78 eC eB eA dZ
def aOL (F:Nat) (rec:Int->List (List aA)->Int->Int->Int->Int->Int->Int->Prop) (x0:Int->List (List aA)->Int->Int->Int->Int->Int->Int->Prop) (x1:Int->List (List aA)->Int->Int->Int->Int->Int->Int->Prop) (t2:Int) (t70:List (List aA)) (t71 t72:Int) (t76:List aA) (t77 t78 eC eB eA dZ:Int):Prop:=aAo F (fun t2 t70 t71 t72 t76 t77 t78 eC eB eA dZ=>bG7 rec x0 x1 t2 t70 t71 t72 t76 t77 t78 eC eB eA dZ) (fun t2 t70 t71 t72 t76 t77 t78 eC eB eA dZ=>bG6 rec x0 x1 t2 t70 t71 t72 t76 t77 t78 eC eB eA dZ) F t2 t70 t71 t72 t76 t77 t78 eC eB eA dZ
def j1 (F:Nat) (x0:Int->List (List aA)->Int->Int->Int->Int->Int->Int->Prop) (x1:Int->List (List aA)->Int->Int->Int->Int->Int->Int->Prop):Nat->Int->List (List aA)->Int->Int->Int->Int->Int->Int->Prop
 |0,_,_,_,_,_,_,_,_=>False
 |n+1,t2,t70,t71,t72,eC,eB,eA,dZ=>aU3 (j1 F x0 x1 n) x0 x1 t2 t70 t71 t72 eC eB eA dZ (aOL F (j1 F x0 x1 n) x0 x1)
def aOM (F:Nat) (Q:Int->Prop) (t2:Int) (t70:List (List aA)) (t71 t72 eC eB eA dZ:Int):Prop:=j1 F (fun t2 t70 t71 t72 eC eB eA dZ=>bG9 Q t2 t70 t71 t72 eC eB eA dZ) (fun t2 t70 t71 t72 eC eB eA dZ=>bG8 Q t2 t70 t71 t72 eC eB eA dZ) F t2 t70 t71 t72 eC eB eA dZ
def aIK (F:Nat) (qa qb:ByteArray) (qc qd qf qg:Int) (qh qi:List aA) (Q:Int->Prop):Prop:=aLO qa qb qc qd qf qg qh qi Q (aOM F Q)
def wP (w h:Int) (r:aA):Bool:=pI r.X r.Y r.W r.H 0 0 (aC (w-aC (2*0))) (aC (h-aC (2*0)))
def gX (nm mt:ByteArray) (g gr w h:Int) (cl us:List aA):Int:=
 cond ((!(vn nm))||(!(vn mt))) 2 (cond (((!(lA g gr))||(!(jU w 1 1048576)))||(!(jU h 1 1048576))) 1 (cond ((decide (4<(cl.length:Int)))||(decide (48<(us.length:Int)))) 4
  (cond ((!(dQ cl))||(!(dQ us))) 1 (cond (cl.all (wP w h)&&us.all (wP w h)) 0 13))))
theorem aPy (F:Nat) (x0 x1:Int->List (List aA)->Int->Int->List aA->Int->Int->Int->Int->Int->Int->Prop) (t2 t71 t72 w h:Int) (t70:List (List aA)) (l:List aA) (hl:l.length<=2000000) (n:Nat) (hn:l.length<n)
  (hX:l.all (wP w h)=false->∀j,x0 13 t70 t71 t72 l l.length j 0 0 (aC (w-aC (2*0))) (aC (h-aC (2*0)))) (hY:l.all (wP w h)=true->x1 t2 t70 t71 t72 l l.length l.length 0 0 (aC (w-aC (2*0))) (aC (h-aC (2*0)))):
  aAo F x0 x1 n t2 t70 t71 t72 l l.length 0 0 0 (aC (w-aC (2*0))) (aC (h-aC (2*0))):=
 qK l (wP w h) hl (fun n i=>aAo F x0 x1 n t2 t70 t71 t72 l l.length i 0 0 (aC (w-aC (2*0))) (aC (h-aC (2*0)))) _ _ (fun n i=>rfl) n hn hX hY
theorem bCl (qa:ByteArray) (qb:ByteArray) (qc:Int) (qd:Int) (qf:Int) (qg:Int) (qh:List aA) (qi:List aA):
  ∃F,∀Q:Int->Prop,Q (gX qa qb qc qd qf qg qh qi)->aIK F qa qb qc qd qf qg qh qi Q:=by
 refine⟨60,fun Q hQ=>?_⟩;unfold aIK aLO;unfold gX at hQ;cases h1:((!(vn qa))||(!(vn qb))) with
 |true=>
  rw[h1] at hQ;exact hQ
 |false=>
 rw[h1] at hQ;simp only[cond_false] at hQ ⊢;cases h2:(((!(lA qc qd))||(!(jU qf 1 1048576)))||(!(jU qg 1 1048576))) with
 |true=>
  rw[h2] at hQ;exact hQ
 |false=>
 rw[h2] at hQ;simp only[cond_false] at hQ ⊢;cases h3:((decide (4<(qh.length:Int)))||(decide (48<(qi.length:Int)))) with
 |true=>
  rw[h3] at hQ;exact hQ
 |false=>
 rw[h3] at hQ;simp only[cond_false] at hQ ⊢;simp only[Bool.or_eq_false_iff,decide_eq_false_iff_not] at h3;have hc:qh.length<=4:=by omega
 have hu:qi.length<=48:=by omega
 refine⟨⟨show _<=2000000 by omega,fun _=>show _<=2000000 by omega⟩,?_⟩;cases h4:((!(dQ qh))||(!(dQ qi))) with
 |true=>
  rw[h4] at hQ;exact hQ
 |false=>
 rw[h4] at hQ;simp only[cond_false] at hQ ⊢;show j1 60 _ _ 60 0 [qh,qi] 2 0 0 0 (aC (qf-aC (2*0))) (aC (qg-aC (2*0)));refine⟨show 0<=(0:Int)/\(0:Int)<2 by decide,?_⟩;refine aPy 60 _ _ 0 2 0 qf qg _ qh (by omega) 60 (by omega) (fun q j=>?_) (fun q=>?_)
 ·rw[q] at hQ;exact hQ
 ·rw[q,Bool.true_and] at hQ;show j1 60 _ _ 59 0 [qh,qi] 2 (aC (0+1)) 0 0 (aC (qf-aC (2*0))) (aC (qg-aC (2*0)));refine⟨show 0<=aC (0+1)/\aC (0+1)<2 by decide,?_⟩;refine aPy 60 _ _ 0 2 (aC (0+1)) qf qg _ qi (by omega) 60 (by omega) (fun q j=>?_) (fun q=>?_)
  ·rw[q] at hQ;exact hQ
  ·rw[q] at hQ;exact hQ
def zB:Nat->Nat->Nat->Canon UU:=fun o b r=>cond (Nat.beq b 0) ⟨[2,15,16,17],[],[(.tmp 15,28,.int)],[],[]⟩ (⟨[],[],[],[],[]⟩)
def aUI (ql aE aD aG aF dG:Int) (Q:Bool->Prop) (i0:Bool->Int->Int->zzI->Prop):Prop:=(let v0:=(([aE,aD,aG,aF,dG]).length:Int);i0 false v0 0 ([aE,aD,aG,aF,dG]))
def aUH (rec:Bool->Int->Int->zzI->Prop) (x0:Bool->Int->Int->zzI->Prop) (x1:Bool->Int->Int->zzI->Prop) (t2:Bool) (t16 t17:Int) (iH:zzI):Prop:=cond (decide (t17<t16)) (((0<=t17/\t17<iH.length)/\cond ((decide ((iH.getD t17.toNat default)<(-1048576)))||(decide (1048576<(iH.getD t17.toNat default)))) (x0 false t16 t17 iH) (rec t2 t16 (aC (t17+1)) iH))) (x1 t2 t16 t17 iH)
def aUK (Q:Bool->Prop) (t2:Bool) (t16 t17:Int) (iH:zzI):Prop:=Q t2
def aUJ (Q:Bool->Prop) (t2:Bool) (t16 t17:Int) (iH:zzI):Prop:=Q true
def aAj (F:Nat) (x0:Bool->Int->Int->zzI->Prop) (x1:Bool->Int->Int->zzI->Prop):Nat->Bool->Int->Int->zzI->Prop
 |0,_,_,_,_=>False
 |n+1,t2,t16,t17,iH=>aUH (aAj F x0 x1 n) x0 x1 t2 t16 t17 iH
def aOD (F:Nat) (Q:Bool->Prop) (t2:Bool) (t16 t17:Int) (iH:zzI):Prop:=aAj F (fun t2 t16 t17 iH=>aUK Q t2 t16 t17 iH) (fun t2 t16 t17 iH=>aUJ Q t2 t16 t17 iH) F t2 t16 t17 iH
def aM8 (F:Nat) (ql aE aD aG aF dG:Int) (Q:Bool->Prop):Prop:=aUI ql aE aD aG aF dG Q (aOD F Q)
def same {α:Type} (a b:α):Bool:=@decide (a=b) (Classical.propDecidable _)
def nJ (a b:Seg):Bool:=n9 a.X1 a.Y1 a.X2 a.Y2 b.X1 b.Y1 b.X2 b.Y2
def eW (a b:Seg):Bool:=o0 a.X1 a.Y1 a.X2 a.Y2 b.X1 b.Y1 b.X2 b.Y2
def mR (x:Seg):List Seg->List Seg
 |[]=>[x]
 |y::r=>bif nJ x y then y::mR x r else x::y::r
def ins (l:List Seg) (x:Seg):List Seg:=(mR x l.reverse).reverse
def z7 (l:List Seg):List Seg:=l.foldl ins []
def eD (a b:Seg):Seg:=Seg.mk a.X1 a.Y1 (ma a.X2 b.X2) (ma a.Y2 b.Y2)
def oJ (x:Seg):List Seg->List Seg
 |[]=>[x]
 |y::r=>bif eW y x then eD y x::r else x::y::r
def eV (l:List Seg) (x:Seg):List Seg:=(oJ x l.reverse).reverse
def k9 (l:List Seg):List Seg:=(z7 l).foldl eV []
theorem aTQ (x:Seg):∀l:List Seg,(mR x l).length=l.length+1
 |[]=>rfl
 |y::r=>by
  unfold mR;cases nJ x y
  ·rfl
  ·show (y::mR x r).length=_;rw[List.length_cons,aTQ x r];rfl
theorem aTO (l:List Seg) (x:Seg):(ins l x).length=l.length+1:=by
 unfold ins;rw[List.length_reverse,aTQ,List.length_reverse]
theorem bFn (a:List Seg) (y x:Seg):ins (a++[y]) x=bif nJ x y then ins a x++[y] else a++[y,x]:=by
 unfold ins;rw[List.reverse_append];show (bif nJ x y then y::mR x a.reverse else x::y::a.reverse).reverse=_;cases nJ x y
 ·show (x::y::a.reverse).reverse=a++[y,x];simp
 ·show (y::mR x a.reverse).reverse=(mR x a.reverse).reverse++[y];simp
theorem aOW (a:List Seg) (y x:Seg):eV (a++[y]) x=bif eW y x then a++[eD y x] else a++[y,x]:=by
 unfold eV;rw[List.reverse_append];show (bif eW y x then eD y x::a.reverse else x::y::a.reverse).reverse=_;cases eW y x
 ·show (x::y::a.reverse).reverse=a++[y,x];simp
 ·show (eD y x::a.reverse).reverse=a++[eD y x];simp
theorem aAH {α:Type} [Inhabited α] (a:List α) (x:α) (b:List α):(a++x::b).getD a.length default=x:=by simp[List.getD_eq_getElem?_getD]
theorem p8 {α:Type} (a:List α) (x y:α) (b:List α):(a++x::b).set a.length y=a++y::b:=by simp
theorem aDl {i:Nat} (h:0<i) (hn:i<=1000000000):aC ((i:Int)-1)=((i-1:Nat):Int):=by
 rw[bQ (by omega) (by omega)];omega
theorem aVZ:∀(l out:List Seg),(l.foldl ins out).length=out.length+l.length
 |[],out=>rfl
 |x::l,out=>by
  rw[List.foldl_cons,aVZ l,aTO,List.length_cons];omega
theorem bFb (l:List Seg):(z7 l).length=l.length:=by
 unfold z7;rw[aVZ];simp
def inR (n:Int):Bool:=!((decide (n<(-1048576)))||(decide (1048576<n)))
def k6 (k x y w h n:Int):Bool:=[x,y,w,h,n].all inR
theorem bCf (ql:Int) (aE:Int) (aD:Int) (aG:Int) (aF:Int) (dG:Int):∃F,∀Q:Bool->Prop,Q (k6 ql aE aD aG aF dG)->aM8 F ql aE aD aG aF dG Q:=by
 refine⟨6,fun Q hQ=>?_⟩;unfold k6 at hQ;show aAj 6 _ _ 6 false 5 0 [aE,aD,aG,aF,dG];refine qK [aE,aD,aG,aF,dG] inR (by simp) (fun n i=>aAj 6 _ _ n false 5 i [aE,aD,aG,aF,dG]) (fun j=>aUK Q false 5 j [aE,aD,aG,aF,dG]) (fun j=>aUJ Q false 5 j [aE,aD,aG,aF,dG]) (fun n i=>?_) 6 (by simp) (fun q j=>?_) (fun q=>?_)
 ·show cond _ _ _=cond _ _ _;unfold inR;rw[Bool.not_not];rfl
 ·rw[q] at hQ;exact hQ
 ·rw[q] at hQ;exact hQ
def aI0 (a_0 a_1 a_2 a_3 c_0 c_1 c_2 c_3:Int):Bool:=(aEA c_0 c_1 c_2 c_3 a_0 a_1 a_2 a_3)
def zT:Nat->Nat->Nat->Canon UU:=fun o b r=>cond (Nat.beq b 0) ⟨[0,1,4,7,8],[],[],[],[]⟩ (⟨[],[],[],[],[]⟩)
def aVP (l:List aA) (c_0 c_1 c_2 c_3:Int) (Q:Int->Prop) (i0:List aA->Int->Int->Int->Int->Int->Int->Int->Prop):Prop:=i0 l c_0 c_1 c_2 c_3 0 (l.length:Int) 0
def aVO (rec:List aA->Int->Int->Int->Int->Int->Int->Int->Prop) (x0:List aA->Int->Int->Int->Int->Int->Int->Int->Prop) (x1:List aA->Int->Int->Int->Int->Int->Int->Int->Prop) (t0:List aA) (dS eS eQ eP t4 t7 t8:Int):Prop:=cond (decide (t8<t7)) ((let e0:=(t0.getD t8.toNat default);(let r1:=(aI0 e0.X e0.Y e0.W e0.H dS eS eQ eP);((0<=t8/\t8<t0.length)/\cond r1 (x0 t0 dS eS eQ eP t8 t7 t8) (rec t0 dS eS eQ eP t4 t7 (aC (t8+1))))))) (x1 t0 dS eS eQ eP t4 t7 t8)
def aLZ (Q:Int->Prop) (t0:List aA) (dS eS eQ eP t4 t7 t8:Int):Prop:=Q t4
def aLY (Q:Int->Prop) (t0:List aA) (dS eS eQ eP t4 t7 t8:Int):Prop:=Q (-1)
def aAx (F:Nat) (x0:List aA->Int->Int->Int->Int->Int->Int->Int->Prop) (x1:List aA->Int->Int->Int->Int->Int->Int->Int->Prop):Nat->List aA->Int->Int->Int->Int->Int->Int->Int->Prop
 |0,_,_,_,_,_,_,_,_=>False
 |n+1,t0,dS,eS,eQ,eP,t4,t7,t8=>aVO (aAx F x0 x1 n) x0 x1 t0 dS eS eQ eP t4 t7 t8
def aOU (F:Nat) (Q:Int->Prop) (t0:List aA) (dS eS eQ eP t4 t7 t8:Int):Prop:=aAx F (fun t0 dS eS eQ eP t4 t7 t8=>aLZ Q t0 dS eS eQ eP t4 t7 t8) (fun t0 dS eS eQ eP t4 t7 t8=>aLY Q t0 dS eS eQ eP t4 t7 t8) F t0 dS eS eQ eP t4 t7 t8
def aMs (F:Nat) (l:List aA) (c_0 c_1 c_2 c_3:Int) (Q:Int->Prop):Prop:=aVP l c_0 c_1 c_2 c_3 Q (aOU F Q)
def nO {α:Type} (p:α->Bool):List α->Int->Int
 |[],_=> -1
 |x::r,i=>bif p x then i else nO p r (i+1)
theorem aF0 {α:Type} (p:α->Bool):∀(l:List α) (i:Int),0<=i->(decide (0<=nO p l i))=l.any p
 |[],i,h=>rfl
 |x::r,i,h=>by
  unfold nO;rw[List.any_cons];cases p x
  ·exact aF0 p r (i+1) (by omega)
  ·exact aW h
theorem aTV {α:Type} [Inhabited α] (l:List α) (p:α->Bool) (hl:l.length<=2000000) (Q:Int->Prop) (W:Nat->Int->Prop) (hs:∀n i,W (n+1) i=cond (decide (i<(l.length:Int))) ((0<=i/\i<(l.length:Int))/\cond (p (l.getD i.toNat default)) (Q i) (W n (aC (i+1)))) (Q (-1))):
  ∀(n i:Nat),i<=l.length->l.length<n+i->Q (nO p (l.drop i) i)->W n i:=by
 intro n
 induction n with
 |zero=>intro i h1 h2;omega
 |succ n ih=>
  intro i h1 h2 hQ;rw[hs]
  by_cases h:i<l.length
  ·rw[aW (show (i:Int)<l.length by omega),cond_true];refine⟨⟨by omega,by omega⟩,?_⟩;rw[iJ l i h] at hQ;unfold nO at hQ;rw[Int.toNat_natCast,bX h (by omega)];cases hp:p (l.getD i default) with
   |true=>
    rw[hp] at hQ;exact hQ
   |false=>
    rw[hp] at hQ;exact ih (i+1) (by omega) (by omega) hQ
  ·have e:i=l.length:=by omega
   subst e;rw[bD (by omega),cond_false];rw[List.drop_length] at hQ;exact hQ
def vA (a b c d:Int) (r:aA):Bool:=aI0 r.X r.Y r.W r.H a b c d
def aE6 (l:List aA) (a b c d:Int):Prop:=l.length<=2000000
def aED (l:List aA) (a b c d:Int):Int:=nO (vA a b c d) l 0
theorem bDG (l:List aA) (c_0:Int) (c_1:Int) (c_2:Int) (c_3:Int) (h:aE6 l c_0 c_1 c_2 c_3):∃F,∀Q:Int->Prop,Q (aED l c_0 c_1 c_2 c_3)->aMs F l c_0 c_1 c_2 c_3 Q:=by
 refine⟨l.length+1,fun Q hQ=>?_⟩;have key:∀(n i:Nat) (t4:Int),i<=l.length->l.length<n+i->Q (nO (vA c_0 c_1 c_2 c_3) (l.drop i) i)->aAx (l.length+1) (fun t0 dS eS eQ eP t4 t7 t8=>aLZ Q t0 dS eS eQ eP t4 t7 t8) (fun t0 dS eS eQ eP t4 t7 t8=>aLY Q t0 dS eS eQ eP t4 t7 t8) n l c_0 c_1 c_2 c_3 t4 l.length i:=
  fun n i t4=>aTV l (vA c_0 c_1 c_2 c_3) h Q (fun n i=>aAx (l.length+1) (fun t0 dS eS eQ eP t4 t7 t8=>aLZ Q t0 dS eS eQ eP t4 t7 t8) (fun t0 dS eS eQ eP t4 t7 t8=>aLY Q t0 dS eS eQ eP t4 t7 t8) n l c_0 c_1 c_2 c_3 t4 l.length i) (fun n i=>rfl) n i
 exact key (l.length+1) 0 0 (by omega) (by omega) hQ
def fH (s:Seg):Prop:=((s.X1==s.X2)==(s.Y1==s.Y2))=false/\s.X1<=s.X2/\s.Y1<=s.Y2
def gA (l:List Seg):Prop:=∀s∈l,fH s
def aYC (l:List Seg):List Seg:=k9 l
def vY (l:List aA) (c_0 c_1 c_2 c_3:Int):Prop:=(aE6 l c_0 c_1 c_2 c_3)
def pJ (l:List aA) (c_0 c_1 c_2 c_3:Int):Bool:=decide (0<=(aED l c_0 c_1 c_2 c_3))
def tB (x y z:Int):Int:=if x≠0 then x else if y≠0 then y else z
def mN (a b:Seg):Int:=
 if a.Y1=a.Y2/\¬b.Y1=b.Y2 then -1 else if b.Y1=b.Y2/\¬a.Y1=a.Y2 then 1 else
 if a.Y1=a.Y2 then tB (Lib.compareInt a.Y1 b.Y1) (Lib.compareInt a.X1 b.X1) (Lib.compareInt a.X2 b.X2)
 else tB (Lib.compareInt a.X1 b.X1) (Lib.compareInt a.Y1 b.Y1) (Lib.compareInt a.Y2 b.Y2)
theorem aNf (a1 b1 a2 b2 a3 b3:Int):tB (Lib.compareInt a1 b1) (Lib.compareInt a2 b2) (Lib.compareInt a3 b3)<0↔(a1<b1\/a1=b1/\(a2<b2\/a2=b2/\a3<b3)):=by
 unfold tB Lib.compareInt
 by_cases h1:a1<b1
 ·simp[h1]
 ·by_cases h2:b1<a1
  ·have:¬a1=b1:=by omega
   simp[h1,h2,this]
  ·have e:a1=b1:=by omega
   subst e
   by_cases h3:a2<b2
   ·simp[h3]
   ·by_cases h4:b2<a2
    ·have:¬a2=b2:=by omega
     simp[h3,h4,this]
    ·have e:a2=b2:=by omega
     subst e
     by_cases h5:a3<b3
     ·simp[h5]
     ·by_cases h6:b3<a3
      ·simp[h5,h6]
      ·simp[h5,h6]
def ltS (a b:Seg):Prop:=(a.Y1=a.Y2/\¬b.Y1=b.Y2)\/(a.Y1=a.Y2/\b.Y1=b.Y2/\(a.Y1<b.Y1\/a.Y1=b.Y1/\(a.X1<b.X1\/a.X1=b.X1/\a.X2<b.X2)))\/
 (¬a.Y1=a.Y2/\¬b.Y1=b.Y2/\(a.X1<b.X1\/a.X1=b.X1/\(a.Y1<b.Y1\/a.Y1=b.Y1/\a.Y2<b.Y2)))
theorem bCL (a b:Seg):mN a b<0↔ltS a b:=by
 unfold mN ltS
 by_cases h1:a.Y1=a.Y2<;>by_cases h2:b.Y1=b.Y2
 ·simp only[h1,h2,true_and,not_true_eq_false,false_and,and_false,if_false,if_true,or_false,false_or];rw[aNf]
 ·simp only[h1,h2,true_and,not_true_eq_false,not_false_eq_true,false_and,and_false,if_true,or_false,iff_true];decide
 ·simp only[h1,h2,true_and,not_true_eq_false,not_false_eq_true,false_and,and_false,if_false,if_true,or_false,iff_false];decide
 ·simp only[h1,h2,true_and,not_false_eq_true,false_and,and_false,if_false,false_or];rw[aNf]
theorem aKJ (a b:Seg):ltOf mN a b=true↔ltS a b:=by
 unfold ltOf;rw[decide_eq_true_eq,bCL]
theorem aB7 (a b:Seg):ltOf mN a b=false↔¬ltS a b:=by
 rw[<- aKJ,Bool.not_eq_true]
theorem aNd:Go.Sort.SWO (ltOf mN) where
 irrefl x:=by rw[aB7];unfold ltS;omega
 trans x y z h1 h2:=by rw[aKJ] at*;unfold ltS at*;omega
 ntrans x y z h1 h2:=by rw[aB7] at*;unfold ltS at*;omega
def gH (l:List Seg):List Seg:=l.mergeSort (fun a b=>!(ltOf mN b a))
theorem vU (l:List Seg):(gH l).Perm l:=List.mergeSort_perm _ _
theorem aN5 (l:List Seg):(gH l).Pairwise (fun a b=>¬ltS b a):=by
 have h:(gH l).Pairwise (fun a b=>(!(ltOf mN b a))=true):=by
  refine List.pairwise_mergeSort ?_ ?_ _
  ·intro a b c h1 h2;simp only[Bool.not_eq_true'] at h1 h2 ⊢;exact aNd.ntrans c b a h2 h1
  ·intro a b;cases h:ltOf mN b a with
   |false=>simp
   |true=>
    have h1:¬ltS a b:=by
     rw[aKJ] at h;unfold ltS at*;omega
    simp[(aB7 a b).2 h1]
 refine h.imp fun {a b} q=>?_
 rw[Bool.not_eq_true'] at q;exact(aB7 _ _).1 q
theorem aBS (s:Seg):fH s↔(s.X1=s.X2↔¬s.Y1=s.Y2)/\s.X1<=s.X2/\s.Y1<=s.Y2:=by
 unfold fH
 by_cases h1:s.X1=s.X2<;>by_cases h2:s.Y1=s.Y2
 ·rw[beq_iff_eq.2 h1,beq_iff_eq.2 h2];simp[h1,h2]
 ·rw[beq_iff_eq.2 h1,beq_eq_false_iff_ne.2 h2];simp[h1,h2]
 ·rw[beq_eq_false_iff_ne.2 h1,beq_iff_eq.2 h2];simp[h1,h2]
 ·rw[beq_eq_false_iff_ne.2 h1,beq_eq_false_iff_ne.2 h2];simp[h1,h2]
theorem p9 {a b:Seg} (h1:a.X1=b.X1) (h2:a.Y1=b.Y1) (h3:a.X2=b.X2) (h4:a.Y2=b.Y2):a=b:=by
 cases a;cases b;cases h1;cases h2;cases h3;cases h4;rfl
theorem bEv {a b:Seg} (ha:fH a) (hb:fH b) (h1:¬ltS a b) (h2:¬ltS b a):a=b:=by
 rw[aBS] at ha hb;unfold ltS at h1 h2;refine p9 ?_ ?_ ?_ ?_<;>omega
theorem bBd {l l':List Seg} (hl:gA l) (hp:l'.Perm l) (hs:l'.Pairwise (fun a b=>¬ltS b a)):l'=gH l:=
 List.Perm.eq_of_pairwise (le:=fun a b=>¬ltS b a) (fun a b ha hb h1 h2=>bEv (hl a (hp.mem_iff.1 ha)) (hl b ((vU l).mem_iff.1 hb)) h2 h1) hs (aN5 l) (hp.trans (vU l).symm)
def ltW (a b:Seg):Prop:=(a.Y1=a.Y2/\¬b.Y1=b.Y2)\/(a.Y1=a.Y2/\b.Y1=b.Y2/\(a.Y1<b.Y1\/a.Y1=b.Y1/\a.X1<b.X1))\/(¬a.Y1=a.Y2/\¬b.Y1=b.Y2/\(a.X1<b.X1\/a.X1=b.X1/\a.Y1<b.Y1))
theorem aR5 (a b:Seg):nJ a b=true↔ltW a b:=by
 unfold nJ n9 ltW
 by_cases h1:a.Y1=a.Y2<;>by_cases h2:b.Y1=b.Y2
 ·have e1:(a.Y1==a.Y2)=true:=by simpa using h1
  have e2:(b.Y1==b.Y2)=true:=by simpa using h2
  rw[e1,e2];simp[h1,h2]
 ·have e1:(a.Y1==a.Y2)=true:=by simpa using h1
  have e2:(b.Y1==b.Y2)=false:=by simpa using h2
  rw[e1,e2];simp[h1,h2]
 ·have e1:(a.Y1==a.Y2)=false:=by simpa using h1
  have e2:(b.Y1==b.Y2)=true:=by simpa using h2
  rw[e1,e2];simp[h1,h2]
 ·have e1:(a.Y1==a.Y2)=false:=by simpa using h1
  have e2:(b.Y1==b.Y2)=false:=by simpa using h2
  rw[e1,e2];simp[h1,h2]
theorem bEu {a b:Seg} (h:ltW a b):ltS a b:=by
 unfold ltW at h;unfold ltS;omega
theorem aKp (x:Seg):∀l:List Seg,(mR x l).Perm (x::l)
 |[]=>List.Perm.refl _
 |y::r=>by
  unfold mR;cases nJ x y with
  |false=>exact List.Perm.refl _
  |true=>exact((aKp x r).cons y).trans (List.Perm.swap x y r)
theorem aTP (x:Seg):∀l:List Seg,l.Pairwise (fun a b=>¬ltW a b)->(mR x l).Pairwise (fun a b=>¬ltW a b)
 |[],_=>List.pairwise_singleton _ _
 |y::r,h=>by
  rw[List.pairwise_cons] at h;unfold mR;cases hc:nJ x y with
  |false=>
   have hxy:¬ltW x y:=fun q=>by rw[(aR5 x y).2 q] at hc;cases hc
   rw[cond_false,List.pairwise_cons,List.pairwise_cons];refine⟨fun z hz=>?_,h⟩;rcases List.mem_cons.1 hz with rfl|hz
   ·exact hxy
   ·have:=h.1 z hz;unfold ltW at*;omega
  |true=>
   have hxy:ltW x y:=(aR5 x y).1 hc;rw[cond_true,List.pairwise_cons];refine⟨fun z hz=>?_,aTP x r h.2⟩;rcases List.mem_cons.1 ((aKp x r).mem_iff.1 hz) with rfl|hz
   ·unfold ltW at*;omega
   ·exact h.1 z hz
theorem bFo (l:List Seg) (x:Seg):(ins l x).Perm (x::l):=by
 unfold ins;exact(List.reverse_perm _).trans ((aKp x l.reverse).trans ((List.reverse_perm l).cons x))
theorem bFm (l:List Seg) (x:Seg) (h:l.Pairwise (fun a b=>¬ltW b a)):(ins l x).Pairwise (fun a b=>¬ltW b a):=by
 unfold ins;rw[List.pairwise_reverse];refine aTP x _ ?_;rw[List.pairwise_reverse];exact h
theorem aTM:∀(l o:List Seg),o.Pairwise (fun a b=>¬ltW b a)->(l.foldl ins o).Perm (l++o)/\(l.foldl ins o).Pairwise (fun a b=>¬ltW b a)
 |[],o,h=>⟨List.Perm.refl _,h⟩
 |x::l,o,h=>by
  obtain⟨h1,h2⟩:=aTM l (ins o x) (bFm o x h);refine⟨h1.trans (((bFo o x).append_left l).trans ?_),h2⟩;exact List.perm_middle
theorem tH (a b:Int):a<=ma a b/\b<=ma a b/\(ma a b=a\/ma a b=b):=by
 unfold ma;split<;>omega
def joP (a b:Seg):Prop:=(a.Y1=a.Y2/\b.Y1=b.Y2/\a.Y1=b.Y1/\b.X1<=a.X2)\/(¬a.Y1=a.Y2/\b.X1=b.X2/\a.X1=b.X1/\b.Y1<=a.Y2)
theorem aKl (a b:Seg):eW a b=true↔joP a b:=by
 unfold eW o0 joP
 by_cases h1:a.Y1=a.Y2
 ·have e1:(a.Y1==a.Y2)=true:=by simpa using h1
  rw[e1];simp[h1,and_assoc]
 ·have e1:(a.Y1==a.Y2)=false:=by simpa using h1
  rw[e1];simp[h1,and_assoc]
theorem bFH {z x:Seg} (hz:fH z) (hx:fH x) (h:joP z x):fH (eD z x):=by
 rw[aBS] at*;have m1:=tH z.X2 x.X2;have m2:=tH z.Y2 x.Y2;unfold joP at h;show (z.X1=ma z.X2 x.X2↔¬z.Y1=ma z.Y2 x.Y2)/\z.X1<=ma z.X2 x.X2/\z.Y1<=ma z.Y2 x.Y2;omega
theorem bEg {x:Seg} (hx:fH x):∀{l:List Seg},gA l->gA (oJ x l)
 |[],_=>fun s hs=>by
  rw[List.mem_singleton.1 hs];exact hx
 |z::r,h=>by
  show gA (bif eW z x then eD z x::r else x::z::r);cases hc:eW z x with
  |false=>
   intro s hs;rcases List.mem_cons.1 (show s∈x::z::r from hs) with rfl|hs
   ·exact hx
   ·exact h s hs
  |true=>
   intro s hs;rcases List.mem_cons.1 (show s∈eD z x::r from hs) with rfl|hs
   ·exact bFH (h z (by simp)) hx ((aKl _ _).1 hc)
   ·exact h s (by simp[hs])
theorem aJy {x:Seg} {l:List Seg} (hx:fH x) (h:gA l):gA (eV l x):=by
 unfold eV;intro s hs;exact bEg hx (l:=l.reverse) (fun s hs=>h s (List.mem_reverse.1 hs)) s (List.mem_reverse.1 hs)
theorem vV {s:Seg} (h:fH s):(s.Y1=s.Y2/\s.X1<s.X2)\/(s.X1=s.X2/\s.Y1<s.Y2):=by
 rw[aBS] at h;omega
theorem aYL {x y:Seg} (hx:fH x) (hy:fH y) (h1:¬ltW x y) (h2:¬ltW y x):
  (x.Y1=x.Y2/\x.X1<x.X2/\y.Y1=y.Y2/\y.X1<y.X2/\x.Y1=y.Y1/\x.X1=y.X1)\/(x.X1=x.X2/\x.Y1<x.Y2/\y.X1=y.X2/\y.Y1<y.Y2/\x.X1=y.X1/\x.Y1=y.Y1):=by
 unfold ltW at h1 h2;rcases vV hx with ⟨a,b⟩|⟨a,b⟩<;>rcases vV hy with ⟨c,d⟩|⟨c,d⟩<;>omega
theorem aFE (a b:Int):ma a b=ma b a:=by unfold ma;split<;>split<;>omega
theorem aO6 (a b c:Int):ma (ma a b) c=ma (ma a c) b:=by
 have h1:=tH a b;have h2:=tH (ma a b) c;have h3:=tH a c;have h4:=tH (ma a c) b;omega
theorem aFD (a:Int):ma a a=a:=by unfold ma;split<;>rfl
theorem oM {z x:Seg} (hz:fH z) (h1:x.Y1=x.Y2) (h2:x.X1<x.X2):eW z x=true↔z.Y1=z.Y2/\z.X1<z.X2/\z.Y1=x.Y1/\x.X1<=z.X2:=by
 rw[aKl];unfold joP;rcases vV hz with ⟨a,b⟩|⟨a,b⟩
 ·constructor
  ·rintro (q|q)<;>omega
  ·intro q;left;omega
 ·constructor
  ·rintro (q|q)<;>omega
  ·intro q;omega
theorem oL {z x:Seg} (hz:fH z) (h1:x.X1=x.X2) (h2:x.Y1<x.Y2):eW z x=true↔z.X1=z.X2/\z.Y1<z.Y2/\z.X1=x.X1/\x.Y1<=z.Y2:=by
 rw[aKl];unfold joP;rcases vV hz with ⟨a,b⟩|⟨a,b⟩
 ·constructor
  ·rintro (q|q)<;>omega
  ·intro q;omega
 ·constructor
  ·rintro (q|q)<;>omega
  ·intro q;right;omega
theorem bBg {s:Seg} (h1:s.Y1=s.Y2) (h2:s.X1<s.X2):fH s:=by
 rw[aBS];omega
theorem bBf {s:Seg} (h1:s.X1=s.X2) (h2:s.Y1<s.Y2):fH s:=by
 rw[aBS];omega
theorem aTK {x y:Seg} (hx:fH x) (hy:fH y) (h1:¬ltW x y) (h2:¬ltW y x):
  eW x y=true/\eW y x=true/\eD x y=eD y x/\∀z,fH z->eW z x=eW z y/\(eW z x=true->eW (eD z x) y=true):=by
 rcases aYL hx hy h1 h2 with ⟨a1,a2,a3,a4,a5,a6⟩|⟨a1,a2,a3,a4,a5,a6⟩
 ·refine⟨(oM hx a3 a4).2 (by omega),(oM hy a1 a2).2 (by omega),p9 a6 a5 (aFE _ _) (aFE _ _),fun z hz=>⟨?_,fun q=>?_⟩⟩
  ·rw[Bool.eq_iff_iff,oM hz a1 a2,oM hz a3 a4];omega
  ·rw[oM hz a1 a2] at q;have m1:=tH z.X2 x.X2;have e2:ma z.Y2 x.Y2=z.Y2:=by
    rw[show x.Y2=z.Y2 by omega,aFD]
   have hp:fH (eD z x):=bBg (show z.Y1=ma z.Y2 x.Y2 by omega) (show z.X1<ma z.X2 x.X2 by omega);rw[oM hp a3 a4];refine⟨show z.Y1=ma z.Y2 x.Y2 by omega,show z.X1<ma z.X2 x.X2 by omega,show z.Y1=y.Y1 by omega,show y.X1<=ma z.X2 x.X2 by omega⟩
 ·refine⟨(oL hx a3 a4).2 (by omega),(oL hy a1 a2).2 (by omega),p9 a5 a6 (aFE _ _) (aFE _ _),fun z hz=>⟨?_,fun q=>?_⟩⟩
  ·rw[Bool.eq_iff_iff,oL hz a1 a2,oL hz a3 a4];omega
  ·rw[oL hz a1 a2] at q;have m1:=tH z.Y2 x.Y2;have e2:ma z.X2 x.X2=z.X2:=by
    rw[show x.X2=z.X2 by omega,aFD]
   have hp:fH (eD z x):=bBf (show z.X1=ma z.X2 x.X2 by omega) (show z.Y1<ma z.Y2 x.Y2 by omega);rw[oL hp a3 a4];refine⟨show z.X1=ma z.X2 x.X2 by omega,show z.Y1<ma z.Y2 x.Y2 by omega,show z.X1=y.X1 by omega,show y.Y1<=ma z.Y2 x.Y2 by omega⟩
theorem bEh {x y:Seg} (hx:fH x) (hy:fH y) (h1:¬ltW x y) (h2:¬ltW y x):∀{l:List Seg},gA l->oJ y (oJ x l)=oJ x (oJ y l):=by
 obtain⟨k1,k2,k3,k4⟩:=aTK hx hy h1 h2;obtain⟨_,_,_,k5⟩:=aTK hy hx h2 h1;intro l;cases l with
 |nil=>
  intro _;show (bif eW x y then [eD x y] else [y,x])=bif eW y x then [eD y x] else [x,y]
  rw[k1,k2,k3];rfl
 |cons z r=>
  intro h;have hz:=h z (by simp);obtain⟨q1,q2⟩:=k4 z hz;obtain⟨_,q3⟩:=k5 z hz;cases hc:eW z x with
  |false=>
   have hc':eW z y=false:=by rw[<- q1];exact hc
   have e1:oJ x (z::r)=x::z::r:=by
    show (bif eW z x then eD z x::r else x::z::r)=_;rw[hc];rfl
   have e2:oJ y (z::r)=y::z::r:=by
    show (bif eW z y then eD z y::r else y::z::r)=_;rw[hc'];rfl
   rw[e1,e2];show (bif eW x y then eD x y::z::r else y::x::z::r)=bif eW y x then eD y x::z::r else x::y::z::r
   rw[k1,k2,k3];rfl
  |true=>
   have hc':eW z y=true:=by rw[<- q1];exact hc
   have e1:oJ x (z::r)=eD z x::r:=by
    show (bif eW z x then eD z x::r else x::z::r)=_;rw[hc];rfl
   have e2:oJ y (z::r)=eD z y::r:=by
    show (bif eW z y then eD z y::r else y::z::r)=_;rw[hc'];rfl
   rw[e1,e2];show (bif eW (eD z x) y then eD (eD z x) y::r else y::eD z x::r)=bif eW (eD z y) x then eD (eD z y) x::r else x::eD z y::r
   rw[q2 hc,q3 hc',show eD (eD z x) y=eD (eD z y) x from p9 rfl rfl (aO6 _ _ _) (aO6 _ _ _)];rfl
theorem bEf {x y:Seg} {l:List Seg} (hx:fH x) (hy:fH y) (h1:¬ltW x y) (h2:¬ltW y x) (hl:gA l):eV (eV l x) y=eV (eV l y) x:=by
 unfold eV;rw[List.reverse_reverse,List.reverse_reverse,bEh hx hy h1 h2 (fun s hs=>hl s (List.mem_reverse.1 hs))]
theorem aV1 (x:Seg) (hx:fH x):∀(a b o:List Seg),gA o->gA a->(∀s∈a,¬ltW x s/\¬ltW s x)->(a++x::b).foldl eV o=(x::(a++b)).foldl eV o
 |[],b,o,_,_,_=>rfl
 |y::a,b,o,ho,ha,h=>by
  have hy:=ha y (by simp);show (a++x::b).foldl eV (eV o y)=(a++b).foldl eV (eV (eV o x) y);rw[aV1 x hx a b (eV o y) (aJy hy ho) (fun s hs=>ha s (by simp[hs])) (fun s hs=>h s (by simp[hs]))];show (a++b).foldl eV (eV (eV o y) x)=_;rw[bEf hx hy (h y (by simp)).1 (h y (by simp)).2 ho]
theorem aV0:∀(l l' o:List Seg),l.Perm l'->l.Pairwise (fun a b=>¬ltW b a)->l'.Pairwise (fun a b=>¬ltW b a)->gA l->gA o->l.foldl eV o=l'.foldl eV o
 |[],l',o,hp,_,_,_,_=>by
  rw[List.nil_perm.1 hp]
 |x::t,l',o,hp,h1,h2,hl,ho=>by
  obtain⟨a,b,rfl⟩:=List.append_of_mem (hp.mem_iff.1 (List.mem_cons_self ..));have hx:=hl x (by simp);rw[List.pairwise_cons] at h1;have hp':t.Perm (a++b):=List.Perm.cons_inv (hp.trans List.perm_middle);have ha:∀s∈a,s∈x::t:=fun s hs=>hp.mem_iff.2 (by simp[hs])
  rw[aV1 x hx a b o ho (fun s hs=>hl s (ha s hs)) (fun s hs=>⟨?_,?_⟩)]
  ·show t.foldl eV (eV o x)=(a++b).foldl eV (eV o x);refine aV0 t (a++b) (eV o x) hp' h1.2 (h2.sublist ?_) (fun s hs=>hl s (by simp[hs])) (aJy hx ho);exact(List.Sublist.refl a).append (List.sublist_cons_self x b)
  ·rw[List.pairwise_append] at h2;exact h2.2.2 s hs x (by simp)
  ·rcases List.mem_cons.1 (ha s hs) with rfl|q
   ·unfold ltW;omega
   ·exact h1.1 s q
theorem bBe (l:List Seg) (h:gA l):(gH l).foldl eV []=k9 l:=by
 obtain⟨h1,h2⟩:=aTM l [] List.Pairwise.nil;rw[List.append_nil] at h1;refine aV0 (gH l) (z7 l) [] ((vU l).trans h1.symm) ((aN5 l).imp fun {a b} q r=>q (bEu r)) h2 (fun s hs=>h s ((vU l).mem_iff.1 hs)) (fun s hs=>by cases hs)
def yZ:Nat->Nat->Nat->Canon UU:=fun o b r=>cond (Nat.beq b 0) ⟨[4,13,14,15],[],[(.tmp 13,121,.seg),(.tmp 4,122,.seg)],[],[]⟩ (⟨[],[],[],[],[]⟩)
def aTt (a0:List Seg) (Q:List Seg->Prop) (i0:Int->Int->List Seg->List Seg->Prop):Prop:=((a0.length<=2000000)/\((gA a0/\a0.length<=2000000)/\i0 ((gH a0).length:Int) 0 (gH a0) ([])))
def aFd (rec:Int->Int->List Seg->List Seg->Prop) (x0:Int->Int->List Seg->List Seg->Prop) (t14 t15:Int) (bR aY:List Seg):Prop:=cond (decide (t15<t14)) (((0<=t15/\t15<bR.length)/\cond (decide (0<(aY.length:Int))) (((0<=(aC ((aY.length:Int)-1))/\(aC ((aY.length:Int)-1))<aY.length)/\cond (((bR.getD t15.toNat default).Y1)==((bR.getD t15.toNat default).Y2)) ((let v0:=(aY.getD ((aC ((aY.length:Int)-1)).toNat) default).Y1;(let v1:=(aY.getD ((aC ((aY.length:Int)-1)).toNat) default).Y2;cond (v0==v1) ((let v2:=(aY.getD ((aC ((aY.length:Int)-1)).toNat) default).Y1;cond (((bR.getD t15.toNat default).Y1)==v2) ((let v3:=(aY.getD ((aC ((aY.length:Int)-1)).toNat) default).X2;cond (decide (((bR.getD t15.toNat default).X1)<=v3)) ((let v4:=(aY.getD ((aC ((aY.length:Int)-1)).toNat) default).X2;rec t14 (aC (t15+1)) bR (aY.set ((aC ((aY.length:Int)-1)).toNat) (Seg.mk ((aY.getD ((aC ((aY.length:Int)-1)).toNat) default).X1) ((aY.getD ((aC ((aY.length:Int)-1)).toNat) default).Y1) (ma v4 ((bR.getD t15.toNat default).X2)) ((aY.getD ((aC ((aY.length:Int)-1)).toNat) default).Y2))))) (cond (((bR.getD t15.toNat default).X1)==((bR.getD t15.toNat default).X2)) ((let v5:=(aY.getD ((aC ((aY.length:Int)-1)).toNat) default).X1;(let v6:=(aY.getD ((aC ((aY.length:Int)-1)).toNat) default).X2;cond (v5==v6) ((let v7:=(aY.getD ((aC ((aY.length:Int)-1)).toNat) default).X1;cond (((bR.getD t15.toNat default).X1)==v7) ((let v8:=(aY.getD ((aC ((aY.length:Int)-1)).toNat) default).Y2;cond (decide (((bR.getD t15.toNat default).Y1)<=v8)) ((let v9:=(aY.getD ((aC ((aY.length:Int)-1)).toNat) default).Y2;rec t14 (aC (t15+1)) bR (aY.set ((aC ((aY.length:Int)-1)).toNat) (Seg.mk ((aY.getD ((aC ((aY.length:Int)-1)).toNat) default).X1) ((aY.getD ((aC ((aY.length:Int)-1)).toNat) default).Y1) ((aY.getD ((aC ((aY.length:Int)-1)).toNat) default).X2) (ma v9 ((bR.getD t15.toNat default).Y2)))))) ((((aY.length+([(bR.getD t15.toNat default)]).length)*32<=140737488355328)/\rec t14 (aC (t15+1)) bR (aY++([(bR.getD t15.toNat default)])))))) ((((aY.length+([(bR.getD t15.toNat default)]).length)*32<=140737488355328)/\rec t14 (aC (t15+1)) bR (aY++([(bR.getD t15.toNat default)])))))) ((((aY.length+([(bR.getD t15.toNat default)]).length)*32<=140737488355328)/\rec t14 (aC (t15+1)) bR (aY++([(bR.getD t15.toNat default)]))))))) ((((aY.length+([(bR.getD t15.toNat default)]).length)*32<=140737488355328)/\rec t14 (aC (t15+1)) bR (aY++([(bR.getD t15.toNat default)]))))))) (cond (((bR.getD t15.toNat default).X1)==((bR.getD t15.toNat default).X2)) ((let v10:=(aY.getD ((aC ((aY.length:Int)-1)).toNat) default).X1;(let v11:=(aY.getD ((aC ((aY.length:Int)-1)).toNat) default).X2;cond (v10==v11) ((let v12:=(aY.getD ((aC ((aY.length:Int)-1)).toNat) default).X1;cond (((bR.getD t15.toNat default).X1)==v12) ((let v13:=(aY.getD ((aC ((aY.length:Int)-1)).toNat) default).Y2;cond (decide (((bR.getD t15.toNat default).Y1)<=v13)) ((let v14:=(aY.getD ((aC ((aY.length:Int)-1)).toNat) default).Y2;rec t14 (aC (t15+1)) bR (aY.set ((aC ((aY.length:Int)-1)).toNat) (Seg.mk ((aY.getD ((aC ((aY.length:Int)-1)).toNat) default).X1) ((aY.getD ((aC ((aY.length:Int)-1)).toNat) default).Y1) ((aY.getD ((aC ((aY.length:Int)-1)).toNat) default).X2) (ma v14 ((bR.getD t15.toNat default).Y2)))))) ((((aY.length+([(bR.getD t15.toNat default)]).length)*32<=140737488355328)/\rec t14 (aC (t15+1)) bR (aY++([(bR.getD t15.toNat default)])))))) ((((aY.length+([(bR.getD t15.toNat default)]).length)*32<=140737488355328)/\rec t14 (aC (t15+1)) bR (aY++([(bR.getD t15.toNat default)])))))) ((((aY.length+([(bR.getD t15.toNat default)]).length)*32<=140737488355328)/\rec t14 (aC (t15+1)) bR (aY++([(bR.getD t15.toNat default)]))))))) ((((aY.length+([(bR.getD t15.toNat default)]).length)*32<=140737488355328)/\rec t14 (aC (t15+1)) bR (aY++([(bR.getD t15.toNat default)]))))))) (cond (((bR.getD t15.toNat default).X1)==((bR.getD t15.toNat default).X2)) ((let v15:=(aY.getD ((aC ((aY.length:Int)-1)).toNat) default).X1;(let v16:=(aY.getD ((aC ((aY.length:Int)-1)).toNat) default).X2;cond (v15==v16) ((let v17:=(aY.getD ((aC ((aY.length:Int)-1)).toNat) default).X1;cond (((bR.getD t15.toNat default).X1)==v17) ((let v18:=(aY.getD ((aC ((aY.length:Int)-1)).toNat) default).Y2;cond (decide (((bR.getD t15.toNat default).Y1)<=v18)) ((let v19:=(aY.getD ((aC ((aY.length:Int)-1)).toNat) default).Y2;rec t14 (aC (t15+1)) bR (aY.set ((aC ((aY.length:Int)-1)).toNat) (Seg.mk ((aY.getD ((aC ((aY.length:Int)-1)).toNat) default).X1) ((aY.getD ((aC ((aY.length:Int)-1)).toNat) default).Y1) ((aY.getD ((aC ((aY.length:Int)-1)).toNat) default).X2) (ma v19 ((bR.getD t15.toNat default).Y2)))))) ((((aY.length+([(bR.getD t15.toNat default)]).length)*32<=140737488355328)/\rec t14 (aC (t15+1)) bR (aY++([(bR.getD t15.toNat default)])))))) ((((aY.length+([(bR.getD t15.toNat default)]).length)*32<=140737488355328)/\rec t14 (aC (t15+1)) bR (aY++([(bR.getD t15.toNat default)])))))) ((((aY.length+([(bR.getD t15.toNat default)]).length)*32<=140737488355328)/\rec t14 (aC (t15+1)) bR (aY++([(bR.getD t15.toNat default)]))))))) ((((aY.length+([(bR.getD t15.toNat default)]).length)*32<=140737488355328)/\rec t14 (aC (t15+1)) bR (aY++([(bR.getD t15.toNat default)])))))))) (cond (((bR.getD t15.toNat default).X1)==((bR.getD t15.toNat default).X2)) ((let v20:=(aY.getD ((aC ((aY.length:Int)-1)).toNat) default).X1;(let v21:=(aY.getD ((aC ((aY.length:Int)-1)).toNat) default).X2;cond (v20==v21) ((let v22:=(aY.getD ((aC ((aY.length:Int)-1)).toNat) default).X1;cond (((bR.getD t15.toNat default).X1)==v22) ((let v23:=(aY.getD ((aC ((aY.length:Int)-1)).toNat) default).Y2;cond (decide (((bR.getD t15.toNat default).Y1)<=v23)) ((let v24:=(aY.getD ((aC ((aY.length:Int)-1)).toNat) default).Y2;rec t14 (aC (t15+1)) bR (aY.set ((aC ((aY.length:Int)-1)).toNat) (Seg.mk ((aY.getD ((aC ((aY.length:Int)-1)).toNat) default).X1) ((aY.getD ((aC ((aY.length:Int)-1)).toNat) default).Y1) ((aY.getD ((aC ((aY.length:Int)-1)).toNat) default).X2) (ma v24 ((bR.getD t15.toNat default).Y2)))))) ((((aY.length+([(bR.getD t15.toNat default)]).length)*32<=140737488355328)/\rec t14 (aC (t15+1)) bR (aY++([(bR.getD t15.toNat default)])))))) ((((aY.length+([(bR.getD t15.toNat default)]).length)*32<=140737488355328)/\rec t14 (aC (t15+1)) bR (aY++([(bR.getD t15.toNat default)])))))) ((((aY.length+([(bR.getD t15.toNat default)]).length)*32<=140737488355328)/\rec t14 (aC (t15+1)) bR (aY++([(bR.getD t15.toNat default)]))))))) ((((aY.length+([(bR.getD t15.toNat default)]).length)*32<=140737488355328)/\rec t14 (aC (t15+1)) bR (aY++([(bR.getD t15.toNat default)]))))))) ((((aY.length+([(bR.getD t15.toNat default)]).length)*32<=140737488355328)/\rec t14 (aC (t15+1)) bR (aY++([(bR.getD t15.toNat default)])))))) (x0 t14 t15 bR aY)
def bG3 (Q:List Seg->Prop) (t14 t15:Int) (bR aY:List Seg):Prop:=Q aY
def uQ (F:Nat) (x0:Int->Int->List Seg->List Seg->Prop):Nat->Int->Int->List Seg->List Seg->Prop
 |0,_,_,_,_=>False
 |n+1,t14,t15,bR,aY=>aFd (uQ F x0 n) x0 t14 t15 bR aY
def aOB (F:Nat) (Q:List Seg->Prop) (t14 t15:Int) (bR aY:List Seg):Prop:=uQ F (fun t14 t15 bR aY=>bG3 Q t14 t15 bR aY) F t14 t15 bR aY
def aM6 (F:Nat) (a0:List Seg) (Q:List Seg->Prop):Prop:=aTt a0 Q (aOB F Q)
def aIw (l:List Seg):Prop:=gA l/\l.length<=2000000
def aIX (l:List Seg):List Seg:=aYC l
theorem aAV {a b:Int} (h:a=b):(a==b)=true:=beq_iff_eq.2 h
theorem aAW {a b:Int} (h:¬a=b):(a==b)=false:=beq_eq_false_iff_ne.2 h
theorem bEw (F:Nat) (x0:Int->Int->List Seg->List Seg->Prop) (l:List Seg) (hl:l.length<=2000000) (hp:gA l):∀(n i:Nat) (out:List Seg),i<=l.length->l.length<n+i->out.length<=i->gA out->x0 l.length l.length l ((l.drop i).foldl eV out)->
  uQ F x0 n l.length i l out:=by
 intro n
 induction n with
 |zero=>intro i out h1 h2;omega
 |succ n ih=>
  intro i out h1 h2 ho hpo hx;show aFd _ _ _ _ _ _;unfold aFd
  by_cases h:i<l.length
  ·rw[aW (show (i:Int)<l.length by omega),cond_true,Int.toNat_natCast,bX h (by omega)];have hxp:fH (l.getD i default):=hp _ (by rw[List.getD_eq_getElem?_getD,List.getElem?_eq_getElem h];exact List.getElem_mem h);rw[iJ l i h,List.foldl_cons] at hx;generalize l.getD i default=x at hx hxp ⊢;refine⟨⟨by omega,by omega⟩,?_⟩;have hms:gA (eV out x):=aJy hxp hpo;rcases List.eq_nil_or_concat out with rfl|⟨a,y,rfl⟩
   ·rw[bD (by decide),cond_false];have app:(([]:List Seg).length+[x].length)*32<=140737488355328/\uQ F x0 n l.length ((i+1:Nat):Int) l ([]++[x]):=
     ⟨by simp,ih (i+1) _ (by omega) (by omega) (by simp) hms hx⟩
    exact app
   ·rw[List.concat_eq_append] at ho hx hpo hms ⊢;have hlo:(a++[y]).length=a.length+1:=by simp
    rw[hlo] at ho;have e0:aC (((a++[y]).length:Int)-1)=(a.length:Int):=by
     rw[aDl (by rw[hlo];omega) (by rw[hlo];omega),hlo];rfl
    rw[e0,aW (show (0:Int)<((a++[y]).length:Int) by rw[hlo];omega),cond_true];have g1:(a++[y]).getD (a.length:Int).toNat default=y:=by rw[Int.toNat_natCast];exact aAH a y []
    have s1:∀z:Seg,(a++[y]).set (a.length:Int).toNat z=a++[z]:=fun z=>by rw[Int.toNat_natCast];exact p8 a y z []
    dsimp only;simp only[g1,s1];have hyp:fH y:=hpo y (by simp);have hs:=aOW a y x;refine⟨⟨by omega,by rw[hlo];omega⟩,?_⟩;have app:eW y x=false->((a++[y]).length+[x].length)*32<=140737488355328/\uQ F x0 n l.length ((i+1:Nat):Int) l ((a++[y])++[x]):=fun hj=>by
     rw[hj] at hs;rw[hs] at hx hms;refine⟨by simp;omega,ih (i+1) _ (by omega) (by omega) (by simp;omega) ?_ ?_⟩
     ·simpa using hms
     ·simpa using hx
    have put:eW y x=true->∀z,z=eD y x->uQ F x0 n l.length ((i+1:Nat):Int) l (a++[z]):=fun hj z hz=>by
     rw[hj] at hs;rw[hs] at hx hms;subst hz;exact ih (i+1) _ (by omega) (by omega) (by simp;omega) hms hx
    rcases vV hxp with ⟨e1,e2⟩|⟨e1,e2⟩
    ·rw[aAV e1,aAW (show ¬x.X1=x.X2 by omega)];simp only[cond_true,cond_false]
     by_cases c1:y.Y1=y.Y2
     ·rw[aAV c1,cond_true]
      by_cases c2:x.Y1=y.Y1
      ·rw[aAV c2,cond_true]
       by_cases c3:x.X1<=y.X2
       ·rw[aW c3,cond_true];refine put ((oM hyp e1 e2).2 ⟨c1,by rcases vV hyp with q|q<;>omega,c2.symm,c3⟩) _ (p9 rfl rfl rfl ?_)
        show y.Y2=ma y.Y2 x.Y2;rw[show x.Y2=y.Y2 by omega,aFD]
       ·rw[bD c3,cond_false];exact app (Bool.eq_false_iff.2 fun q=>c3 ((oM hyp e1 e2).1 q).2.2.2)
      ·rw[aAW c2,cond_false];exact app (Bool.eq_false_iff.2 fun q=>c2 ((oM hyp e1 e2).1 q).2.2.1.symm)
     ·rw[aAW c1,cond_false];exact app (Bool.eq_false_iff.2 fun q=>c1 ((oM hyp e1 e2).1 q).1)
    ·rw[aAV e1,aAW (show ¬x.Y1=x.Y2 by omega)];simp only[cond_true,cond_false]
     by_cases c1:y.X1=y.X2
     ·rw[aAV c1,cond_true]
      by_cases c2:x.X1=y.X1
      ·rw[aAV c2,cond_true]
       by_cases c3:x.Y1<=y.Y2
       ·rw[aW c3,cond_true];refine put ((oL hyp e1 e2).2 ⟨c1,by rcases vV hyp with q|q<;>omega,c2.symm,c3⟩) _ (p9 rfl rfl ?_ rfl)
        show y.X2=ma y.X2 x.X2;rw[show x.X2=y.X2 by omega,aFD]
       ·rw[bD c3,cond_false];exact app (Bool.eq_false_iff.2 fun q=>c3 ((oL hyp e1 e2).1 q).2.2.2)
      ·rw[aAW c2,cond_false];exact app (Bool.eq_false_iff.2 fun q=>c2 ((oL hyp e1 e2).1 q).2.2.1.symm)
     ·rw[aAW c1,cond_false];exact app (Bool.eq_false_iff.2 fun q=>c1 ((oL hyp e1 e2).1 q).1)
  ·have e:i=l.length:=by omega
   subst e;rw[bD (by omega),cond_false];rw[List.drop_length] at hx;exact hx
theorem bCb (a0:List Seg) (h:aIw a0):∃F,∀Q:List Seg->Prop,Q (aIX a0)->aM6 F a0 Q:=by
 refine⟨a0.length+1,fun Q hQ=>?_⟩;have hlen:(gH a0).length=a0.length:=(vU a0).length_eq;refine⟨h.2,h,?_⟩;refine bEw _ _ (gH a0) (by rw[hlen];exact h.2) (fun s hs=>h.1 s ((vU a0).mem_iff.1 hs)) _ 0 [] (by omega) (by rw[hlen];omega) (by simp) (fun s hs=>by cases hs) ?_;show Q (((gH a0).drop 0).foldl eV []);rw[List.drop_zero,bBe a0 h.1];exact hQ
def zA:Nat->Nat->Nat->Canon UU:=fun o b r=>cond (Nat.beq o 0&&Nat.beq b 0) ⟨[4,5,7,24,25,26],[4,23],[(.cell 23 11,50,.rect),(.cell 23 10,51,.seg)],[],[]⟩ (⟨[],[],[],[],[]⟩)
def aLE (qa qb:ByteArray) (qc qd qf qg:Int) (qh qi:List aA) (a1:List Opn) (Q:List Seg->List aA->Int->Prop) (i0:Int->List Opn->Int->Int->ByteArray->ByteArray->Int->Int->Int->Int->List aA->List aA->Int->Int->List aA->List Seg->Prop):Prop:=(let r0:=(gX qa qb qc qd qf qg qh qi);cond (r0 !=0) (Q ([]) ([]) r0) (cond (decide (4000<(a1.length:Int))) (Q ([]) ([]) 4) (i0 0 a1 (a1.length:Int) 0 qa qb qc qd qf qg qh qi 0 0 ([]) ([]))))
def aFg (rec:Int->List Opn->Int->Int->ByteArray->ByteArray->Int->Int->Int->Int->List aA->List aA->Int->Int->List aA->List Seg->Prop) (x0:Int->List Opn->Int->Int->ByteArray->ByteArray->Int->Int->Int->Int->List aA->List aA->Int->Int->List aA->List Seg->Prop) (x1:Int->List Opn->Int->Int->ByteArray->ByteArray->Int->Int->Int->Int->List aA->List aA->Int->Int->List aA->List Seg->Prop) (t5:Int) (t24:List Opn) (t25 t26:Int) (eN eM:ByteArray) (eL eK eF eE:Int) (dW eJ:List aA) (fQ fP:Int) (eI:List aA) (cP:List Seg):Prop:=cond (decide (t26<t25)) ((let e0:=(t24.getD t26.toNat default);((0<=t26/\t26<t24.length)/\cond (e0.Kind==3) (cond (!(iW e0.X e0.Y e0.W e0.H)) (x0 16 t24 t25 t26 eN eM eL eK eF eE dW eJ fQ fP eI cP) ((let r1:=(pI e0.X e0.Y e0.W e0.H 0 0 eF eE);cond (!r1) (x0 16 t24 t25 t26 eN eM eL eK eF eE dW eJ fQ fP eI cP) ((((eI.length+([(aA.mk e0.X e0.Y e0.W e0.H)]).length)*32<=140737488355328)/\rec t5 t24 t25 (aC (t26+1)) eN eM eL eK eF eE dW eJ fQ fP (eI++([(aA.mk e0.X e0.Y e0.W e0.H)])) cP))))) (cond (e0.Kind==1) ((let r2:=(iC eN eM eL eK eF eE dW eJ e0.X e0.Y);cond (!r2) (x0 16 t24 t25 t26 eN eM eL eK eF eE dW eJ fQ fP eI cP) (cond (e0.Kind !=1) ((let r3:=(fT fQ fP e0.X e0.Y);(let r4:=(pJ dW r3.1 r3.2.1 r3.2.2.1 r3.2.2.2);((((r3.1==r3.2.2.1)==(r3.2.1==r3.2.2.2))=false->vY dW r3.1 r3.2.1 r3.2.2.1 r3.2.2.2)/\cond (((r3.1==r3.2.2.1)==(r3.2.1==r3.2.2.2))||r4) (x0 16 t24 t25 t26 eN eM eL eK eF eE dW eJ fQ fP eI cP) ((((cP.length+([(Seg.mk r3.1 r3.2.1 r3.2.2.1 r3.2.2.2)]).length)*32<=140737488355328)/\rec t5 t24 t25 (aC (t26+1)) eN eM eL eK eF eE dW eJ e0.X e0.Y eI (cP++([(Seg.mk r3.1 r3.2.1 r3.2.2.1 r3.2.2.2)])))))))) (rec t5 t24 t25 (aC (t26+1)) eN eM eL eK eF eE dW eJ e0.X e0.Y eI cP)))) (cond (e0.Kind==2) ((let r5:=(iC eN eM eL eK eF eE dW eJ e0.X e0.Y);cond (!r5) (x0 16 t24 t25 t26 eN eM eL eK eF eE dW eJ fQ fP eI cP) (cond (e0.Kind !=1) ((let r6:=(fT fQ fP e0.X e0.Y);(let r7:=(pJ dW r6.1 r6.2.1 r6.2.2.1 r6.2.2.2);((((r6.1==r6.2.2.1)==(r6.2.1==r6.2.2.2))=false->vY dW r6.1 r6.2.1 r6.2.2.1 r6.2.2.2)/\cond (((r6.1==r6.2.2.1)==(r6.2.1==r6.2.2.2))||r7) (x0 16 t24 t25 t26 eN eM eL eK eF eE dW eJ fQ fP eI cP) ((((cP.length+([(Seg.mk r6.1 r6.2.1 r6.2.2.1 r6.2.2.2)]).length)*32<=140737488355328)/\rec t5 t24 t25 (aC (t26+1)) eN eM eL eK eF eE dW eJ e0.X e0.Y eI (cP++([(Seg.mk r6.1 r6.2.1 r6.2.2.1 r6.2.2.2)])))))))) (rec t5 t24 t25 (aC (t26+1)) eN eM eL eK eF eE dW eJ e0.X e0.Y eI cP)))) (cond (e0.Kind==4) ((let r8:=(iC eN eM eL eK eF eE dW eJ e0.X e0.Y);cond (!r8) (x0 16 t24 t25 t26 eN eM eL eK eF eE dW eJ fQ fP eI cP) (cond (e0.Kind !=1) ((let r9:=(fT fQ fP e0.X e0.Y);(let r10:=(pJ dW r9.1 r9.2.1 r9.2.2.1 r9.2.2.2);((((r9.1==r9.2.2.1)==(r9.2.1==r9.2.2.2))=false->vY dW r9.1 r9.2.1 r9.2.2.1 r9.2.2.2)/\cond (((r9.1==r9.2.2.1)==(r9.2.1==r9.2.2.2))||r10) (x0 16 t24 t25 t26 eN eM eL eK eF eE dW eJ fQ fP eI cP) ((((cP.length+([(Seg.mk r9.1 r9.2.1 r9.2.2.1 r9.2.2.2)]).length)*32<=140737488355328)/\rec t5 t24 t25 (aC (t26+1)) eN eM eL eK eF eE dW eJ e0.X e0.Y eI (cP++([(Seg.mk r9.1 r9.2.1 r9.2.2.1 r9.2.2.2)])))))))) (rec t5 t24 t25 (aC (t26+1)) eN eM eL eK eF eE dW eJ e0.X e0.Y eI cP)))) (x0 16 t24 t25 t26 eN eM eL eK eF eE dW eJ fQ fP eI cP))))))) (x1 t5 t24 t25 t26 eN eM eL eK eF eE dW eJ fQ fP eI cP)
def bG5 (Q:List Seg->List aA->Int->Prop) (t5:Int) (t24:List Opn) (t25 t26:Int) (eN eM:ByteArray) (eL eK eF eE:Int) (dW eJ:List aA) (fQ fP:Int) (eI:List aA) (cP:List Seg):Prop:=Q ([]) ([]) t5
def bG4 (Q:List Seg->List aA->Int->Prop) (t5:Int) (t24:List Opn) (t25 t26:Int) (eN eM:ByteArray) (eL eK eF eE:Int) (dW eJ:List aA) (fQ fP:Int) (eI:List aA) (cP:List Seg):Prop:=((aIw cP)/\((eI.length<=2000000)/\Q (aIX cP) eI 0))
def aAh (F:Nat) (x0:Int->List Opn->Int->Int->ByteArray->ByteArray->Int->Int->Int->Int->List aA->List aA->Int->Int->List aA->List Seg->Prop) (x1:Int->List Opn->Int->Int->ByteArray->ByteArray->Int->Int->Int->Int->List aA->List aA->Int->Int->List aA->List Seg->Prop):Nat->Int->List Opn->Int->Int->ByteArray->ByteArray->Int->Int->Int->Int->List aA->List aA->Int->Int->List aA->List Seg->Prop
 |0,_,_,_,_,_,_,_,_,_,_,_,_,_,_,_,_=>False
 |n+1,t5,t24,t25,t26,eN,eM,eL,eK,eF,eE,dW,eJ,fQ,fP,eI,cP=>aFg (aAh F x0 x1 n) x0 x1 t5 t24 t25 t26 eN eM eL eK eF eE dW eJ fQ fP eI cP
def aOC (F:Nat) (Q:List Seg->List aA->Int->Prop) (t5:Int) (t24:List Opn) (t25 t26:Int) (eN eM:ByteArray) (eL eK eF eE:Int) (dW eJ:List aA) (fQ fP:Int) (eI:List aA) (cP:List Seg):Prop:=aAh F (fun t5 t24 t25 t26 eN eM eL eK eF eE dW eJ fQ fP eI cP=>bG5 Q t5 t24 t25 t26 eN eM eL eK eF eE dW eJ fQ fP eI cP) (fun t5 t24 t25 t26 eN eM eL eK eF eE dW eJ fQ fP eI cP=>bG4 Q t5 t24 t25 t26 eN eM eL eK eF eE dW eJ fQ fP eI cP) F t5 t24 t25 t26 eN eM eL eK eF eE dW eJ fQ fP eI cP
def aIG (F:Nat) (qa qb:ByteArray) (qc qd qf qg:Int) (qh qi:List aA) (a1:List Opn) (Q:List Seg->List aA->Int->Prop):Prop:=aLE qa qb qc qd qf qg qh qi a1 Q (aOC F Q)
theorem mD (a b c d:Int):iW a b c d=gK a b c d:=by
 have hz:aC (0-1048576)= -1048576:=by rw[bQ (by omega) (by omega)];rfl
 rw[Bool.eq_iff_iff];unfold iW aEE aIZ gK lM;rw[hz,Bool.cond_eq_ite];constructor
 ·intro q;simp only[Bool.and_eq_true,decide_eq_true_eq] at q;obtain⟨⟨⟨⟨⟨q1,q2⟩,q3⟩,q4⟩,q5⟩,⟨⟨⟨p1,p2⟩,p3⟩,p4⟩,p5⟩:=q;rw[bQ (n:=a+c) (by omega) (by omega)] at q5 ⊢;rw[bQ (n:=b+d) (by omega) (by omega)] at p5 ⊢;rw[aW q1,aW q2,aW p1,aW p2,bD (show ¬c<1 by omega),bD (show ¬d<1 by omega),bD (show ¬2097152<c by omega),bD (show ¬2097152<d by omega),aW q5,aW p5,aW (show -1048576<=a+c by omega),aW (show -1048576<=b+d by omega)];rfl
 ·intro q;split at q
  ·cases q
  ·rename_i e;simp only[Bool.or_eq_true,Bool.not_eq_true',decide_eq_true_eq,not_or,Bool.and_eq_false_iff,decide_eq_false_iff_not,Int.not_lt,Int.not_le,Bool.and_eq_true] at e q;obtain⟨⟨⟨⟨⟨e1,e2⟩,e3⟩,e4⟩,e5⟩,e6⟩:=e;simp only[Bool.and_eq_true,decide_eq_true_eq];omega
theorem aKn (a b c d x y w h:Int):pI a b c d x y w h=lN a b c d x y w h:=by
 unfold pI lN;rw[mD,mD];rw[Bool.eq_iff_iff];simp only[Bool.and_eq_true];constructor
 ·rintro ⟨⟨⟨⟨⟨p,q⟩,r⟩,s⟩,t⟩,u⟩
  exact⟨⟨⟨⟨⟨p,q⟩,r⟩,t⟩,s⟩,u⟩
 ·rintro ⟨⟨⟨⟨⟨p,q⟩,r⟩,t⟩,s⟩,u⟩
  exact⟨⟨⟨⟨⟨p,q⟩,r⟩,s⟩,t⟩,u⟩
def onB (w h x y:Int):Bool:=((((decide (0<=x))&&(decide (0<=y)))&&(decide (x<=w)))&&(decide (y<=h)))
theorem aYb (nm mt:ByteArray) (g gr w h:Int) (cl us:List aA) (x y:Int):iC nm mt g gr w h cl us x y=onB w h x y:=by
 unfold iC onB;rw[Bool.eq_iff_iff];simp only[Bool.and_eq_true];constructor
 ·rintro ⟨⟨⟨p,q⟩,r⟩,s⟩
  exact⟨⟨⟨p,r⟩,q⟩,s⟩
 ·rintro ⟨⟨⟨p,r⟩,q⟩,s⟩
  exact⟨⟨⟨p,q⟩,r⟩,s⟩
theorem bJJ (l:List aA) (a b c d:Int):pJ l a b c d=l.any (vA a b c d):=aF0 (vA a b c d) l 0 (by omega)
theorem aO0 (a b:Int):mi a b<=ma a b:=by
 unfold mi ma;split<;>split<;>omega
theorem aFB (a b:Int):(mi a b==ma a b)=(a==b):=by
 rw[Bool.eq_iff_iff];simp only[beq_iff_eq];unfold mi ma;constructor
 ·intro h;split at h<;>split at h<;>omega
 ·intro h;split<;>split<;>omega
abbrev CSt:=Int×Int×List Seg×List aA
def lY (x y a b:Int):Bool:=!((x==a)==(y==b))
def jW (x y a b:Int):Seg:=Seg.mk (mi x a) (mi y b) (ma x a) (ma y b)
def jR (s:Seg) (r:aA):Bool:=vA s.X1 s.Y1 s.X2 s.Y2 r
def opC (w h:Int) (cl:List aA) (o:Opn) (s:CSt):Option CSt:=
 cond (o.Kind==3) (cond (lN o.X o.Y o.W o.H 0 0 w h) (some (s.1,s.2.1,s.2.2.1,s.2.2.2++[aA.mk o.X o.Y o.W o.H])) none)
  (cond ((((o.Kind==1)||(o.Kind==2))||(o.Kind==4))&&onB w h o.X o.Y)
   (cond (o.Kind==1) (some (o.X,o.Y,s.2.2.1,s.2.2.2))
    (cond (lY s.1 s.2.1 o.X o.Y&&!(cl.any (jR (jW s.1 s.2.1 o.X o.Y)))) (some (o.X,o.Y,s.2.2.1++[jW s.1 s.2.1 o.X o.Y],s.2.2.2)) none))
   none)
def nF (w h:Int) (cl:List aA):List Opn->CSt->Option CSt
 |[],s=>some s
 |o::r,s=>(opC w h cl o s).bind (nF w h cl r)
def aBJ (w h:Int) (cl:List aA) (ops:List Opn):List Seg×List aA×Int:=
 match nF w h cl ops (0,0,[],[]) with
 |none=>([],[],16)
 |some s=>(k9 s.2.2.1,s.2.2.2,0)
def gR (nm mt:ByteArray) (g gr w h:Int) (cl us:List aA) (ops:List Opn):List Seg×List aA×Int:=
 cond (gX nm mt g gr w h cl us !=0) ([],[],gX nm mt g gr w h cl us) (cond (decide (4000<(ops.length:Int))) ([],[],4) (aBJ w h cl ops))
def aEX (nm mt:ByteArray) (g gr w h:Int) (cl us:List aA) (ops:List Opn):Prop:=True
theorem bCW (w h:Int) (cl:List aA) (o:Opn) (s t:CSt) (e:opC w h cl o s=some t) (hs:gA s.2.2.1):gA t.2.2.1/\t.2.2.1.length<=s.2.2.1.length+1/\t.2.2.2.length<=s.2.2.2.length+1:=by
 obtain⟨x,y,ls,st⟩:=s;unfold opC at e;cases h3:(o.Kind==3) with
 |true=>
  rw[h3,cond_true] at e;cases hw:lN o.X o.Y o.W o.H 0 0 w h with
  |false=>rw[hw] at e;cases e
  |true=>
   rw[hw] at e;cases e;exact⟨hs,by simp,by simp⟩
 |false=>
  rw[h3,cond_false] at e;cases h4:((((o.Kind==1)||(o.Kind==2))||(o.Kind==4))&&onB w h o.X o.Y) with
  |false=>rw[h4] at e;cases e
  |true=>
   rw[h4,cond_true] at e;cases h5:(o.Kind==1) with
   |true=>
    rw[h5] at e;cases e;exact⟨hs,by simp,by simp⟩
   |false=>
    rw[h5,cond_false] at e;cases h6:(lY x y o.X o.Y&&!(cl.any (jR (jW x y o.X o.Y)))) with
    |false=> 
     have e':cond (lY x y o.X o.Y&&!(cl.any (jR (jW x y o.X o.Y)))) (some (o.X,o.Y,ls++[jW x y o.X o.Y],st)) none=some t:=e;rw[h6] at e';cases e'
    |true=>
     have e':cond (lY x y o.X o.Y&&!(cl.any (jR (jW x y o.X o.Y)))) (some (o.X,o.Y,ls++[jW x y o.X o.Y],st)) none=some t:=e;rw[h6] at e';cases e';refine⟨fun z hz=>?_,by simp,by simp⟩;rcases List.mem_append.1 hz with q|q
     ·exact hs z q
     ·rw[List.mem_singleton.1 q];rw[Bool.and_eq_true] at h6;have h7:=h6.1;unfold lY at h7;refine⟨?_,aO0 _ _,aO0 _ _⟩;show ((mi x o.X==ma x o.X)==(mi y o.Y==ma y o.Y))=false;rw[aFB,aFB];simpa using h7
theorem aE8 (w h:Int) (cl:List aA):∀(l:List Opn) (s t:CSt),nF w h cl l s=some t->gA s.2.2.1->gA t.2.2.1/\t.2.2.1.length<=s.2.2.1.length+l.length/\t.2.2.2.length<=s.2.2.2.length+l.length
 |[],s,t,e,hs=>by
  cases e;exact⟨hs,by simp,by simp⟩
 |o::r,s,t,e,hs=>by
  unfold nF at e;cases h1:opC w h cl o s with
  |none=>rw[h1] at e;cases e
  |some u=>
   rw[h1] at e;have h2:=bCW w h cl o s u h1 hs;have h3:=aE8 w h cl r u t e h2.1;refine⟨h3.1,?_,?_⟩<;>simp only[List.length_cons]<;>omega
theorem b13:((1:Int)==3)=false:=rfl
theorem b11:((1:Int)==1)=true:=rfl
theorem b33:((3:Int)==3)=true:=rfl
theorem aYM (cl:List aA) (x y a b:Int):((((fT x y a b).1==(fT x y a b).2.2.1)==((fT x y a b).2.1==(fT x y a b).2.2.2))||pJ cl (fT x y a b).1 (fT x y a b).2.1 (fT x y a b).2.2.1 (fT x y a b).2.2.2)=!(lY x y a b&&!(cl.any (jR (jW x y a b)))):=by
 rw[bJJ];show (((mi x a==ma x a)==(mi y b==ma y b))||cl.any (vA (mi x a) (mi y b) (ma x a) (ma y b)))=_;rw[aFB,aFB];unfold lY jR jW;cases ((x==a)==(y==b))<;>simp
theorem aNk (w h:Int) (cl:List aA) (k ox oy ow oh oN x y:Int) (ls:List Seg) (st:List aA) (hk:(k==3)=false) (mU:(k==1)=false) (cW:(((k==1)||(k==2))||(k==4))=true):
  opC w h cl ⟨k,ox,oy,ow,oh,oN⟩ (x,y,ls,st)=cond (onB w h ox oy) (cond (lY x y ox oy&&!(cl.any (jR (jW x y ox oy)))) (some (ox,oy,ls++[jW x y ox oy],st)) none) none:=by
 unfold opC;dsimp only;rw[hk,cond_false,cW,Bool.true_and,mU,cond_false]
theorem aNj (w h:Int) (cl:List aA) (ox oy ow oh oN x y:Int) (ls:List Seg) (st:List aA):
  opC w h cl ⟨1,ox,oy,ow,oh,oN⟩ (x,y,ls,st)=cond (onB w h ox oy) (some (ox,oy,ls,st)) none:=by
 unfold opC;dsimp only;rw[b13,cond_false,b11,Bool.true_or,Bool.true_or,Bool.true_and,cond_true]
theorem aNh (w h:Int) (cl:List aA) (ox oy ow oh oN x y:Int) (ls:List Seg) (st:List aA):
  opC w h cl ⟨3,ox,oy,ow,oh,oN⟩ (x,y,ls,st)=cond (lN ox oy ow oh 0 0 w h) (some (x,y,ls,st++[aA.mk ox oy ow oh])) none:=by
 unfold opC;dsimp only;rw[b33,cond_true]
theorem aNi (w h:Int) (cl:List aA) (k ox oy ow oh oN:Int) (s:CSt) (hk:(k==3)=false) (cW:(((k==1)||(k==2))||(k==4))=false):
  opC w h cl ⟨k,ox,oy,ow,oh,oN⟩ s=none:=by
 unfold opC;dsimp only;rw[hk,cond_false,cW,Bool.false_and,cond_false]
theorem bEz (F:Nat) (x0 x1:Int->List Opn->Int->Int->ByteArray->ByteArray->Int->Int->Int->Int->List aA->List aA->Int->Int->List aA->List Seg->Prop) (nm mt:ByteArray) (g gr w h:Int) (cl us:List aA) (hcl:cl.length<=2000000) (l:List Opn) (hl:l.length<=4000) (t5:Int):
  ∀(n i:Nat) (x y:Int) (ls:List Seg) (st:List aA),i<=l.length->l.length<n+i->ls.length<=i->st.length<=i->
   (nF w h cl (l.drop i) (x,y,ls,st)=none->∀(j x y:Int) (ls:List Seg) (st:List aA),x0 16 l l.length j nm mt g gr w h cl us x y st ls)->
   (∀(x' y':Int) (ls':List Seg) (st':List aA),nF w h cl (l.drop i) (x,y,ls,st)=some (x',y',ls',st')->x1 t5 l l.length l.length nm mt g gr w h cl us x' y' st' ls')->
   aAh F x0 x1 n t5 l l.length i nm mt g gr w h cl us x y st ls:=by
 intro n
 induction n with
 |zero=>intro i x y ls st h1 h2;omega
 |succ n ih=>
  intro i x y ls st h1 h2 hls hst hX hY;show aFg _ _ _ t5 l l.length i nm mt g gr w h cl us x y st ls;unfold aFg
  by_cases hi:i<l.length
  ·rw[aW (show (i:Int)<l.length by omega),cond_true,Int.toNat_natCast,bX hi (by omega)];rw[iJ l i hi] at hX hY;unfold nF at hX hY;generalize l.getD i default=o at hX hY ⊢;obtain⟨k,ox,oy,ow,oh,oN⟩:=o;dsimp only at hX hY ⊢;refine⟨⟨by omega,by omega⟩,?_⟩;rw[aYb,aKn,mD,aYM];have hrec:∀(x y:Int) (ls':List Seg) (st':List aA),opC w h cl ⟨k,ox,oy,ow,oh,oN⟩ (x,y,ls,st)=opC w h cl ⟨k,ox,oy,ow,oh,oN⟩ (x,y,ls,st):=fun _ _ _ _=>rfl
   by_cases k3:k=3
   ·subst k3;rw[b33,cond_true];rw[aNh] at hX hY;cases hv:lN ox oy ow oh 0 0 w h with
    |false=>
     rw[hv] at hX;cases gK ox oy ow oh
     ·exact hX rfl _ _ _ _ _
     ·exact hX rfl _ _ _ _ _
    |true=>
     have hr:gK ox oy ow oh=true:=by
      unfold lN at hv;simp only[Bool.and_eq_true] at hv;exact hv.1.1.1.1.1
     rw[hv] at hX hY;rw[hr];refine⟨by simp;omega,ih (i+1) _ _ _ _ (by omega) (by omega) (by omega) (by simp;omega) hX hY⟩
   ·have n3:(k==3)=false:=by simpa using k3
    rw[n3,cond_false]
    by_cases k1:k=1
    ·subst k1;rw[b11,cond_true];rw[aNj] at hX hY;cases hv:onB w h ox oy with
     |false=>
      rw[hv] at hX;exact hX rfl _ _ _ _ _
     |true=>
      rw[hv] at hX hY;exact ih (i+1) _ _ _ _ (by omega) (by omega) (by omega) (by omega) hX hY
    ·have n1:(k==1)=false:=by simpa using k1
     have n1':(k !=1)=true:=by simpa using k1
     rw[n1,cond_false,n1']
     by_cases k24:k=2\/k=4
     ·have cW:(((k==1)||(k==2))||(k==4))=true:=by
       rcases k24 with rfl|rfl<;>rfl
      rw[aNk w h cl k ox oy ow oh oN x y ls st n3 n1 cW] at hX hY;have hgoal:cond (!(onB w h ox oy)) (x0 16 l l.length i nm mt g gr w h cl us x y st ls)
         (((((fT x y ox oy).1==(fT x y ox oy).2.2.1)==((fT x y ox oy).2.1==(fT x y ox oy).2.2.2))=false->vY cl (fT x y ox oy).1 (fT x y ox oy).2.1 (fT x y ox oy).2.2.1 (fT x y ox oy).2.2.2)/\
        cond (!(lY x y ox oy&&!(cl.any (jR (jW x y ox oy))))) (x0 16 l l.length i nm mt g gr w h cl us x y st ls) (((ls.length+([Seg.mk (fT x y ox oy).1 (fT x y ox oy).2.1 (fT x y ox oy).2.2.1 (fT x y ox oy).2.2.2]).length)*32<=140737488355328)/\aAh F x0 x1 n t5 l l.length ((i+1:Nat):Int) nm mt g gr w h cl us ox oy st (ls++[jW x y ox oy]))):=by
       cases hv:onB w h ox oy with
       |false=>
        rw[hv] at hX;exact hX rfl _ _ _ _ _
       |true=>
        rw[hv,cond_true] at hX hY;refine⟨fun _=>hcl,?_⟩;cases hu:(lY x y ox oy&&!(cl.any (jR (jW x y ox oy)))) with
        |false=>
         rw[hu] at hX;exact hX rfl _ _ _ _ _
        |true=>
         rw[hu] at hX hY;refine⟨by simp;omega,ih (i+1) _ _ _ _ (by omega) (by omega) (by simp;omega) (by omega) hX hY⟩
      rcases k24 with rfl|rfl
      ·exact hgoal
      ·exact hgoal
     ·have n2:(k==2)=false:=by simp;omega
      have n4:(k==4)=false:=by simp;omega
      rw[n2,cond_false,n4,cond_false];rw[aNi w h cl k ox oy ow oh oN _ n3 (by rw[n1,n2,n4];rfl)] at hX;exact hX rfl _ _ _ _ _
  ·have e:i=l.length:=by omega
   subst e;rw[bD (by omega),cond_false];rw[List.drop_length] at hY;exact hY _ _ _ _ rfl
theorem bCd (qa:ByteArray) (qb:ByteArray) (qc:Int) (qd:Int) (qf:Int) (qg:Int) (qh:List aA) (qi:List aA) (a1:List Opn) (h:aEX qa qb qc qd qf qg qh qi a1):∃F,∀Q:List Seg->List aA->Int->Prop,Q ((gR qa qb qc qd qf qg qh qi a1).1) ((gR qa qb qc qd qf qg qh qi a1).2.1) ((gR qa qb qc qd qf qg qh qi a1).2.2)->aIG F qa qb qc qd qf qg qh qi a1 Q:=by
 refine⟨4001,fun Q hQ=>?_⟩;unfold aIG aLE;unfold gR at hQ;dsimp only;cases h1:(gX qa qb qc qd qf qg qh qi !=0) with
 |true=>
  rw[h1] at hQ;exact hQ
 |false=>
 rw[h1] at hQ;simp only[cond_false] at hQ ⊢;have hcl:qh.length<=4:=by
  by_cases q:qh.length<=4
  ·exact q
  ·exfalso;unfold gX at h1;rw[aW (show 4<(qh.length:Int) by omega),Bool.true_or,cond_true] at h1
   revert h1
   cases ((!(vn qa))||(!(vn qb)))<;>cases (((!(lA qc qd))||(!(jU qf 1 1048576)))||(!(jU qg 1 1048576)))<;>simp
 by_cases h2:4000<(a1.length:Int)
 ·rw[aW h2] at hQ ⊢;exact hQ
 rw[bD h2] at hQ ⊢;simp only[cond_false] at hQ ⊢;unfold aBJ at hQ;refine bEz 4001 _ _ qa qb qc qd qf qg qh qi (by omega) a1 (by omega) 0 4001 0 0 0 [] [] (by omega) (by omega) (by simp) (by simp) (fun q j x y ls st=>?_) (fun x y ls st q=>?_)
 ·rw[List.drop_zero] at q;rw[q] at hQ;exact hQ
 ·rw[List.drop_zero] at q;rw[q] at hQ;have hi:=aE8 qf qg qh a1 _ _ q (by intro z hz;cases hz);have i2:ls.length<=0+a1.length:=hi.2.1;have i3:st.length<=0+a1.length:=hi.2.2;refine⟨⟨hi.1,by omega⟩,by omega,?_⟩;exact hQ
def vX (ql aE aD aG aF dG bL bK:Int):Prop:=(cond (ql==3) (((([aC (aE-bL),aC (aD-bK)]).length+([aG,aF]).length)*8<=140737488355328)) (True))
def vE (ql aE aD aG aF dG bL bK:Int):(zzI):=cond (ql==3) ((([aC (aE-bL),aC (aD-bK)])++([aG,aF]))) ([aC (aE-bL),aC (aD-bK)])
def qR:Nat->Nat->Nat->Canon UU:=fun o b r=>cond (Nat.beq b 0) ⟨[4,5,6,8,9,28,29,30],[6,8,9],[],[],[]⟩ (cond (Nat.beq b 2) ⟨[4,5,6,8,9,11,28,29,30,60,61,62],[6,8,9,11],[],[],[]⟩ (⟨[],[],[],[],[]⟩))
def aL0 (ops:List Opn) (Q:ByteArray->Int->Prop) (i0:ByteArray->Int->List Opn->Int->Int->ByteArray->Int->Int->Prop):Prop:=cond (decide (4000<(ops.length:Int))) (Q (ByteArray.mk #[]) 4) (i0 (ByteArray.mk #[]) 0 ops (ops.length:Int) 0 ByteArray.empty 0 0)
def aVR (rec:ByteArray->Int->List Opn->Int->Int->ByteArray->Int->Int->Prop) (x0:ByteArray->Int->List Opn->Int->Int->ByteArray->Int->Int->Prop) (x1:ByteArray->Int->List Opn->Int->Int->ByteArray->Int->Int->Prop) (t4:ByteArray) (t5:Int) (t28:List Opn) (t29 t30:Int) (o8:ByteArray) (dM dL:Int) (i1:ByteArray->Int->List Opn->Int->Int->zzI->Int->Int->ByteArray->Int->Int->Int->Int->Int->Int->Int->Int->Prop):Prop:=cond (decide (t30<t29)) ((let e0:=(t28.getD t30.toNat default);((0<=t30/\t30<t28.length)/\(let r1:=(aBG e0.Kind e0.X e0.Y e0.W e0.H e0.N);(let r2:=(k6 e0.Kind e0.X e0.Y e0.W e0.H e0.N);cond (((!(iS [1,2,4,3] e0.Kind))||(!r1))||(!r2)) (x0 (ByteArray.mk #[]) 16 t28 t29 t30 o8 dM dL) (((1<=(gY lJ e0.Kind).size/\o8.size+(gY lJ e0.Kind).size<=140737488355328)/\(let r3:=(vE e0.Kind e0.X e0.Y e0.W e0.H e0.N dM dL);((vX e0.Kind e0.X e0.Y e0.W e0.H e0.N dM dL)/\i1 t4 t5 t28 t29 t30 r3 (r3.length:Int) 0 (o8++(gY lJ e0.Kind)) dM dL e0.Kind e0.X e0.Y e0.W e0.H e0.N))))))))) (x1 t4 t5 t28 t29 t30 o8 dM dL)
def bGg (Q:ByteArray->Int->Prop) (t4:ByteArray) (t5:Int) (t28:List Opn) (t29 t30:Int) (o8:ByteArray) (dM dL:Int):Prop:=Q t4 t5
def bGf (Q:ByteArray->Int->Prop) (t4:ByteArray) (t5:Int) (t28:List Opn) (t29 t30:Int) (o8:ByteArray) (dM dL:Int):Prop:=Q o8 0
def aVQ (rec:ByteArray->Int->List Opn->Int->Int->zzI->Int->Int->ByteArray->Int->Int->Int->Int->Int->Int->Int->Int->Prop) (x0:ByteArray->Int->List Opn->Int->Int->zzI->Int->Int->ByteArray->Int->Int->Int->Int->Int->Int->Int->Int->Prop) (t4:ByteArray) (t5:Int) (t28:List Opn) (t29 t30:Int) (t60:zzI) (t61 t62:Int) (o8:ByteArray) (dM dL fD eY eX fC fB fA:Int):Prop:=cond (decide (t62<t61)) ((let e0:=(t60.getD t62.toNat default);((0<=t62/\t62<t60.length)/\(((-9223372036854775808<=e0/\e0<=9223372036854775807)/\((((ByteArray.mk #[32]).size:Int)+(kO e0).size<=9223372036854775807)/\(1<=((ByteArray.mk #[32])++(kO e0)).size/\o8.size+((ByteArray.mk #[32])++(kO e0)).size<=140737488355328)))/\rec t4 t5 t28 t29 t30 t60 t61 (aC (t62+1)) (o8++((ByteArray.mk #[32])++(kO e0))) dM dL fD eY eX fC fB fA)))) (x0 t4 t5 t28 t29 t30 t60 t61 t62 o8 dM dL fD eY eX fC fB fA)
def bGe (rec:ByteArray->Int->List Opn->Int->Int->ByteArray->Int->Int->Prop) (x0:ByteArray->Int->List Opn->Int->Int->ByteArray->Int->Int->Prop) (x1:ByteArray->Int->List Opn->Int->Int->ByteArray->Int->Int->Prop) (t4:ByteArray) (t5:Int) (t28:List Opn) (t29 t30:Int) (t60:zzI) (t61 t62:Int) (o8:ByteArray) (dM dL fD eY eX fC fB fA:Int):Prop:=((1<=(ByteArray.mk #[10]).size/\o8.size+(ByteArray.mk #[10]).size<=140737488355328)/\(let r0:=(vF fD eY eX fC fB fA dM dL);rec t4 t5 t28 t29 (aC (t30+1)) (o8++(ByteArray.mk #[10])) r0.1 r0.2))
def aDk (F:Nat) (x0:ByteArray->Int->List Opn->Int->Int->zzI->Int->Int->ByteArray->Int->Int->Int->Int->Int->Int->Int->Int->Prop):Nat->ByteArray->Int->List Opn->Int->Int->zzI->Int->Int->ByteArray->Int->Int->Int->Int->Int->Int->Int->Int->Prop
 |0,_,_,_,_,_,_,_,_,_,_,_,_,_,_,_,_,_=>False
 |n+1,t4,t5,t28,t29,t30,t60,t61,t62,o8,dM,dL,fD,eY,eX,fC,fB,fA=>aVQ (aDk F x0 n) x0 t4 t5 t28 t29 t30 t60 t61 t62 o8 dM dL fD eY eX fC fB fA
def aJx (F:Nat) (rec:ByteArray->Int->List Opn->Int->Int->ByteArray->Int->Int->Prop) (x0:ByteArray->Int->List Opn->Int->Int->ByteArray->Int->Int->Prop) (x1:ByteArray->Int->List Opn->Int->Int->ByteArray->Int->Int->Prop) (t4:ByteArray) (t5:Int) (t28:List Opn) (t29 t30:Int) (t60:zzI) (t61 t62:Int) (o8:ByteArray) (dM dL fD eY eX fC fB fA:Int):Prop:=aDk F (fun t4 t5 t28 t29 t30 t60 t61 t62 o8 dM dL fD eY eX fC fB fA=>bGe rec x0 x1 t4 t5 t28 t29 t30 t60 t61 t62 o8 dM dL fD eY eX fC fB fA) F t4 t5 t28 t29 t30 t60 t61 t62 o8 dM dL fD eY eX fC fB fA
def sD (F:Nat) (x0:ByteArray->Int->List Opn->Int->Int->ByteArray->Int->Int->Prop) (x1:ByteArray->Int->List Opn->Int->Int->ByteArray->Int->Int->Prop):Nat->ByteArray->Int->List Opn->Int->Int->ByteArray->Int->Int->Prop
 |0,_,_,_,_,_,_,_,_=>False
 |n+1,t4,t5,t28,t29,t30,o8,dM,dL=>aVR (sD F x0 x1 n) x0 x1 t4 t5 t28 t29 t30 o8 dM dL (aJx F (sD F x0 x1 n) x0 x1)
def aOV (F:Nat) (Q:ByteArray->Int->Prop) (t4:ByteArray) (t5:Int) (t28:List Opn) (t29 t30:Int) (o8:ByteArray) (dM dL:Int):Prop:=sD F (fun t4 t5 t28 t29 t30 o8 dM dL=>bGg Q t4 t5 t28 t29 t30 o8 dM dL) (fun t4 t5 t28 t29 t30 o8 dM dL=>bGf Q t4 t5 t28 t29 t30 o8 dM dL) F t4 t5 t28 t29 t30 o8 dM dL
def aIP (F:Nat) (ops:List Opn) (Q:ByteArray->Int->Prop):Prop:=aL0 ops Q (aOV F Q)
def uM (b:ByteArray) (n:Int):ByteArray:=b++(ByteArray.mk #[32]++kO n)
def bJQ (o:Opn):Bool:=aBG o.Kind o.X o.Y o.W o.H o.N
def aBQ (o:Opn):Bool:=k6 o.Kind o.X o.Y o.W o.H o.N
def aA0 (o:Opn) (x y:Int):Int×Int:=vF o.Kind o.X o.Y o.W o.H o.N x y
def aGf (ks:zzI) (o:Opn):Bool:=((!(iS ks o.Kind))||(!(bJQ o)))||(!(aBQ o))
def aCX (ks:zzI) (wl:List (Int×ByteArray)) (wr:Opn->Int->Int->zzI):List Opn->ByteArray->Int->Int->ByteArray×Int
 |[],b,_,_=>(b,0)
 |o::l,b,x,y=>bif aGf ks o then (ByteArray.mk #[],16) else aCX ks wl wr l ((wr o x y).foldl uM (b++gY wl o.Kind)++ByteArray.mk #[10]) (aA0 o x y).1 (aA0 o x y).2
def jZ (n:Int):Prop:= -9223372036854775808<=n/\n<=9223372036854775807
theorem aTL {n:Int} (h:jZ n):(kO n).size<=21:=by
 have:=Lib.itoa_length_le n h.1 h.2;unfold kO;show (Lib.itoa n).toArray.size<=21;simpa using this
theorem aNF (n:Int):((ByteArray.mk #[32])++kO n).size=1+(kO n).size:=by
 rw[ByteArray.size_append];rfl
theorem bGt (l:zzI) (hl4:l.length<=1000) (hr:∀n∈l,jZ n) (V:Nat->Int->ByteArray->Prop) (X:Int->ByteArray->Prop)
  (hs:∀n i b,V (n+1) i b=cond (decide (i<(l.length:Int))) ((0<=i/\i<l.length)/\(((-9223372036854775808<=l.getD i.toNat default/\l.getD i.toNat default<=9223372036854775807)/\((((ByteArray.mk #[32]).size:Int)+(kO (l.getD i.toNat default)).size<=9223372036854775807)/\(1<=((ByteArray.mk #[32])++(kO (l.getD i.toNat default))).size/\b.size+((ByteArray.mk #[32])++(kO (l.getD i.toNat default))).size<=140737488355328)))/\V n (aC (i+1)) (b++((ByteArray.mk #[32])++(kO (l.getD i.toNat default)))))) (X i b)):
  ∀(n i:Nat) (b:ByteArray),i<=l.length->l.length<n+i->b.size<=2000000+100*i->X l.length ((l.drop i).foldl uM b)->V n i b:=by
 intro n
 induction n with
 |zero=>intro i b h1 h2;omega
 |succ n ih=>
  intro i b h1 h2 hb hX;rw[hs]
  by_cases h:i<l.length
  ·rw[aW (show (i:Int)<l.length by omega),cond_true,Int.toNat_natCast,bX h (by omega)];rw[iJ l i h,List.foldl_cons] at hX;have he:jZ (l.getD i default):=hr _ (by rw[List.getD_eq_getElem?_getD,List.getElem?_eq_getElem h];exact List.getElem_mem h);generalize l.getD i default=e at hX he ⊢;have hsz:=aTL he;have hsp:=aNF e;have h32:(ByteArray.mk #[32]).size=1:=rfl;refine⟨⟨by omega,by omega⟩,⟨he,by omega,by omega,by omega⟩,?_⟩;refine ih (i+1) _ (by omega) (by omega) ?_ hX;rw[ByteArray.size_append];omega
  ·have e:i=l.length:=by omega
   subst e;rw[bD (by omega),cond_false];rw[List.drop_length] at hX;exact hX
theorem aIB:∀(l:zzI) (b:ByteArray),(∀n∈l,jZ n)->(l.foldl uM b).size<=b.size+22*l.length
 |[],b,_=>by simp
 |n::l,b,h=>by
  rw[List.foldl_cons];have h1:=aIB l (uM b n) (fun m hm=>h m (by simp[hm]));have h2:=aTL (h n (by simp));have h3:(uM b n).size=b.size+(1+(kO n).size):=by
   unfold uM;rw[ByteArray.size_append,aNF]
  rw[List.length_cons];omega
theorem bGs (ks:zzI) (wl:List (Int×ByteArray)) (wr:Opn->Int->Int->zzI) (hw:∀k,iS ks k=true->1<=(gY wl k).size/\(gY wl k).size<=10) (hn:∀o x y,aBQ o=true->(wr o x y).length<=4/\∀n∈wr o x y,jZ n)
  (l:List Opn) (hl:l.length<=4000) (Q:ByteArray->Int->Prop) (X0 X1:Int->ByteArray->Int->Int->Prop) (W:Nat->Int->ByteArray->Int->Int->Prop) (I:Nat->Int->Opn->zzI->ByteArray->Int->Int->Prop)
  (hs:∀n i b x y,W (n+1) i b x y=cond (decide (i<(l.length:Int))) ((0<=i/\i<l.length)/\cond (aGf ks (l.getD i.toNat default)) (X0 i b x y) ((1<=(gY wl (l.getD i.toNat default).Kind).size/\b.size+(gY wl (l.getD i.toNat default).Kind).size<=140737488355328)/\I n i (l.getD i.toNat default) (wr (l.getD i.toNat default) x y) (b++gY wl (l.getD i.toNat default).Kind) x y)) (X1 i b x y))
  (hI:∀n i o nums b x y,nums.length<=4->(∀n∈nums,jZ n)->b.size<=2000000->W n (aC (i+1)) (nums.foldl uM b++ByteArray.mk #[10]) (aA0 o x y).1 (aA0 o x y).2->I n i o nums b x y)
  (hX0:∀i b x y,Q (ByteArray.mk #[]) 16->X0 i b x y) (hX1:∀i b x y,Q b 0->X1 i b x y):
  ∀(n i:Nat) (b:ByteArray) (x y:Int),i<=l.length->l.length<n+i->b.size<=200*i->Q (aCX ks wl wr (l.drop i) b x y).1 (aCX ks wl wr (l.drop i) b x y).2->W n i b x y:=by
 intro n
 induction n with
 |zero=>intro i b x y h1 h2;omega
 |succ n ih=>
  intro i b x y h1 h2 hb hQ;rw[hs]
  by_cases h:i<l.length
  ·rw[aW (show (i:Int)<l.length by omega),cond_true,Int.toNat_natCast];rw[iJ l i h] at hQ;generalize l.getD i default=o at hQ ⊢;refine⟨⟨by omega,by omega⟩,?_⟩;unfold aCX at hQ;cases hbad:aGf ks o with
   |true=>
    rw[hbad] at hQ;exact hX0 _ _ _ _ hQ
   |false=>
    rw[hbad,cond_false] at hQ;rw[cond_false];unfold aGf at hbad;simp only[Bool.or_eq_false_iff,Bool.not_eq_false'] at hbad;obtain⟨⟨k1,k2⟩,k3⟩:=hbad;obtain⟨q1,q2⟩:=hw _ k1;obtain⟨r1,r2⟩:=hn o x y k3;have hbs:(b++gY wl o.Kind).size=b.size+(gY wl o.Kind).size:=ByteArray.size_append ..;refine⟨⟨q1,by omega⟩,hI _ _ _ _ _ _ _ r1 r2 (by omega) ?_⟩;rw[bX h (by omega)];refine ih (i+1) _ _ _ (by omega) (by omega) ?_ hQ;have h10:(ByteArray.mk #[10]).size=1:=rfl;have:=aIB (wr o x y) (b++gY wl o.Kind) r2;rw[ByteArray.size_append];omega
  ·have e:i=l.length:=by omega
   subst e;rw[bD (by omega),cond_false];rw[List.drop_length] at hQ;exact hX1 _ _ _ _ hQ
theorem aCN {n:Int} (h:inR n=true):jZ n:=by
 unfold inR at h;simp only[Bool.not_eq_true',Bool.or_eq_false_iff,decide_eq_false_iff_not] at h;unfold jZ;omega
theorem bAi {o:Opn} (h:aBQ o=true):jZ o.X/\jZ o.Y/\jZ o.W/\jZ o.H/\jZ o.N:=by
 unfold aBQ k6 at h;simp only[List.all_cons,List.all_nil,Bool.and_true,Bool.and_eq_true] at h;exact⟨aCN h.1,aCN h.2.1,aCN h.2.2.1,aCN h.2.2.2.1,aCN h.2.2.2.2⟩
theorem aIQ (n:Int):jZ (aC n):=by
 have e:aC n=(n+9223372036854775808) % 18446744073709551616-9223372036854775808:=by
  simp only[aC,IntKind.wrap,IntKind.bits,IntKind.signed];simp;split<;>omega
 rw[e];unfold jZ;omega
def wr2 (o:Opn) (x y:Int):zzI:=vE o.Kind o.X o.Y o.W o.H o.N x y
theorem aXp (o:Opn) (x y:Int) (h:aBQ o=true):(wr2 o x y).length<=4/\∀n∈wr2 o x y,jZ n:=by
 obtain⟨r1,r2,r3,r4,r5⟩:=bAi h;unfold wr2 vE;cases o.Kind==3
 ·refine⟨by simp,fun n hn=>?_⟩;simp only[cond_false,List.mem_cons,List.not_mem_nil,or_false] at hn;rcases hn with rfl|rfl<;>exact aIQ _
 ·refine⟨by simp,fun n hn=>?_⟩;simp only[cond_true,List.cons_append,List.nil_append,List.mem_cons,List.not_mem_nil,or_false] at hn;rcases hn with rfl|rfl|rfl|rfl
  ·exact aIQ _
  ·exact aIQ _
  ·exact r3
  ·exact r4
theorem bBh (k x y w h n a b:Int):vX k x y w h n a b:=by
 unfold vX;cases k==3
 ·trivial
 ·show (2+2)*8<=140737488355328;decide
theorem bGI {ks:zzI} {k:Int} (h:iS ks k=true):k∈ks:=by
 induction ks with
 |nil=>cases h
 |cons a l ih=>
  unfold iS at h;cases hb:k==a with
  |true=>exact List.mem_cons.2 (.inl (by simpa using hb))
  |false=>
   rw[hb] at h;exact List.mem_cons.2 (.inr (ih h))
theorem aXr (k:Int) (h:iS [1,2,4,3] k=true):1<=(gY lJ k).size/\(gY lJ k).size<=10:=by
 have:=bGI h;simp only[List.mem_cons,List.not_mem_nil,or_false] at this;rcases this with rfl|rfl|rfl|rfl<;>decide
def aJM (ops:List Opn):Prop:=True
def vI (ops:List Opn):ByteArray×Int:=cond (decide (4000<(ops.length:Int))) (ByteArray.mk #[],4) (aCX [1,2,4,3] lJ wr2 ops ByteArray.empty 0 0)
theorem bDH (ops:List Opn) (h:aJM ops):∃F,∀Q:ByteArray->Int->Prop,Q ((vI ops).1) ((vI ops).2)->aIP F ops Q:=by
 refine⟨4001,fun Q hQ=>?_⟩;unfold vI at hQ;unfold aIP aL0
 by_cases hl:4000<(ops.length:Int)
 ·rw[aW hl] at hQ ⊢;exact hQ
 ·rw[bD hl] at hQ ⊢;simp only[cond_false] at hQ ⊢;show sD 4001 (fun t4 t5 t28 t29 t30 o8 dM dL=>Q t4 t5) (fun t4 t5 t28 t29 t30 o8 dM dL=>Q o8 0) 4001 (ByteArray.mk #[]) 0 ops (ops.length:Int) ((0:Nat):Int) ByteArray.empty 0 0;refine bGs [1,2,4,3] lJ wr2 aXr aXp ops (by omega) Q (fun i b x y=>Q (ByteArray.mk #[]) 16) (fun i b x y=>Q b 0) (fun n i b x y=>sD 4001 (fun t4 t5 t28 t29 t30 o8 dM dL=>Q t4 t5) (fun t4 t5 t28 t29 t30 o8 dM dL=>Q o8 0) n (ByteArray.mk #[]) 0 ops (ops.length:Int) i b x y)
   (fun n i o nums b x y=>vX o.Kind o.X o.Y o.W o.H o.N x y/\aJx 4001 (sD 4001 (fun t4 t5 t28 t29 t30 o8 dM dL=>Q t4 t5) (fun t4 t5 t28 t29 t30 o8 dM dL=>Q o8 0) n) (fun t4 t5 t28 t29 t30 o8 dM dL=>Q t4 t5) (fun t4 t5 t28 t29 t30 o8 dM dL=>Q o8 0) (ByteArray.mk #[]) 0 ops (ops.length:Int) i nums (nums.length:Int) 0 b x y o.Kind o.X o.Y o.W o.H o.N)
   (fun n i b x y=>rfl) (fun n i o nums b x y h4 hr hb hW=>?_) (fun i b x y q=>q) (fun i b x y q=>q) 4001 0 ByteArray.empty 0 0 (by omega) (by omega) (by decide) ?_
  ·refine⟨bBh _ _ _ _ _ _ _ _,?_⟩;refine bGt nums (by omega) hr (fun n' j b'=>aDk 4001 _ n' (ByteArray.mk #[]) 0 ops (ops.length:Int) i nums (nums.length:Int) j b' x y o.Kind o.X o.Y o.W o.H o.N) (fun j b'=>(1<=(ByteArray.mk #[10]).size/\b'.size+(ByteArray.mk #[10]).size<=140737488355328)/\sD 4001 (fun t4 t5 t28 t29 t30 o8 dM dL=>Q t4 t5) (fun t4 t5 t28 t29 t30 o8 dM dL=>Q o8 0) n (ByteArray.mk #[]) 0 ops (ops.length:Int) (aC (i+1)) (b'++ByteArray.mk #[10]) (aA0 o x y).1 (aA0 o x y).2) (fun n' j b'=>rfl) 4001 0 b (by omega) (by omega) (by omega) ?_;have h10:(ByteArray.mk #[10]).size=1:=rfl;have:=aIB nums b hr;exact⟨⟨by omega,by rw[List.drop_zero];omega⟩,hW⟩
  ·rw[List.drop_zero];exact hQ
def aWx:Nat->Nat->Nat->Canon UU:=fun o b r=>⟨[],[],[],[],[]⟩
def aVD  (Q:Bool->Prop):Prop:=(let r0:=(vI ([(Opn.mk 1 105 105 0 0 0),(Opn.mk 1 100 100 0 0 0),(Opn.mk 2 110 100 0 0 0)]));((aJM ([(Opn.mk 1 105 105 0 0 0),(Opn.mk 1 100 100 0 0 0),(Opn.mk 2 110 100 0 0 0)]))/\(let r1:=(gR (ByteArray.mk #[115]) (ByteArray.mk #[115,116,101,101,108]) 1 0 9 9 ([]) ([]) ([(Opn.mk 2 4 0 0 0 0)]));((aEX (ByteArray.mk #[115]) (ByteArray.mk #[115,116,101,101,108]) 1 0 9 9 ([]) ([]) ([(Opn.mk 2 4 0 0 0 0)]))/\((((((r0.2==0)&&(r0.1==(ByteArray.mk #[109,32,49,48,53,32,49,48,53,10,109,32,45,53,32,45,53,10,108,32,49,48,32,48,10])))&&(r1.2.2==0))&&((r1.1.length:Int)==1))=true->0<=(0:Int)/\(0:Int)<r1.1.length)/\Q (((((r0.2==0)&&(r0.1==(ByteArray.mk #[109,32,49,48,53,32,49,48,53,10,109,32,45,53,32,45,53,10,108,32,49,48,32,48,10])))&&(r1.2.2==0))&&((r1.1.length:Int)==1))&&((((r1.1.getD 0 default).X1)==0)&&((((r1.1.getD 0 default).Y1)==0)&&((((r1.1.getD 0 default).X2)==4)&&((((r1.1.getD 0 default).Y2)==0)&&true))))))))))
def aIM (F:Nat)  (Q:Bool->Prop):Prop:=aVD  Q
def aDx:Bool:=true
theorem bF4:gR (ByteArray.mk #[115]) (ByteArray.mk #[115,116,101,101,108]) 1 0 9 9 ([]) ([]) ([(Opn.mk 2 4 0 0 0 0)])=([Seg.mk 0 0 4 0],[],0):=by
 kernel_rfl
theorem bF5:vI ([(Opn.mk 1 105 105 0 0 0),(Opn.mk 1 100 100 0 0 0),(Opn.mk 2 110 100 0 0 0)])=(ByteArray.mk #[109,32,49,48,53,32,49,48,53,10,109,32,45,53,32,45,53,10,108,32,49,48,32,48,10],0):=by
 kernel_rfl
theorem bDB:∃F,∀Q:Bool->Prop,Q aDx->aIM F  Q:=by
 refine⟨0,fun Q hQ=>?_⟩;unfold aIM aVD;dsimp only;rw[bF4,bF5];exact⟨trivial,trivial,fun _=>by decide,hQ⟩
def vD (qa qb:ByteArray) (qc qd qf qg:Int) (qh qi:List aA) (qr qq qu qs:Int):Bool:=cond ((!(iC qa qb qc qd qf qg qh qi qr qq))||(!(iC qa qb qc qd qf qg qh qi qu qs))) (false) ((((qq==qs)&&(decide (qr<qu)))||((qr==qu)&&(decide (qq<qs)))))
def pH (qa qb:ByteArray) (qc qd qf qg:Int) (qh qi:List aA) (a1 a2:Int):Bool:=((((decide (0<=a1))&&(decide (0<=a2)))&&(decide (a1<=qf)))&&(decide (a2<=qg)))
def aBW (a0 a1:Int):Prop:=(0<=(32:Int))/\(0<=(32:Int))/\(0<=(32:Int))/\(0<=(32:Int))/\(0<=(32:Int))
def mG (a0 a1:Int):Int×Int:=(IntKind.u64.wrap ((IntKind.u64.wrap ((IntKind.u64.wrap ((Int.fdiv a0 (2^(min 32 64)))*(Int.fdiv a1 (2^(min 32 64)))))+(Int.fdiv (IntKind.u64.wrap ((IntKind.u64.wrap ((Int.fdiv a0 (2^(min 32 64)))*(gP .u64 a1 4294967295)))+(Int.fdiv (IntKind.u64.wrap ((gP .u64 a0 4294967295)*(gP .u64 a1 4294967295))) (2^(min 32 64))))) (2^(min 32 64)))))+(Int.fdiv (IntKind.u64.wrap ((gP .u64 (IntKind.u64.wrap ((IntKind.u64.wrap ((Int.fdiv a0 (2^(min 32 64)))*(gP .u64 a1 4294967295)))+(Int.fdiv (IntKind.u64.wrap ((gP .u64 a0 4294967295)*(gP .u64 a1 4294967295))) (2^(min 32 64))))) 4294967295)+(IntKind.u64.wrap ((gP .u64 a0 4294967295)*(Int.fdiv a1 (2^(min 32 64))))))) (2^(min 32 64)))),IntKind.u64.wrap (a0*a1))
def aE3 (a0 a1:Int):Prop:=(aBW a0 a1)
def oD (a0 a1:Int):Int×Int:=((mG a0 a1).1,(mG a0 a1).2)
def aEF (a0:Int):Bool:=a0 !=a0
def aEG (a0 a1:Int):Bool:=(((aEF a0)&&(!(aEF a1)))||(decide (a0<a1)))
def l9 (a0:Int):Bool:=a0 !=a0
def kJ (a0 a1:ByteArray) (a2 a3:Int):Int:=cond ((!(vn a0))||(!(vn a1))) (2) (cond ((((decide (a2<1))||(decide (60<a2)))||(decide (a3<0)))||(decide (2<a3))) (1) (0))
def yV:Nat->Nat->Nat->Canon UU:=fun o b r=>cond (Nat.beq b 0) ⟨[0,2,3],[],[],[],[]⟩ (⟨[],[],[],[],[]⟩)
def aT7 (a0:List aA) (Q:Bool->Prop) (i0:List aA->Bool->Int->Prop):Prop:=i0 a0 false 0
def aT6 (rec:List aA->Bool->Int->Prop) (x0:List aA->Bool->Int->Prop) (x1:List aA->Bool->Int->Prop) (t0:List aA) (t2:Bool) (t3:Int):Prop:=cond (decide (t3<(t0.length:Int))) ((let e0:=(t0.getD t3.toNat default);((0<=t3/\t3<t0.length)/\cond (!(gK e0.X e0.Y e0.W e0.H)) (x0 t0 false t3) (rec t0 t2 (aC (t3+1)))))) (x1 t0 t2 t3)
def bGW (Q:Bool->Prop) (t0:List aA) (t2:Bool) (t3:Int):Prop:=Q t2
def bGV (Q:Bool->Prop) (t0:List aA) (t2:Bool) (t3:Int):Prop:=Q true
def aA9 (F:Nat) (x0:List aA->Bool->Int->Prop) (x1:List aA->Bool->Int->Prop):Nat->List aA->Bool->Int->Prop
 |0,_,_,_=>False
 |n+1,t0,t2,t3=>aT6 (aA9 F x0 x1 n) x0 x1 t0 t2 t3
def aNs (F:Nat) (Q:Bool->Prop) (t0:List aA) (t2:Bool) (t3:Int):Prop:=aA9 F (fun t0 t2 t3=>bGW Q t0 t2 t3) (fun t0 t2 t3=>bGV Q t0 t2 t3) F t0 t2 t3
def aM0 (F:Nat) (a0:List aA) (Q:Bool->Prop):Prop:=aT7 a0 Q (aNs F Q)
def yW:Nat->Nat->Nat->Canon UU:=fun o b r=>cond (Nat.beq b 0) ⟨[1,2,4,5],[2],[],[],[]⟩ (⟨[],[],[],[],[]⟩)
def aT9 (qa qb:ByteArray) (qc qd qf qg:Int) (qh qi a1:List aA) (Q:Bool->Prop) (i0:List aA->Bool->Int->ByteArray->ByteArray->Int->Int->Int->Int->List aA->List aA->Prop):Prop:=i0 a1 false 0 qa qb qc qd qf qg qh qi
def aT8 (rec:List aA->Bool->Int->ByteArray->ByteArray->Int->Int->Int->Int->List aA->List aA->Prop) (x0:List aA->Bool->Int->ByteArray->ByteArray->Int->Int->Int->Int->List aA->List aA->Prop) (x1:List aA->Bool->Int->ByteArray->ByteArray->Int->Int->Int->Int->List aA->List aA->Prop) (t1:List aA) (t4:Bool) (t5:Int) (aS aR:ByteArray) (aU aT bB bA:Int) (aZ bE:List aA):Prop:=cond (decide (t5<(t1.length:Int))) ((let e0:=(t1.getD t5.toNat default);((0<=t5/\t5<t1.length)/\(let r1:=(lN e0.X e0.Y e0.W e0.H 0 0 bB bA);cond (!r1) (x0 t1 false t5 aS aR aU aT bB bA aZ bE) (rec t1 t4 (aC (t5+1)) aS aR aU aT bB bA aZ bE))))) (x1 t1 t4 t5 aS aR aU aT bB bA aZ bE)
def bGY (Q:Bool->Prop) (t1:List aA) (t4:Bool) (t5:Int) (aS aR:ByteArray) (aU aT bB bA:Int) (aZ bE:List aA):Prop:=Q t4
def bGX (Q:Bool->Prop) (t1:List aA) (t4:Bool) (t5:Int) (aS aR:ByteArray) (aU aT bB bA:Int) (aZ bE:List aA):Prop:=Q true
def aAa (F:Nat) (x0:List aA->Bool->Int->ByteArray->ByteArray->Int->Int->Int->Int->List aA->List aA->Prop) (x1:List aA->Bool->Int->ByteArray->ByteArray->Int->Int->Int->Int->List aA->List aA->Prop):Nat->List aA->Bool->Int->ByteArray->ByteArray->Int->Int->Int->Int->List aA->List aA->Prop
 |0,_,_,_,_,_,_,_,_,_,_,_=>False
 |n+1,t1,t4,t5,aS,aR,aU,aT,bB,bA,aZ,bE=>aT8 (aAa F x0 x1 n) x0 x1 t1 t4 t5 aS aR aU aT bB bA aZ bE
def aNt (F:Nat) (Q:Bool->Prop) (t1:List aA) (t4:Bool) (t5:Int) (aS aR:ByteArray) (aU aT bB bA:Int) (aZ bE:List aA):Prop:=aAa F (fun t1 t4 t5 aS aR aU aT bB bA aZ bE=>bGY Q t1 t4 t5 aS aR aU aT bB bA aZ bE) (fun t1 t4 t5 aS aR aU aT bB bA aZ bE=>bGX Q t1 t4 t5 aS aR aU aT bB bA aZ bE) F t1 t4 t5 aS aR aU aT bB bA aZ bE
def aM1 (F:Nat) (qa qb:ByteArray) (qc qd qf qg:Int) (qh qi a1:List aA) (Q:Bool->Prop):Prop:=aT9 qa qb qc qd qf qg qh qi a1 Q (aNt F Q)
def zD:Nat->Nat->Nat->Canon UU:=fun o b r=>cond (Nat.beq b 0) ⟨[7,8],[],[(.tmp 7,48,.int)],[],[]⟩ (⟨[],[],[],[],[]⟩)
def aFr (a0:zzI) (a1:Int) (Q:zzI->Prop) (i0:Int->zzI->Prop):Prop:=cond (decide (a1<0)) (False) ((let r0:=(oD (IntKind.u64.wrap (a0.length:Int)) (IntKind.u64.wrap a1));((aE3 (IntKind.u64.wrap (a0.length:Int)) (IntKind.u64.wrap a1))/\cond ((decide (0<r0.1))||(decide (9223372036854775807<r0.2))) (False) (((0<=(aC r0.2)/\(aC r0.2)=(aC r0.2)/\(aC r0.2)*8<=140737488355328)/\(let v1:=(((min a0.length ((List.replicate ((aC r0.2).toNat) (0:Int)).length-0)):Nat):Int);i0 v1 ((List.replicate ((aC r0.2).toNat) (0:Int)).take 0++a0.take (min a0.length ((List.replicate ((aC r0.2).toNat) (0:Int)).length-0))++(List.replicate ((aC r0.2).toNat) (0:Int)).drop (0+(min a0.length ((List.replicate ((aC r0.2).toNat) (0:Int)).length-0))))))))))
def aFq (rec:Int->zzI->Prop) (x0:Int->zzI->Prop) (t8:Int) (fV:zzI):Prop:=cond (decide (t8<(fV.length:Int))) (((0<=t8/\t8<=fV.length)/\((0<=t8/\t8<=fV.length)/\(let v0:=(((min ((fV.take t8.toNat).drop 0).length (fV.length-t8.toNat)):Nat):Int);rec (aC (t8+v0)) (fV.take t8.toNat++((fV.take t8.toNat).drop 0).take (min ((fV.take t8.toNat).drop 0).length (fV.length-t8.toNat))++fV.drop (t8.toNat+(min ((fV.take t8.toNat).drop 0).length (fV.length-t8.toNat)))))))) (x0 t8 fV)
def aUa (Q:zzI->Prop) (t8:Int) (fV:zzI):Prop:=Q fV
def aAr (F:Nat) (x0:Int->zzI->Prop):Nat->Int->zzI->Prop
 |0,_,_=>False
 |n+1,t8,fV=>aFq (aAr F x0 n) x0 t8 fV
def aON (F:Nat) (Q:zzI->Prop) (t8:Int) (fV:zzI):Prop:=aAr F (fun t8 fV=>aUa Q t8 fV) F t8 fV
def aMb (F:Nat) (a0:zzI) (a1:Int) (Q:zzI->Prop):Prop:=aFr a0 a1 Q (aON F Q)
def zE:Nat->Nat->Nat->Canon UU:=fun o b r=>cond (Nat.beq b 0) ⟨[0,1,6,7,8],[],[],[],[]⟩ (⟨[],[],[],[],[]⟩)
def aUb (a0:zzI) (a1:Int) (Q:Int->Bool->Prop) (i0:zzI->Int->Int->Int->Int->Prop):Prop:=i0 a0 a1 (a0.length:Int) 0 (a0.length:Int)
def aFs (rec:zzI->Int->Int->Int->Int->Prop) (x0:zzI->Int->Int->Int->Int->Prop) (t0:zzI) (t1 t6 t7 t8:Int):Prop:=cond (decide (t7<t8)) ((let v0:=Int.fdiv (IntKind.u64.wrap (aC (t7+t8))) (2^(min 1 64));((0<=(1:Int))/\(let e1:=(t0.getD ((aC v0).toNat) default);((0<=(aC v0)/\(aC v0)<t0.length)/\cond (aEG e1 t1) (rec t0 t1 t6 (aC ((aC v0)+1)) t8) (rec t0 t1 t6 t7 (aC v0))))))) (x0 t0 t1 t6 t7 t8)
def aFt (Q:Int->Bool->Prop) (t0:zzI) (t1 t6 t7 t8:Int):Prop:=(let e0:=(t0.getD t7.toNat default);(((decide (t7<t6))=true->((0<=t7/\t7<t0.length)/\((e0==t1)=false->0<=t7/\t7<t0.length)))/\Q t7 ((decide (t7<t6))&&((e0==t1)||((l9 e0)&&(l9 t1))))))
def aD4 (F:Nat) (x0:zzI->Int->Int->Int->Int->Prop):Nat->zzI->Int->Int->Int->Int->Prop
 |0,_,_,_,_,_=>False
 |n+1,t0,t1,t6,t7,t8=>aFs (aD4 F x0 n) x0 t0 t1 t6 t7 t8
def aOO (F:Nat) (Q:Int->Bool->Prop) (t0:zzI) (t1 t6 t7 t8:Int):Prop:=aD4 F (fun t0 t1 t6 t7 t8=>aFt Q t0 t1 t6 t7 t8) F t0 t1 t6 t7 t8
def aMc (F:Nat) (a0:zzI) (a1:Int) (Q:Int->Bool->Prop):Prop:=aUb a0 a1 Q (aOO F Q)
def zO:Nat->Nat->Nat->Canon UU:=fun o b r=>cond (Nat.beq b 0) ⟨[0,1,5,6],[],[(.tmp 5,51,.int)],[],[]⟩ (⟨[],[],[],[],[]⟩)
def aUt (a0:zzI) (a1:Int) (Q:zzI->Prop) (i0:zzI->Int->Int->zzI->Prop):Prop:=i0 a0 a1 0 ([])
def aFv (rec:zzI->Int->Int->zzI->Prop) (x0:zzI->Int->Int->zzI->Prop) (t0:zzI) (t1 t6:Int) (cP:zzI):Prop:=(let e0:=(t0.getD t6.toNat default);(((decide (t6<(t0.length:Int)))=true->0<=t6/\t6<t0.length)/\cond ((decide (t6<(t0.length:Int)))&&(decide (e0<t1))) ((let e1:=(t0.getD t6.toNat default);(((0<=t6/\t6<t0.length)/\((cP.length+([e1]).length)*8<=140737488355328))/\rec t0 t1 (aC (t6+1)) (cP++([e1]))))) (x0 t0 t1 t6 cP)))
def aFw (Q:zzI->Prop) (t0:zzI) (t1 t6:Int) (cP:zzI):Prop:=(((cP.length+([t1]).length)*8<=140737488355328)/\(let e0:=(t0.getD t6.toNat default);(((decide (t6<(t0.length:Int)))=true->0<=t6/\t6<t0.length)/\cond ((decide (t6<(t0.length:Int)))&&(e0==t1)) ((((0<=(aC (t6+1))/\(aC (t6+1))<=t0.length)/\(((cP++([t1])).length+(t0.drop ((aC (t6+1)).toNat)).length)*8<=140737488355328))/\Q ((cP++([t1]))++(t0.drop ((aC (t6+1)).toNat))))) ((((0<=t6/\t6<=t0.length)/\(((cP++([t1])).length+(t0.drop t6.toNat).length)*8<=140737488355328))/\Q ((cP++([t1]))++(t0.drop t6.toNat)))))))
def aDb (F:Nat) (x0:zzI->Int->Int->zzI->Prop):Nat->zzI->Int->Int->zzI->Prop
 |0,_,_,_,_=>False
 |n+1,t0,t1,t6,cP=>aFv (aDb F x0 n) x0 t0 t1 t6 cP
def aOR (F:Nat) (Q:zzI->Prop) (t0:zzI) (t1 t6:Int) (cP:zzI):Prop:=aDb F (fun t0 t1 t6 cP=>aFw Q t0 t1 t6 cP) F t0 t1 t6 cP
def aMl (F:Nat) (a0:zzI) (a1:Int) (Q:zzI->Prop):Prop:=aUt a0 a1 Q (aOR F Q)
def zG:Nat->Nat->Nat->Canon UU:=fun o b r=>cond (Nat.beq b 0) ⟨[0,1,4,5],[],[],[],[]⟩ (⟨[],[],[],[],[]⟩)
def aUe (a0:zzI) (a1:Int) (Q:Int->Prop) (i0:zzI->Int->Int->Int->Prop):Prop:=i0 a0 a1 0 0
def aFu (rec:zzI->Int->Int->Int->Prop) (x0:zzI->Int->Int->Int->Prop) (x1:zzI->Int->Int->Int->Prop) (t0:zzI) (t1 t4 t5:Int):Prop:=cond (decide (t5<(t0.length:Int))) ((let e0:=(t0.getD t5.toNat default);((0<=t5/\t5<t0.length)/\cond (e0==t1) (x0 t0 t1 t5 t5) (rec t0 t1 t4 (aC (t5+1)))))) (x1 t0 t1 t4 t5)
def aUg (Q:Int->Prop) (t0:zzI) (t1 t4 t5:Int):Prop:=Q t4
def aUf (Q:Int->Prop) (t0:zzI) (t1 t4 t5:Int):Prop:=Q 0
def aD6 (F:Nat) (x0:zzI->Int->Int->Int->Prop) (x1:zzI->Int->Int->Int->Prop):Nat->zzI->Int->Int->Int->Prop
 |0,_,_,_,_=>False
 |n+1,t0,t1,t4,t5=>aFu (aD6 F x0 x1 n) x0 x1 t0 t1 t4 t5
def aOP (F:Nat) (Q:Int->Prop) (t0:zzI) (t1 t4 t5:Int):Prop:=aD6 F (fun t0 t1 t4 t5=>aUg Q t0 t1 t4 t5) (fun t0 t1 t4 t5=>aUf Q t0 t1 t4 t5) F t0 t1 t4 t5
def aMe (F:Nat) (a0:zzI) (a1:Int) (Q:Int->Prop):Prop:=aUe a0 a1 Q (aOP F Q)
def zX (w h:Int) (r:aA):Bool:=lN r.X r.Y r.W r.H 0 0 w h
def oG (l:List aA):Prop:=l.length<=2000000
def fY (l:List aA):Bool:=l.all aIc
def s6 (nm mt:ByteArray) (g gr w h:Int) (cl us:List aA) (l:List aA):Prop:=l.length<=2000000
def lL (nm mt:ByteArray) (g gr w h:Int) (cl us:List aA) (l:List aA):Bool:=l.all (zX w h)
theorem bC3 (a0:List aA) (h:oG a0):∃F,∀Q:Bool->Prop,Q (fY a0)->aM0 F a0 Q:=by
 refine⟨a0.length+1,fun Q hQ=>?_⟩;show aA9 _ _ _ (a0.length+1) a0 false 0;refine qK a0 aIc h (fun n i=>aA9 (a0.length+1) _ _ n a0 false i) _ _ (fun n i=>rfl) (a0.length+1) (by omega) (fun q j=>?_) (fun q=>?_)
 ·unfold fY at hQ;rw[q] at hQ;exact hQ
 ·unfold fY at hQ;rw[q] at hQ;exact hQ
theorem bC4 (qa:ByteArray) (qb:ByteArray) (qc:Int) (qd:Int) (qf:Int) (qg:Int) (qh:List aA) (qi:List aA) (a1:List aA) (h:s6 qa qb qc qd qf qg qh qi a1):
  ∃F,∀Q:Bool->Prop,Q (lL qa qb qc qd qf qg qh qi a1)->aM1 F qa qb qc qd qf qg qh qi a1 Q:=by
 refine⟨a1.length+1,fun Q hQ=>?_⟩;show aAa _ _ _ (a1.length+1) a1 false 0 _ _ _ _ _ _ _ _;refine qK a1 (zX qf qg) h (fun n i=>aAa (a1.length+1) _ _ n a1 false i _ _ _ _ _ _ _ _) _ _ (fun n i=>rfl) (a1.length+1) (by omega) (fun q j=>?_) (fun q=>?_)
 ·unfold lL at hQ;rw[q] at hQ;exact hQ
 ·unfold lL at hQ;rw[q] at hQ;exact hQ
theorem j4 {n:Int} (h0:0<=n) (h1:n<=18446744073709551615):IntKind.u64.wrap n=n:=by
 simp only[IntKind.wrap,IntKind.bits,IntKind.signed];simp;omega
theorem aMC {n:Int} (h0:0<=n) (h1:n<=4294967295):gP .u64 n 4294967295=n:=by
 obtain⟨k,rfl⟩:∃k:Nat,n=k:=⟨n.toNat,by omega⟩;unfold gP;have hb:IntKind.u64.bits=64:=rfl;have e1:(BitVec.ofInt IntKind.u64.bits (k:Int)).toNat=k:=by
  rw[hb,BitVec.toNat_ofInt];omega
 have e2:(BitVec.ofInt IntKind.u64.bits (4294967295:Int)).toNat=2^32-1:=by
  rw[hb,BitVec.toNat_ofInt];rfl
 rw[BitVec.toNat_and,e1,e2,Nat.and_two_pow_sub_one_eq_mod,Nat.mod_eq_of_lt (by omega)];exact j4 (by omega) (by omega)
theorem bEe {n:Int} (h0:0<=n) (h1:n<=2000000):oD 1 n=(0,n):=by
 have e1:gP .u64 1 4294967295=1:=aMC (by omega) (by omega);have e2:gP .u64 n 4294967295=n:=aMC h0 (by omega);have hp:(2:Int)^(min 32 64)=4294967296:=by decide
 have f1:Int.fdiv 1 4294967296=0:=by decide
 have f2:Int.fdiv n 4294967296=0:=by
  rw[Int.fdiv_eq_ediv_of_nonneg _ (by omega)];omega
 have f0:Int.fdiv 0 4294967296=0:=by decide
 have b0:gP .u64 0 4294967295=0:=aMC (by omega) (by omega);have un:=j4 h0 (show n<=18446744073709551615 by omega);have u0:IntKind.u64.wrap 0=0:=j4 (by omega) (by omega);unfold oD mG;simp only[hp,f1,f2,e1,e2,Int.zero_mul,Int.one_mul,Int.mul_zero,un,u0,Int.zero_add,f0,b0]
def aJD (l:zzI) (n:Int):Prop:=l.length=1/\0<=n/\n<=2000000
def k7 (l:zzI) (n:Int):zzI:=List.replicate n.toNat (l.getD 0 default)
theorem bCn (a0:zzI) (a1:Int) (h:aJD a0 a1):∃F,∀Q:zzI->Prop,Q (k7 a0 a1)->aMb F a0 a1 Q:=by
 obtain⟨hl,h0,h1⟩:=h;obtain⟨x,rfl⟩:=List.length_eq_one_iff.1 hl;obtain⟨N,rfl⟩:∃k:Nat,a1=k:=⟨a1.toNat,by omega⟩;have hN:N<=2000000:=by omega
 refine⟨N+2,fun Q hQ=>?_⟩;have key:∀n m:Nat,m<=N->(1<=m\/N=0)->N<n+m->aAr (N+2) (fun t8 fV=>aUa Q t8 fV) n m (List.replicate m x++List.replicate (N-m) 0):=by
  intro n
  induction n with
  |zero=>intro m h1 h2 h3;omega
  |succ n ih=>
   intro m hm h2 h3;show aFq _ _ _ _;unfold aFq;have hlen:(List.replicate m x++List.replicate (N-m) (0:Int)).length=N:=by simp;omega
   rw[hlen]
   by_cases hlt:m<N
   ·rw[aW (show (m:Int)<(N:Int) by omega),cond_true];have ht:(List.replicate m x++List.replicate (N-m) (0:Int)).take m=List.replicate m x:=by
     rw[List.take_append_of_le_length (by simp)];simp
    have e1:aC ((m:Int)+((min m (N-m):Nat):Int))=((m+min m (N-m):Nat):Int):=by rw[bQ (by omega) (by omega)];omega
    refine⟨by omega,by omega,?_⟩;simp only[Int.toNat_natCast,ht,List.drop_zero,List.length_replicate,e1];have hd:(List.replicate m x++List.replicate (N-m) (0:Int)).drop (m+min m (N-m))=List.replicate (N-(m+min m (N-m))) 0:=by
     rw[List.drop_append,List.length_replicate,List.drop_eq_nil_of_le (by simp),List.nil_append,List.drop_replicate];congr 1;omega
    rw[hd,List.take_replicate];have e2:List.replicate m x++List.replicate (min (min m (N-m)) m) x=List.replicate (m+min m (N-m)) x:=by
     rw[List.replicate_append_replicate];congr 1;omega
    rw[e2];exact ih (m+min m (N-m)) (by omega) (by omega) (by omega)
   ·rw[bD (by omega),cond_false];have e:m=N:=by omega
    subst e;show Q _;rw[Nat.sub_self];simpa[k7] using hQ
 show aFr _ _ _ _;unfold aFr;rw[bD (by omega),cond_false];have eu:IntKind.u64.wrap ((([x]:zzI).length:Nat):Int)=1:=by simpa using j4 (n:=1) (by omega) (by omega)
 rw[eu,j4 (by omega) (by omega),bEe (by omega) (by omega)];refine⟨⟨by omega,by omega,by omega,by omega,by omega⟩,?_⟩;rw[bD (show ¬(0:Int)<(0,(N:Int)).1 by simp),bD (show ¬(9223372036854775807:Int)<(0,(N:Int)).2 by simp only;omega)];simp only[Bool.or_self,cond_false];rw[bQ (by omega) (by omega)];refine⟨⟨by omega,by simp,by omega⟩,?_⟩;show aAr _ _ _ _ _;have hk:=key (N+2) (min 1 N) (by omega) (by omega) (by omega);simp only[Int.toNat_natCast,List.length_replicate,List.length_singleton,Nat.sub_zero,List.take_zero,List.nil_append,Nat.zero_add];have e3:([x]:zzI).take (min 1 N)=List.replicate (min 1 N) x:=by
  rcases Nat.eq_zero_or_pos N with rfl|hp
  ·rfl
  ·rw[show min 1 N=1 by omega];rfl
 rw[e3,List.drop_replicate];exact hk
def bO (l:zzI) (x:Int):Nat:=(l.takeWhile fun y=>decide (y<x)).length
theorem below_le (l:zzI) (x:Int):bO l x<=l.length:=by
 unfold bO;exact(List.takeWhile_sublist _).length_le
theorem aCi:∀(l:zzI) (x:Int),l.Pairwise (·<=·)->∀h,h<l.length->(l.getD h default<x↔h<bO l x)
 |[],x,_,h,hh=>by simp at hh
 |y::l,x,hs,h,hh=>by
  obtain⟨h1,h2⟩:=List.pairwise_cons.1 hs;unfold bO;rw[List.takeWhile_cons]
  by_cases hy:y<x
  ·rw[aW hy,if_pos rfl,List.length_cons];cases h with
   |zero=>simp[hy]
   |succ h=>
    have:=aCi l x h2 h (by simpa using hh);unfold bO at this;simp only[List.getD_cons_succ];rw[this];omega
  ·rw[bD hy];simp only[Bool.false_eq_true,if_false,List.length_nil,Nat.not_lt_zero,iff_false];cases h with
   |zero=>simpa using hy
   |succ h=>
    simp only[List.getD_cons_succ];have hh':h<l.length:=by simpa using hh
    have hm:l.getD h default∈l:=by
     rw[List.getD_eq_getElem?_getD,List.getElem?_eq_getElem hh',Option.getD_some];exact List.getElem_mem _
    have:=h1 _ hm;omega
def aE0 (l:zzI) (x:Int):Prop:=l.Pairwise (·<=·)/\l.length<=2000000
def sM (l:zzI) (x:Int):Int×Bool:=(bO l x,decide (bO l x<l.length)&&(l.getD (bO l x) default==x))
theorem bCo (a0:zzI) (a1:Int) (h:aE0 a0 a1):∃F,∀Q:Int->Bool->Prop,Q ((sM a0 a1).1) ((sM a0 a1).2)->aMc F a0 a1 Q:=by
 obtain⟨hs,hl⟩:=h;refine⟨a0.length+2,fun Q hQ=>?_⟩;have key:∀n i j:Nat,i<=bO a0 a1->bO a0 a1<=j->j<=a0.length->j<n+i->aD4 (a0.length+2) (fun t0 t1 t6 t7 t8=>aFt Q t0 t1 t6 t7 t8) n a0 a1 a0.length i j:=by
  intro n
  induction n with
  |zero=>intro i j h1 h2 h3 h4;omega
  |succ n ih=>
   intro i j h1 h2 h3 h4;show aFs _ _ _ _ _ _ _;unfold aFs
   by_cases hlt:i<j
   ·rw[aW (show (i:Int)<(j:Int) by omega),cond_true];have ev:Int.fdiv (IntKind.u64.wrap (aC ((i:Int)+j))) (2^(min 1 64))=(((i+j) / 2:Nat):Int):=by
     rw[bQ (by omega) (by omega),j4 (by omega) (by omega),show (2:Int)^(min 1 64)=2 by decide,Int.fdiv_eq_ediv_of_nonneg _ (by omega)];omega
    have e2:aC (((i+j) / 2:Nat):Int)=(((i+j) / 2:Nat):Int):=bQ (by omega) (by omega);simp only[ev,e2,Int.toNat_natCast];refine⟨by omega,by omega,?_⟩;have hh:(i+j) / 2<a0.length:=by omega
    have hb:=aCi a0 a1 hs _ hh;have hless:aEG (a0.getD ((i+j) / 2) default) a1=decide (a0.getD ((i+j) / 2) default<a1):=by
     unfold aEG aEF;simp
    rw[hless]
    by_cases hc:a0.getD ((i+j) / 2) default<a1
    ·rw[aW hc,cond_true,bX hh (by omega)];exact ih _ _ (by have:=hb.1 hc;omega) h2 h3 (by omega)
    ·rw[bD hc,cond_false];exact ih _ _ h1 (by have:=fun q=>hc (hb.2 q);omega) (by omega) (by omega)
   ·rw[bD (by omega),cond_false];have e:i=bO a0 a1:=by omega
    subst e;show aFt _ _ _ _ _ _;unfold aFt;simp only[Int.toNat_natCast];refine⟨fun hq=>?_,?_⟩
    ·have:=of_decide_eq_true hq;exact⟨by omega,fun _=>by omega⟩
    ·have e3:(decide (((bO a0 a1:Nat):Int)<(a0.length:Int))&&(a0.getD (bO a0 a1) default==a1||l9 (a0.getD (bO a0 a1) default)&&l9 a1))=(sM a0 a1).2:=by
      unfold l9 sM;simp
     rw[e3];exact hQ
 exact key (a0.length+2) 0 a0.length (by omega) (below_le _ _) (by omega) (by omega)
def s8 (l:zzI) (x:Int):Prop:=l.length<=2000000
def gS (l:zzI) (x:Int):zzI:=l.take (bO l x)++[x]++l.drop (if bO l x<l.length/\l.getD (bO l x) default=x then bO l x+1 else bO l x)
theorem aMB (l:zzI) (x:Int):(∀h,h<bO l x->l.getD h default<x)/\(bO l x<l.length->¬l.getD (bO l x) default<x):=by
 induction l with
 |nil=>exact⟨fun h hh=>by simp[bO] at hh,fun h=>by simp at h⟩
 |cons y l ih=>
  unfold bO;rw[List.takeWhile_cons]
  by_cases hy:y<x
  ·rw[aW hy,if_pos rfl,List.length_cons];refine⟨fun h hh=>?_,fun h=>?_⟩
   ·cases h with
    |zero=>simpa using hy
    |succ h=>
     simp only[List.getD_cons_succ];exact ih.1 h (by unfold bO;omega)
   ·simp only[List.getD_cons_succ];exact ih.2 (by unfold bO;simpa using h)
  ·rw[bD hy];simp only[Bool.false_eq_true,if_false,List.length_nil];exact⟨fun h hh=>by omega,fun _=>by simpa using hy⟩
theorem bCx (a0:zzI) (a1:Int) (h:s8 a0 a1):∃F,∀Q:zzI->Prop,Q (gS a0 a1)->aMl F a0 a1 Q:=by
 have hl:a0.length<=2000000:=h;obtain⟨bV,cA⟩:=aMB a0 a1;have hble:=below_le a0 a1;refine⟨a0.length+2,fun Q hQ=>?_⟩;have key:∀n i:Nat,i<=bO a0 a1->bO a0 a1<n+i->aDb (a0.length+2) (fun t0 t1 t6 cP=>aFw Q t0 t1 t6 cP) n a0 a1 i (a0.take i):=by
  intro n
  induction n with
  |zero=>intro i h1 h2;omega
  |succ n ih=>
   intro i h1 h2;show aFv _ _ _ _ _ _;unfold aFv;simp only[Int.toNat_natCast];refine⟨fun hq=>by have:=of_decide_eq_true hq;omega,?_⟩
   by_cases hlt:i<bO a0 a1
   ·rw[aW (show (i:Int)<(a0.length:Int) by omega),aW (bV i hlt)];simp only[Bool.and_self,cond_true];refine⟨⟨by omega,?_⟩,?_⟩
    ·simp only[List.length_take,List.length_singleton];omega
    ·rw[bX (show i<a0.length by omega) (by omega)];have e:a0.take i++[a0.getD i default]=a0.take (i+1):=by
      have hi:i<a0.length:=by omega
      rw[List.take_add_one,List.getD_eq_getElem?_getD,List.getElem?_eq_getElem hi];rfl
     rw[e];exact ih (i+1) (by omega) (by omega)
   ·have e:i=bO a0 a1:=by omega
    subst e;have hc:(decide (((bO a0 a1:Nat):Int)<(a0.length:Int))&&decide (a0.getD (bO a0 a1) default<a1))=false:=by
     by_cases hq:bO a0 a1<a0.length
     ·rw[bD (cA hq),Bool.and_false]
     ·rw[bD (by omega),Bool.false_and]
    rw[hc,cond_false];show aFw _ _ _ _ _;unfold aFw;simp only[Int.toNat_natCast];refine⟨?_,fun hq=>by have:=of_decide_eq_true hq;omega,?_⟩
    ·simp only[List.length_take,List.length_singleton];omega
    ·unfold gS at hQ
     by_cases hq:bO a0 a1<a0.length/\a0.getD (bO a0 a1) default=a1
     ·rw[if_pos hq] at hQ;rw[aW (show ((bO a0 a1:Nat):Int)<(a0.length:Int) by omega),show (a0.getD (bO a0 a1) default==a1)=true by simpa using hq.2];simp only[Bool.and_self,cond_true];rw[bX hq.1 (by omega)];refine⟨⟨by omega,?_⟩,hQ⟩;simp only[List.length_append,List.length_take,List.length_singleton,List.length_drop,Int.toNat_natCast];omega
     ·rw[if_neg hq] at hQ;have qE:(decide (((bO a0 a1:Nat):Int)<(a0.length:Int))&&(a0.getD (bO a0 a1) default==a1))=false:=by
       by_cases hq2:bO a0 a1<a0.length
       ·have:(a0.getD (bO a0 a1) default==a1)=false:=beq_eq_false_iff_ne.2 fun e=>hq ⟨hq2,e⟩
        rw[this,Bool.and_false]
       ·rw[bD (by omega),Bool.false_and]
      rw[qE,cond_false];refine⟨⟨by omega,?_⟩,hQ⟩;simp only[List.length_append,List.length_take,List.length_singleton,List.length_drop];omega
 exact key (a0.length+2) 0 (by omega) (by omega)
def sW (l:zzI) (x:Int):Prop:=l.length<=2000000
def mF (l:zzI) (x:Int):Int:=((l.findIdx? (·==x)).getD 0:Nat)
theorem bCq (a0:zzI) (a1:Int) (h:sW a0 a1):∃F,∀Q:Int->Prop,Q (mF a0 a1)->aMe F a0 a1 Q:=by
 have hl:a0.length<=2000000:=h;refine⟨a0.length+2,fun Q hQ=>?_⟩;have key:∀n i:Nat,i<=a0.length->a0.length<n+i->(∀k,k<i->a0.getD k default≠a1)->aD6 (a0.length+2) (fun t0 t1 t4 t5=>aUg Q t0 t1 t4 t5) (fun t0 t1 t4 t5=>aUf Q t0 t1 t4 t5) n a0 a1 0 i:=by
  intro n
  induction n with
  |zero=>intro i h1 h2;omega
  |succ n ih=>
   intro i h1 h2 h3;show aFu _ _ _ _ _ _ _;unfold aFu
   by_cases hlt:i<a0.length
   ·rw[aW (show (i:Int)<(a0.length:Int) by omega),cond_true];simp only[Int.toNat_natCast];refine⟨by omega,?_⟩;have gi:∀k (hk:k<a0.length),a0.getD k default=a0[k]:=fun k hk=>by simp[hk]
    by_cases hq:a0.getD i default=a1
    ·rw[show (a0.getD i default==a1)=true by simpa using hq,cond_true];show Q _;have:a0.findIdx? (·==a1)=some i:=by
      rw[List.findIdx?_eq_some_iff_getElem];refine⟨hlt,by rw[<- gi i hlt];simpa using hq,fun j hj=>?_⟩;rw[<- gi j (by omega)];simpa using h3 j hj
     unfold mF at hQ;rw[this] at hQ;exact hQ
    ·rw[show (a0.getD i default==a1)=false by simpa using hq,cond_false,bX hlt (by omega)];refine ih (i+1) (by omega) (by omega) fun k hk=>?_
     by_cases hki:k=i
     ·rw[hki];exact hq
     ·exact h3 k (by omega)
   ·rw[bD (by omega),cond_false];show Q 0;have:a0.findIdx? (·==a1)=none:=by
     rw[List.findIdx?_eq_none_iff];intro x hx;obtain⟨k,hk,rfl⟩:=List.getElem_of_mem hx;have:=h3 k (by omega);simp only[List.getD_eq_getElem?_getD,List.getElem?_eq_getElem hk,Option.getD_some] at this;simpa using this
    unfold mF at hQ;rw[this] at hQ;exact hQ
 exact key (a0.length+2) 0 (by omega) (by omega) (fun k hk=>by omega)
def pS (qa qb:ByteArray) (qc qd qf qg:Int) (qh qi:List aA):Prop:=(cond ((kJ qa qb qc qd) !=0) (True) ((cond ((((decide (qf<1))||(decide (1048576<qf)))||(decide (qg<1)))||(decide (1048576<qg))) (True) ((cond ((decide (4<(qh.length:Int)))||(decide (48<(qi.length:Int)))) (True) ((oG qh)/\((!(fY qh))=false->oG qi)/\(cond ((!(fY qh))||(!(fY qi))) (True) ((s6 qa qb qc qd qf qg qh qi qh)/\((!(lL qa qb qc qd qf qg qh qi qh))=false->s6 qa qb qc qd qf qg qh qi qi)))))))))
def iB (qa qb:ByteArray) (qc qd qf qg:Int) (qh qi:List aA):Int:=cond ((kJ qa qb qc qd) !=0) ((kJ qa qb qc qd)) (cond ((((decide (qf<1))||(decide (1048576<qf)))||(decide (qg<1)))||(decide (1048576<qg))) (1) (cond ((decide (4<(qh.length:Int)))||(decide (48<(qi.length:Int)))) (4) (cond ((!(fY qh))||(!(fY qi))) (1) (cond ((!(lL qa qb qc qd qf qg qh qi qh))||(!(lL qa qb qc qd qf qg qh qi qi))) (13) (0)))))
end
end Go.Proofs.YtjjbojomlfgjlaaGreatDoor
namespace Go.Proofs
open Go.Shelf
def Tryz.bFU:Go.Shelf.Ren:=⟨fun|189=>176|125=>172|257=>216|128=>211|129=>212|294=>243|295=>244|296=>245|297=>246|298=>247|299=>248|216=>178|300=>249|301=>250|328=>262|329=>239|330=>240|331=>263|332=>264|215=>186|343=>268|n=>n,fun|28=>45|3=>3|46=>247|0=>0|51=>292|53=>264|4=>4|183=>286|182=>285|131=>197|5=>5|9=>9|218=>308|222=>312|228=>322|229=>71|n=>n,fun|n=>n⟩
theorem Tryz.aRc:Go.Proofs.Lays.n189 Tryz.prog Tryz.bFU:={
 mixed:=by kernel_rfl
 f125:=Tryz.func172.trans (congrArg some (by kernel_rfl))
 f128:=Tryz.func211.trans (congrArg some (by kernel_rfl))
 f129:=Tryz.func212.trans (congrArg some (by kernel_rfl))
 f189:=Tryz.func176.trans (congrArg some (by kernel_rfl))
 f215:=Tryz.func186.trans (congrArg some (by kernel_rfl))
 f216:=Tryz.func178.trans (congrArg some (by kernel_rfl))
 f257:=Tryz.func216.trans (congrArg some (by kernel_rfl))
 f294:=Tryz.func243.trans (congrArg some (by kernel_rfl))
 f295:=Tryz.func244.trans (congrArg some (by kernel_rfl))
 f296:=Tryz.func245.trans (congrArg some (by kernel_rfl))
 f297:=Tryz.func246.trans (congrArg some (by kernel_rfl))
 f298:=Tryz.func247.trans (congrArg some (by kernel_rfl))
 f299:=Tryz.func248.trans (congrArg some (by kernel_rfl))
 f300:=Tryz.func249.trans (congrArg some (by kernel_rfl))
 f301:=Tryz.func250.trans (congrArg some (by kernel_rfl))
 f328:=Tryz.func262.trans (congrArg some (by kernel_rfl))
 f329:=Tryz.func239.trans (congrArg some (by kernel_rfl))
 f330:=Tryz.func240.trans (congrArg some (by kernel_rfl))
 f331:=Tryz.func263.trans (congrArg some (by kernel_rfl))
 f332:=Tryz.func264.trans (congrArg some (by kernel_rfl))
 f343:=Tryz.func268.trans (congrArg some (by kernel_rfl))
 t0:=Tryz.underlying0
 a0:=Tryz.isAgg0
 z0:=Tryz.sizeOf0
 v0:=Tryz.zeroValue0
 t3:=Tryz.underlying3
 a3:=Tryz.isAgg3
 z3:=Tryz.sizeOf3
 v3:=Tryz.zeroValue3
 t4:=Tryz.underlying4
 a4:=Tryz.isAgg4
 z4:=Tryz.sizeOf4
 v4:=Tryz.zeroValue4
 t5:=Tryz.underlying5
 a5:=Tryz.isAgg5
 z5:=Tryz.sizeOf5
 v5:=Tryz.zeroValue5
 t9:=Tryz.underlying9
 a9:=Tryz.isAgg9
 z9:=Tryz.sizeOf9
 v9:=Tryz.zeroValue9
 t28:=Tryz.underlying45
 a28:=Tryz.isAgg45
 z28:=Tryz.sizeOf45
 v28:=Tryz.zeroValue45
 t46:=Tryz.underlying247
 a46:=Tryz.isAgg247
 z46:=Tryz.sizeOf247
 v46:=Tryz.zeroValue247
 t51:=Tryz.underlying292
 a51:=Tryz.isAgg292
 z51:=Tryz.sizeOf292
 v51:=Tryz.zeroValue292
 t53:=Tryz.underlying264
 a53:=Tryz.isAgg264
 z53:=Tryz.sizeOf264
 v53:=Tryz.zeroValue264
 t131:=Tryz.underlying197
 a131:=Tryz.isAgg197
 z131:=Tryz.sizeOf197
 v131:=Tryz.zeroValue197
 t182:=Tryz.underlying285
 a182:=Tryz.isAgg285
 z182:=Tryz.sizeOf285
 v182:=Tryz.zeroValue285
 t183:=Tryz.underlying286
 a183:=Tryz.isAgg286
 z183:=Tryz.sizeOf286
 v183:=Tryz.zeroValue286
 t218:=Tryz.underlying308
 a218:=Tryz.isAgg308
 z218:=Tryz.sizeOf308
 v218:=Tryz.zeroValue308
 t222:=Tryz.underlying312
 a222:=Tryz.isAgg312
 z222:=Tryz.sizeOf312
 v222:=Tryz.zeroValue312
 t228:=Tryz.underlying322
 a228:=Tryz.isAgg322
 z228:=Tryz.sizeOf322
 v228:=Tryz.zeroValue322
 t229:=Tryz.underlying71
 a229:=Tryz.isAgg71
 z229:=Tryz.sizeOf71
 v229:=Tryz.zeroValue71}
open Go.Sort Go.RowKit in
theorem Tryz.slices_Sort_int (blk off cap:Nat) (zs:List Int) (w:World) (hH:Holds (Value.int .i64) w blk off zs.toArray) (hblk:blk<w.heap.size) (hsz:zs.length<4611686018427387904):
  Calls Tryz.prog 176 #[.slice (some ⟨blk,off,none⟩) zs.length cap] w fun e w'=>
   e=.returned (.tuple #[])/\∃n os,w'=grow (putRow (Value.int .i64) (Sort.ahead w n) blk off (zs.mergeSort fun x y=>decide (x<=y)).toArray) os:=Any.slices_Sort_int Tryz.aRc blk off cap zs w hH hblk hsz
def Tryz.bFP:Go.Shelf.Ren:=⟨fun|20=>149|n=>n,fun|22=>45|3=>3|4=>4|0=>0|n=>n,fun|n=>n⟩
theorem Tryz.aRb:Go.Proofs.Lays2.n20 Tryz.prog Tryz.bFP:={
 mixed:=by kernel_rfl
 f20:=Tryz.func149.trans (congrArg some (by kernel_rfl))
 t0:=Tryz.underlying0
 a0:=Tryz.isAgg0
 z0:=Tryz.sizeOf0
 v0:=Tryz.zeroValue0
 t3:=Tryz.underlying3
 a3:=Tryz.isAgg3
 z3:=Tryz.sizeOf3
 v3:=Tryz.zeroValue3
 t4:=Tryz.underlying4
 a4:=Tryz.isAgg4
 z4:=Tryz.sizeOf4
 v4:=Tryz.zeroValue4
 t22:=Tryz.underlying45
 a22:=Tryz.isAgg45
 z22:=Tryz.sizeOf45
 v22:=Tryz.zeroValue45
 i3:=by kernel_rfl}
open Go.RowKit Go.Lib Go.Sort in
theorem Tryz.slices_Compact_int (blk off cap:Nat) (zs:List Int) (w:World) (hH:Holds (Value.int .i64) w blk off zs.toArray) (hsz:zs.length<=9223372036854775807) (hcap:zs.length<=cap):
  Calls Tryz.prog 149 #[.slice (some ⟨blk,off,none⟩) zs.length cap] w fun e w'=>e=.returned (.slice (some ⟨blk,off,none⟩) (Lib.compact zs).length cap)/\∃q,w'=putRow (Value.int .i64) (Sort.ahead w q) blk off (Lib.compact zs++List.replicate (zs.length-(Lib.compact zs).length) 0).toArray:=Any.slices_Compact_int Tryz.aRb blk off cap zs w hH hsz hcap
open Go.RowKit Go.Lib Go.Sort in
theorem Tryz.slices_Compact_int_empty (a:Option Addr) (cap:Nat) (w:World):
  Calls Tryz.prog 149 #[.slice a 0 cap] w fun e w'=>e=.returned (.slice a 0 cap)/\w'=w:=Any.slices_Compact_int_empty Tryz.aRb a cap w
open Go.RowKit Go.Sort in
theorem Tryz.slices_Sort_int_none (p:Option Addr) (cap:Nat) (w:World):
  Calls Tryz.prog 176 #[.slice p 0 cap] w fun e w'=>e=.returned (.tuple #[])/\w'=w:=Any.slices_Sort_int_none Tryz.aRc p cap w
end Go.Proofs
namespace Go.Proofs.YtjjbojomlfgjlaaGreatDoor
open Go.Vm Go.RowKit
set_option linter.unusedVariables false
noncomputable section
def asc (l:zzI):Prop:=l.Pairwise (· < ·)
def eH (l:zzI):zzI:=Lib.compact (l.mergeSort fun x y=>decide (x<=y))
theorem aWG:∀(a b:zzI),asc a->asc b->(∀x,x∈a↔x∈b)->a=b:=by
 intro a
 induction a with
 |nil=>
  intro b _ _ h;cases b with
  |nil=>rfl
  |cons y b=>exact absurd ((h y).2 (List.mem_cons_self ..)) (by simp)
 |cons x a ih=>
  intro b ha hb h;cases b with
  |nil=>exact absurd ((h x).1 (List.mem_cons_self ..)) (by simp)
  |cons y b=>
   have ha':=List.pairwise_cons.1 ha;have hb':=List.pairwise_cons.1 hb;have hxy:x=y:=by
    have h1:=(h x).1 (List.mem_cons_self ..);have h2:=(h y).2 (List.mem_cons_self ..);rcases List.mem_cons.1 h1 with h1|h1
    ·exact h1
    ·rcases List.mem_cons.1 h2 with h2|h2
     ·exact h2.symm
     ·have:=hb'.1 x h1;have:=ha'.1 y h2;omega
   subst hxy;congr 1;refine ih b ha'.2 hb'.2 fun z=>?_
   constructor
   ·intro hz;rcases List.mem_cons.1 ((h z).1 (List.mem_cons_of_mem _ hz)) with e|hz'
    ·have:=ha'.1 z hz;omega
    ·exact hz'
   ·intro hz;rcases List.mem_cons.1 ((h z).2 (List.mem_cons_of_mem _ hz)) with e|hz'
    ·have:=hb'.1 z hz;omega
    ·exact hz'
theorem bJI (zs:zzI) (h:zs.Pairwise (·<=·)):asc (Lib.compact zs):=by
 unfold asc Lib.compact Lib.compactUpTo;rw[List.pairwise_map];have hp:(List.range zs.length).Pairwise (· < ·):=List.pairwise_lt_range;refine List.Pairwise.imp_of_mem ?_ (hp.filter _);intro i j hi hj hij;obtain⟨hj1,lS⟩:=List.mem_filter.1 hj;have hjl:j<zs.length:=List.mem_range.1 hj1;have hk:=of_decide_eq_true lS;have e:∀k (hk:k<zs.length),zs.toArray[k]! =zs[k]:=fun k hk=>by simp[hk]
 rcases hk with rfl|hk
 ·omega
 ·rw[e j hjl,e (j-1) (by omega)] at hk;rw[e i (by omega),e j hjl];have h1:zs[j-1]<=zs[j]:=List.pairwise_iff_getElem.1 h (j-1) j (by omega) hjl (by omega);have h2:zs[i]<=zs[j-1]:=by
   by_cases hi1:i=j-1
   ·subst hi1;exact Int.le_refl _
   ·exact List.pairwise_iff_getElem.1 h i (j-1) (by omega) (by omega) (by omega)
  omega
theorem bJH (zs:zzI) (x:Int):x∈Lib.compact zs↔x∈zs:=by
 have e:∀k (hk:k<zs.length),zs.toArray[k]! =zs[k]:=fun k hk=>by simp[hk]
 unfold Lib.compact Lib.compactUpTo;rw[List.mem_map];constructor
 ·rintro ⟨i,hi,rfl⟩
  have hil:=List.mem_range.1 (List.mem_filter.1 hi).1;rw[e i hil];exact List.getElem_mem hil
 ·intro hx;obtain⟨i,hi,rfl⟩:=List.getElem_of_mem hx;have key:∀i (hi:i<zs.length),∃a∈(List.range zs.length).filter (Lib.keeps zs.toArray),zs.toArray[a]! =zs[i]:=by
   intro i
   induction i with
   |zero=>exact fun hi=>⟨0,List.mem_filter.2 ⟨List.mem_range.2 hi,by simp[Lib.keeps]⟩,e 0 hi⟩
   |succ i ih=>
    intro hi
    by_cases hk:Lib.keeps zs.toArray (i+1)=true
    ·exact⟨i+1,List.mem_filter.2 ⟨List.mem_range.2 hi,hk⟩,e _ hi⟩
    ·have hk':zs.toArray[i+1]! =zs.toArray[i]!:=by
      unfold Lib.keeps at hk;rw[decide_eq_true_eq] at hk;have:=not_or.1 hk;simpa using this.2
     obtain⟨a,h1,h2⟩:=ih (by omega);refine⟨a,h1,?_⟩;rw[h2,<- e i (by omega),<- hk',e _ hi]
  exact key i hi
theorem aND (l:zzI):asc (eH l):=by
 unfold eH;refine bJI _ ?_;have:=List.pairwise_mergeSort (le:=fun x y:Int=>decide (x<=y)) (fun a b c h1 h2=>by simp at*;omega) (fun a b=>by simp;omega) l;exact this.imp (fun h=>by simpa using h)
theorem aNC (l:zzI) (x:Int):x∈eH l↔x∈l:=by
 unfold eH;rw[bJH,List.mem_mergeSort]
theorem aDq (l:zzI):(eH l).length<=l.length:=by
 unfold eH;rw[<- List.length_mergeSort (le:=fun x y:Int=>decide (x<=y)) l];unfold Lib.compact Lib.compactUpTo;rw[List.length_map];refine Nat.le_trans (List.length_filter_le _ _) ?_;simp
def Tab (m n:Nat) (t:zzB) (f:Nat->Nat->Bool):Prop:=
 t.length=m/\(∀i,i<m->(t.getD i default).length=n)/\∀i k,i<m->k<n->(t.getD i default).getD k default=f i k
theorem Tab.congr {m n:Nat} {t:zzB} {f g:Nat->Nat->Bool} (a:Tab m n t f) (h:∀i k,i<m->k<n->f i k=g i k):Tab m n t g:=
 ⟨a.1,a.2.1,fun i k hi hk=>by rw[a.2.2 i k hi hk,h i k hi hk]⟩
theorem Tab.rep (m n:Nat):Tab m n (List.replicate m (List.replicate n false)) (fun _ _=>false):=by
 have e:∀i,i<m->(List.replicate m (List.replicate n false)).getD i default=List.replicate n false:=fun i hi=>by
  rw[List.getD_eq_getElem?_getD,List.getElem?_replicate,if_pos hi];rfl
 refine⟨by simp,fun i hi=>by rw[e i hi];simp,fun i k hi hk=>?_⟩;rw[e i hi,List.getD_eq_getElem?_getD,List.getElem?_replicate,if_pos hk];rfl
theorem Tab.set {m n:Nat} {t:zzB} {f:Nat->Nat->Bool} (a:Tab m n t f) {i k:Nat} (hi:i<m) (hk:k<n):
  Tab m n (t.set i ((t.getD i default).set k true)) (fun x y=>f x y||decide (x=i/\y=k)):=by
 obtain⟨h1,h2,h3⟩:=a;refine⟨by rw[List.length_set];exact h1,fun j hj=>?_,fun j q hj hq=>?_⟩
 ·by_cases hji:j=i
  ·subst hji;rw[aAF _ _ _ (by omega),List.length_set];exact h2 j hj
  ·rw[aAG _ _ _ _ hji];exact h2 j hj
 ·by_cases hji:j=i
  ·subst hji;rw[aAF _ _ _ (by omega)]
   by_cases hqk:q=k
   ·subst hqk;rw[aAF _ _ _ (by have:=h2 j hj;omega)];simp
   ·rw[aAG _ _ _ _ hqk,h3 j q hj hq];simp[hqk]
  ·rw[aAG _ _ _ _ hji,h3 j q hj hq];simp[hji]
def cdP (x:Option Nat):Int:=match x with
 |none=> -1
 |some j=>j
theorem aLx (x:Option Nat):cdP x<0↔x=none:=by
 cases x with
 |none=>simp[cdP]
 |some j=>simp[cdP]
def wX (c:Pl):Par:=⟨c.1,c.2⟩
def oK (oc:Prop) (o:Bool) (a b n:Int) (part:zzZ) (todo:List Par) (K:zzZ->List Par->Prop):Prop:=
 (oc/\(let v2:=((part.getD a.toNat default).getD b.toNat default);((o=true->((0<=a/\a<part.length)/\0<=b/\b<(part.getD a.toNat default).length))/\
  cond (o&&(decide (v2<0))) (((0<=a/\a<part.length)/\((0<=b/\b<(part.getD a.toNat default).length)/\(((todo.length+([(Par.mk a b)]).length)*16<=140737488355328)/\
   K (part.set a.toNat ((part.getD a.toNat default).set b.toNat n)) (todo++[(Par.mk a b)]))))) (K part todo))))
theorem aFC {w h n:Nat} {part:zzZ} {todo:List Par} {L:Pl->Option Nat} {S:List Pl} {oc:Prop} {o:Bool} {a b:Int} {K:zzZ->List Par->Prop} {l:List Pl}
  (A:Arr cdP w h part L) (hT:todo=S.map wX) (hr:free (cellsOf w h) L+S.length<=2000000) (hoc:oc)
  (hl:(o=false/\l=[])\/(o=true/\∃i j:Nat,a=i/\b=j/\i<w/\j<h/\l=[(i,j)]))
  (hk:∀part' todo' s',s'=visit n l (L,S)->Arr cdP w h part' s'.1->todo'=s'.2.map wX->free (cellsOf w h) s'.1+s'.2.length<=2000000->K part' todo'):oK oc o a b n part todo K:=by
 unfold oK;refine⟨hoc,?_⟩;rcases hl with ⟨rfl,rfl⟩|⟨rfl,i,j,rfl,rfl,hi,hj,rfl⟩
 ·refine⟨(fun q=>by cases q),?_⟩;rw[Bool.false_and,cond_false];exact hk _ _ (L,S) rfl A hT hr
 ·obtain⟨A1,A2,A3⟩:=id A;have h2:=A2 i hi;have e3:=A3 i j hi hj;rw[Int.toNat_natCast,Int.toNat_natCast];refine⟨fun _=>⟨⟨by omega,by omega⟩,by omega,by omega⟩,?_⟩;simp only[e3,Bool.true_and]
  by_cases hn:L (i,j)=none
  ·rw[aW ((aLx _).2 hn),cond_true];have hv:visit n [(i,j)] (L,S)=(upd L (i,j) n,S++[(i,j)]):=by
    show eZ n (L,S) (i,j)=_;unfold eZ;rw[if_pos hn]
   have hfr:=aL4 (n:=n) (pW.2 ⟨hi,hj⟩) hn;subst hT;refine⟨⟨by omega,by omega⟩,⟨by omega,by omega⟩,by simp only[List.length_map,List.length_singleton];omega,?_⟩;refine hk _ _ _ hv.symm ?_ ?_ ?_
   ·exact A.set hi hj
   ·rw[List.map_append];rfl
   ·simp only[List.length_append,List.length_singleton];omega
  ·rw[bD (fun q=>hn ((aLx _).1 q)),cond_false];have hv:visit n [(i,j)] (L,S)=(L,S):=by
    show eZ n (L,S) (i,j)=_;unfold eZ;rw[if_neg hn]
   exact hk _ _ _ hv.symm A hT hr
def nxG (c:Bool) (r1 r2:Prop) (b:Bool) (x:Cel) (nx:List Cel) (K:List Cel->Prop):Prop:=
 cond c (r1/\(r2/\cond (!b) (((nx.length+[x].length)*16<=140737488355328)/\K (nx++[x])) (K nx))) (K nx)
theorem asc.le {l:zzI} (h:asc l):l.Pairwise (·<=·):=List.Pairwise.imp (fun h=>Int.le_of_lt h) h
theorem asc.get {l:zzI} (h:asc l) {i j:Nat} (hij:i<j) (hj:j<l.length):l.getD i default<l.getD j default:=by
 have:=List.pairwise_iff_getElem.1 h i j (by omega) hj hij;simpa[List.getD_eq_getElem?_getD,hj,(show i<l.length by omega)] using this
theorem kT {l:zzI} (h:asc l) {x:Int} (hx:x∈l):bO l x<l.length/\l.getD (bO l x) default=x:=by
 obtain⟨i,hi,rfl⟩:=List.getElem_of_mem hx;have e:l.getD i default=l[i]:=by simp[List.getD_eq_getElem?_getD,hi]
 have h1:=aCi l l[i] h.le i hi;rw[e] at h1;have h2:bO l l[i]<=i:=by
  by_cases q:i<bO l l[i]
  ·have:=h1.2 q;omega
  ·omega
 have h3:=(aMB l l[i]).2 (by omega);refine⟨by omega,?_⟩
 by_cases q:bO l l[i]=i
 ·rw[q];exact e
 ·have:=h.get (show bO l l[i]<i by omega) hi;rw[e] at this;omega
def gxs (w:Int) (ls:List Seg):zzI:=eH ([0,w]++ls.flatMap fun s=>[s.X1,s.X2])
def gys (h:Int) (ls:List Seg):zzI:=eH ([0,h]++ls.flatMap fun s=>[s.Y1,s.Y2])
def lfG (xs ys:zzI) (ls:List Seg) (i k:Nat):Bool:=ls.any fun s=>decide (i=bO xs s.X1/\bO ys s.Y1<=k/\k<bO ys s.Y2)
def blG (xs ys:zzI) (ls:List Seg) (i k:Nat):Bool:=ls.any fun s=>decide (bO xs s.X1<=i/\i<bO xs s.X2/\k=bO ys s.Y1)
def gG (xs ys:zzI) (c:Pl):aA:=⟨xs.getD c.1 default,ys.getD c.2 default,xs.getD (c.1+1) default-xs.getD c.1 default,ys.getD (c.2+1) default-ys.getD c.2 default⟩
def nbG (xs ys:zzI) (ls:List Seg):Pl->List Pl:=nbs (xs.length-1) (ys.length-1) (lfG xs ys ls) (blG xs ys ls)
def oH (w h:Int) (ls:List Seg):List (List aA):=vK (nbG (gxs w ls) (gys h ls) ls) (gG (gxs w ls) (gys h ls)) (cellsOf ((gxs w ls).length-1) ((gys h ls).length-1))
def mJ (w h:Int) (s:Seg):Prop:=(0<=s.X1/\s.X1<=w/\0<=s.Y1/\s.Y1<=h/\0<=s.X2/\s.X2<=w/\0<=s.Y2/\s.Y2<=h)/\((s.Y1=s.Y2/\s.X1<s.X2)\/(s.X1=s.X2/\s.Y1<s.Y2))
theorem wU {w:Int} {ls:List Seg} {x:Int}:x∈gxs w ls↔x=0\/x=w\/∃s∈ls,x=s.X1\/x=s.X2:=by
 unfold gxs;rw[aNC];simp only[List.mem_append,List.mem_cons,List.not_mem_nil,or_false,List.mem_flatMap,or_assoc]
theorem wT {h:Int} {ls:List Seg} {x:Int}:x∈gys h ls↔x=0\/x=h\/∃s∈ls,x=s.Y1\/x=s.Y2:=by
 unfold gys;rw[aNC];simp only[List.mem_append,List.mem_cons,List.not_mem_nil,or_false,List.mem_flatMap,or_assoc]
theorem aCQ (w:Int) (ls:List Seg):asc (gxs w ls):=aND _
theorem aCP (h:Int) (ls:List Seg):asc (gys h ls):=aND _
theorem aCY (f g:Seg->Int):∀ls:List Seg,(ls.flatMap fun s=>[f s,g s]).length=2*ls.length
 |[]=>rfl
 |s::ls=>by
  rw[List.flatMap_cons,List.length_append,aCY f g ls];simp;omega
theorem aTZ (w:Int) (ls:List Seg):(gxs w ls).length<=2+2*ls.length:=by
 refine Nat.le_trans (aDq _) ?_;rw[List.length_append,aCY];simp
theorem aTY (h:Int) (ls:List Seg):(gys h ls).length<=2+2*ls.length:=by
 refine Nat.le_trans (aDq _) ?_;rw[List.length_append,aCY];simp
theorem aKv (w:Int) (ls:List Seg):0<(gxs w ls).length:=List.length_pos_of_mem (wU.2 (.inl rfl))
theorem aKu (h:Int) (ls:List Seg):0<(gys h ls).length:=List.length_pos_of_mem (wT.2 (.inl rfl))
theorem aGS (w h:Nat):(cellsOf w h).length=h*w:=by
 unfold cellsOf
 induction h with
 |zero=>simp
 |succ h ih=>
  rw[List.range_succ,List.flatMap_append,List.length_append,ih];simp[Nat.succ_mul]
theorem aEM {β:Type} (nb:Pl->List Pl) (rect:Pl->β):∀(l:List Pl) (s:(Pl->Option Nat)×List (List β)),(jV nb rect l s).2.length<=s.2.length+l.length
 |[],s=>Nat.le_refl _
 |c::l,s=>by
  refine Nat.le_trans (aEM nb rect l (lB nb rect s c)) ?_;have:(lB nb rect s c).2.length<=s.2.length+1:=by
   unfold lB;simp only[List.length_set];split
   ·simp
   ·omega
  simp only[List.length_cons];omega
theorem aNN {β:Type} (nb:Pl->List Pl) (rect:Pl->β) (a b:List Pl) (s:(Pl->Option Nat)×List (List β)):jV nb rect (a++b) s=jV nb rect b (jV nb rect a s):=by
 unfold jV;rw[List.foldl_append]
theorem aL7 {β:Type}:∀(l:List (List β)) (j:Nat),(l.getD j default).length<=l.flatten.length
 |[],j=>by simp[List.getD_eq_getElem?_getD];rfl
 |x::l,0=>by simp
 |x::l,j+1=>by
  have:=aL7 l j;simp only[List.getD_cons_succ,List.flatten_cons,List.length_append];omega
end
end Go.Proofs.YtjjbojomlfgjlaaGreatDoor
