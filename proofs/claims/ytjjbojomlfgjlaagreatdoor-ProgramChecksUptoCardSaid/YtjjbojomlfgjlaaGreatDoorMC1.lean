/- Texts of this proof, one behind another: strings.Builder: what WriteString and String change, block by block. Conditions: the progr; An interpreter of the model's code over abstract values, and that it is right: part 1. Con; An interpreter of the model's code over abstract values, and that it is right: part 2. Con. Conditions: none. -/
import Derived.Shelf.Strings.Builder1
import Derived.WalkKit
import Derived.Orders
import Derived.Below
set_option linter.unusedVariables false
namespace Go.Proofs
open Go.Shelf Go.RowKit
variable {P:Program} {ρ:Ren}
def aA7 (T e:TypeId) (B b:Nat) (v:Value) (bs:List Value) (w:World):Prop:=
 B<=b/\(∃q,(q=.pointer none\/q=.pointer (some ⟨b,0,none⟩))/\w.heap[b]?=some (.cells #[q,v] T (0,0)))/\w.ownsRow B e 1 v bs.length bs/\v.ownBlock≠some b/\(v=.slice none 0 0↔bs=[])
theorem bKj {w:World} (base:Nat) (t u ty e:TypeId) (i:TypeInfo) (ht:P.underlying t=some (.slice e)) (hu:P.underlying u=some .string) (hi:P.info? e=some i) (hz:i.zero=some (.int .u8 0)) (hsize:i.size=1) (hby:i.bytes=1)
  (v:Value) (n:Nat) (xs:List Value) (hown:w.ownsRow base e 1 v n xs) (s:ByteArray) (hbytes:n+s.size<=140737488355328) (hbase:base<=w.heap.size):
  ∃v' w',(Builtin.append_ #[t,u] ty #[v,.string s]).run P w=.ok v' w'/\w'.ownsRow base e 1 v' (n+s.size) (xs++Lib.strCells s)/\w.grownBy w' v.ownBlock/\(v'=.slice none 0 0↔v=.slice none 0 0/\s.size=0)/\
   ∀k,v'.ownBlock=some k->v.ownBlock=some k\/w.heap.size<=k:=by
 have hm:n+s.size<=maxLen:=by unfold maxLen;omega
 obtain⟨v',w',hr,h1,h2,h3⟩:=Lib.run_append_own_string (P:=P) w base t u ty e i ht hu hi hz hsize hby v n xs hown s hm hbytes hbase;refine⟨v',w',hr,h1,h2,h3,fun k hk=>?_⟩;rcases hown.2 with ⟨rfl,rfl⟩|⟨g,cap,cur,rfl,_,hg,_,_,hcs,_⟩
 ·obtain⟨v2,w2,jA,q,_⟩:=Lib.run_append_own_string (P:=P) w w.heap.size t u ty e i ht hu hi hz hsize hby (.slice none 0 0) 0 [] (World.ownsRow_nil _ _ _ _) s hm hbytes (Nat.le_refl _);rw[hr] at jA;cases jA;exact .inr (q.lt k hk).1
 ·by_cases hroom:n+s.size<=cap
  ·have jA:=Lib.run_append_room_string (P:=P) w t u ty e i ht hu hi hsize g n cap cur hg s hroom (by omega);rw[hr] at jA;cases jA;exact .inl hk
  ·have jA:=Lib.run_append_grow_string (P:=P) w t u ty e i (.int .u8 0) ht hu hi hz ⟨g,0,none⟩ n cap xs (by rw[hsize];exact hown.1) (hown.cells (g:=g) rfl) s (by omega) (by omega) (by rw[hby];exact growslice_fits (by omega) (by omega));rw[hr] at jA;cases jA;simp only[Value.ownBlock,Option.some.injEq] at hk;exact .inr (by omega)
theorem bKb {w:World} {ops:Array Oper} {rest:List Oper} {o:Oper} {a:Act} {Q:Exit->Act->World->Prop} (hgd:o.guard=none) (sl x:Operand) (t u:TypeId) (ho:o.op=.call {callee:=.builtin .append,args:=#[sl,x],argTypes:=#[t,u]})
  (base:Nat) (e:TypeId) (i:TypeInfo) (ht:P.underlying t=some (.slice e)) (hu:P.underlying u=some .string) (hi:P.info? e=some i) (hz:i.zero=some (.int .u8 0)) (hsize:i.size=1) (hby:i.bytes=1)
  (v:Value) (n:Nat) (xs:List Value) (hs:a.eval sl=v) (hown:w.ownsRow base e 1 v n xs) (s:ByteArray) (hx:a.eval x=.string s) (hbytes:n+s.size<=140737488355328) (hbase:base<=w.heap.size)
  (h:∀v' w',w'.ownsRow base e 1 v' (n+s.size) (xs++Lib.strCells s)->w.grownBy w' v.ownBlock->(v'=.slice none 0 0↔v=.slice none 0 0/\s.size=0)->(∀k,v'.ownBlock=some k->v.ownBlock=some k\/w.heap.size<=k)->wpList P ops Q rest (a.put o.dst v') w'):wpList P ops Q (o::rest) a w:=by
 refine wpList_plain hgd fun K hK=>?_
 obtain⟨v',w',hr,h1,h2,h3,h4⟩:=bKj (P:=P) base t u o.type e i ht hu hi hz hsize hby v n xs hown s hbytes hbase;unfold Oper.wp execOp;simp only[ho,resolve,invoke,builtin,Sem.run_bind,Sem.run_pure,Result.andThen_ok,List.map_toArray,List.map_cons,List.map_nil,hs,hx,hr];exact hK _ _ (h v' w' h1 h2 h3 h4)
set_option maxHeartbeats 2000000 in
set_option maxRecDepth 100000 in
theorem bKc (L:Lays.n169 P ρ) (X:Builder.Extra P ρ) (B b:Nat) (v:Value) (l:List UInt8) (w:World) (h:aA7 (ρ.t 72) (ρ.t 5) B b v (Lib.byteCells l) w):
  Calls P (ρ.f 169) #[.pointer (some ⟨b,0,none⟩)] w fun e w'=>e=.returned (.string ⟨l.toArray⟩)/\Below B w w'/\w'.heap.size=w.heap.size/\∀k,k<w.heap.size->v.ownBlock≠some k->w'.heap[k]?=w.heap[k]?:=by
 obtain⟨hB,⟨q,hq,hbk⟩,hown,hne,hnil⟩:=h
 by_cases h0:l=[]
 ·subst h0;obtain rfl:=hnil.2 rfl;clear hown hne hnil hq hB;have hUS:=Any.unsafeString_none L X;have c1:w.drew.cell? ⟨b,1,none⟩=some (.slice none 0 0):=by
   have:w.drew.heap[b]?=some (.cells #[q,.slice none 0 0] (ρ.t 72) (0,0)):=hbk;rw[Lib.cell_of_heap this];rfl
  have hSD:(Builtin.unsafeSliceData_ #[(ρ.t 37)] (ρ.t 127) #[.slice none 0 0]).run P w.drew=.ok (.pointer none) w.drew:=rfl;have mixed:=L.mixed;have t72:=L.t72;have a72:=L.a72;have z72:=L.z72;have v72:=L.v72;have u72:=run_underlying L.t72
  have t70:=L.t70;have a70:=L.a70;have z70:=L.z70;have v70:=L.v70;have u70:=run_underlying L.t70
  have t37:=L.t37;have a37:=L.a37;have z37:=L.z37;have v37:=L.v37;have u37:=run_underlying L.t37
  have t127:=L.t127;have a127:=L.a127;have z127:=L.z127;have v127:=L.v127;have aYD:=run_underlying L.t127
  have t3:=L.t3;have a3:=L.a3;have z3:=L.z3;have v3:=L.v3;have u3:=run_underlying L.t3
  have t9:=L.t9;have a9:=L.a9;have z9:=L.z9;have v9:=L.v9;have u9:=run_underlying L.t9
  have t5:=X.t5;have a5:=X.a5;have z5:=X.z5;have v5:=X.v5;have u5:=run_underlying X.t5
  go_enter L.f169,Body.n169_ntmps ρ
  go_wp2
  go_region_o
  all_goals (go_wp2;go_ret;exact⟨rfl,Below.drew (Below.refl B w),rfl,fun _ _ _=>rfl⟩)
 have nQ:l.length≠0:=by simpa using h0
 rw[Lib.byteCells_length] at hown;obtain⟨g,cap,cur,rfl,hbg,hg,hnc,hcm,hcs,htake⟩:∃g cap cur,v=.slice (some ⟨g,0,none⟩) l.length cap/\B<=g/\w.heap[g]?=some (.cells cur (ρ.t 5) (0,0))/\l.length<=cap/\cap<=maxLen/\cur.size=cap*1/\cur.toList.take (l.length*1)=Lib.byteCells l:=by
  rcases hown.2 with ⟨_,hz⟩|⟨g,cap,cur,hv,r⟩
  ·exact absurd hz nQ
  ·exact⟨g,cap,cur,hv,r⟩
 have c1:w.drew.cell? ⟨b,1,none⟩=some (.slice (some ⟨g,0,none⟩) l.length cap):=by
  have:w.drew.heap[b]?=some (.cells #[q,.slice (some ⟨g,0,none⟩) l.length cap] (ρ.t 72) (0,0)):=hbk;rw[Lib.cell_of_heap this];rfl
 have hSD:(Builtin.unsafeSliceData_ #[(ρ.t 37)] (ρ.t 127) #[.slice (some ⟨g,0,none⟩) l.length cap]).run P w.drew=.ok (.pointer (some ⟨g,0,none⟩)) w.drew:=
  Lib.run_unsafeSliceData_row _ _ _ _ _ _ (by omega)
 have hUS:(Builtin.unsafeString_ #[(ρ.t 127),(ρ.t 3)] (ρ.t 9) #[.pointer (some ⟨g,0,none⟩),.int .i64 l.length]).run P w.drew=.ok (.string ⟨l.toArray⟩) (w.drew.freeze ⟨g,0,none⟩ l.length):=by
  refine Lib.run_unsafeString_row w.drew (ρ.t 127) (ρ.t 3) (ρ.t 9) (ρ.t 5) L.t127 X.cellsByte g cur.size (by have hg':w.drew.heap[g]?=some (.cells cur (ρ.t 5) (0,0)):=hg;simp[World.shape?,hg']) l h0 (by omega) (by unfold maxLen at hcm;omega) ?_;intro j x hx;exact hown.cells (g:=g) rfl j (.int .u8 x.toNat) (by simp[Lib.byteCells,hx])
 have mixed:=L.mixed;have t72:=L.t72;have a72:=L.a72;have z72:=L.z72;have v72:=L.v72;have u72:=run_underlying L.t72
 have t70:=L.t70;have a70:=L.a70;have z70:=L.z70;have v70:=L.v70;have u70:=run_underlying L.t70
 have t37:=L.t37;have a37:=L.a37;have z37:=L.z37;have v37:=L.v37;have u37:=run_underlying L.t37
 have t127:=L.t127;have a127:=L.a127;have z127:=L.z127;have v127:=L.v127;have aYD:=run_underlying L.t127
 have t3:=L.t3;have a3:=L.a3;have z3:=L.z3;have v3:=L.v3;have u3:=run_underlying L.t3
 have t9:=L.t9;have a9:=L.a9;have z9:=L.z9;have v9:=L.v9;have u9:=run_underlying L.t9
 have t5:=X.t5;have a5:=X.a5;have z5:=X.z5;have v5:=X.v5;have u5:=run_underlying X.t5
 have hfs:(w.drew.freeze ⟨g,0,none⟩ l.length).heap.size=w.heap.size:=by
  unfold World.freeze;split
  ·rfl
  ·show (w.drew.heap.modify g _).size=_;rw[Array.size_modify];rfl
 have hfz:∀k,k≠g->(w.drew.freeze ⟨g,0,none⟩ l.length).heap[k]?=w.heap[k]?:=fun k hk=>by
  unfold World.freeze;split
  ·rfl
  ·show (w.drew.heap.modify g _)[k]?=_;rw[Array.getElem?_modify,if_neg (fun e=>hk e.symm)];rfl
 go_enter L.f169,Body.n169_ntmps ρ
 go_wp2
 go_region_o
 all_goals (go_wp2;go_ret;exact⟨rfl,Lib.below_freeze (Below.drew (Below.refl B w)) (p:=⟨g,0,none⟩) hbg _,hfs,fun k _ hk=>hfz k (fun e=>hk (by rw[e];rfl))⟩)
end Go.Proofs
namespace Go.Vm
open Go.RowKit
set_option linter.unusedVariables false
inductive Name where
 |ob (id:Nat)
 |mem (id i:Nat)
instance:DecidableEq Name:=fun a b=>match a,b with
 | .ob i,.ob j=>if h:i=j then isTrue (h▸rfl) else isFalse (fun e=>h (Name.ob.inj e))
 | .mem i k,.mem j l=>if h:i=j/\k=l then isTrue (by rw[h.1,h.2]) else isFalse (fun e=>h (Name.mem.inj e))
 | .ob _,.mem _ _=>isFalse (fun e=>by cases e)
 | .mem _ _,.ob _=>isFalse (fun e=>by cases e)
def Name.id:Name->Nat
 | .ob i=>i
 | .mem i _=>i
instance:Coe Nat Name:=⟨.ob⟩
def Name.at (j:Nat):Name->Name
 | .ob _=>.ob j
 | .mem _ i=>.mem j i
theorem Name.lZ (j:Nat) (nm:Name):(nm.at j).id=j:=by cases nm<;>rfl
theorem Name.bKw (nm:Name):nm.at nm.id=nm:=by cases nm<;>rfl
theorem Name.aHi {j:Nat} {nm nm':Name} (hi:nm.id=nm'.id) (h:nm.at j=nm'.at j):nm=nm':=by
 cases nm with
 |ob a=>
  cases nm' with
  |ob b=>rw[show a=b from hi]
  |mem b k=>cases h
 |mem a i=>
  cases nm' with
  |ob b=>cases h
  |mem b k=>
   obtain⟨_,e⟩:=Name.mem.inj h;rw[show a=b from hi,e]
abbrev Own:=Name->Option (Nat×Value)
structure dH where
 τ:Type
 deq:DecidableEq τ
 T:τ->Type
 ety:τ->TypeId
 size:τ->Nat
 unsl:(t t1:τ)->List (T t1)->Option (T t)
 κ:Type:=Empty
 K:κ->Type:=fun _=>Unit
 φ:Type:=Empty
inductive aB (U:dH):Type where
 |any
 |raw (v:Value)
 |int (k:IntKind) (n:Int)
 |bool (b:Bool)
 |str (s:ByteArray)
 |nils
 |ifc (b:Bool)
 |frz (k:U.φ)
 |ptr (id off:Nat)
 |eptr (id g i off sz:Nat)
 |ref (l:List (aB U)) (off:Nat)
 |sl (t:U.τ) (xs:List (U.T t))
 |osl (id g:Nat)
 |agg (l:List (aB U))
 |tup (l:List (aB U))
 |fn (f:FuncId) (caps:List (aB U))
 |new (t:U.τ) (xs:List (U.T t))
 |newd (t:U.τ) (xs:List (U.T t))
 |msl (id i g:Nat)
 |meptr (id i g j off sz:Nat)
 |ovw (id g lo hi sz:Nat)
inductive aV (U:dH):Type where
 |cells (l:List (aB U))
 |row (t:U.τ) (g:Nat) (xs:List (U.T t))
 |rowF (t:U.τ) (g:Nat) (xs:List (U.T t)) (i m gm:Nat)
 |deep (t:U.τ) (g gm:Nat) (xs:List (U.T t))
 |deepS (t:U.τ) (g gm:Nat) (xs:List (U.T t)) (i:Nat)
 |deepF (t:U.τ) (g gm:Nat) (xs:List (U.T t)) (m gq:Nat)
 |one (t:U.τ) (g m gm:Nat)
 |gone (g gm n:Nat)
 |opq (k:U.κ) (d:U.K k)
def aB.aCM {U:dH}:aB U->Bool
 | .int _ _ | .bool _ | .str _ | .nils | .ifc _ | .frz _ | .ptr _ _ | .eptr _ _ _ _ _ | .ref _ _ | .sl _ _ | .fn _ _=>true
 | .raw v=>v.oneCell'
 | .osl _ _=>true
 | .msl _ _ _ | .meptr _ _ _ _ _ _=>true
 |_=>false
def aB.flat {U:dH}:aB U->Bool
 | .int _ _ | .bool _ | .str _ | .nils | .ifc _ | .frz _ | .raw _ | .sl _ _=>true
 |_=>false
def aB.pure {U:dH}:aB U->Bool
 | .int _ _ | .bool _ | .str _ | .nils | .ifc _ | .raw _=>true
 |_=>false
def blk:Value->Option Nat
 | .pointer (some a)=>some a.block
 | .slice (some a) _ _=>some a.block
 |_=>none
structure Enc (U:dH) where
 enc:(t:U.τ)->U.T t->List (aB U)
 dec:(t:U.τ)->List (aB U)->Option (U.T t)
 dflt:(t:U.τ)->U.T t
 enc_len:∀t x,(enc t x).length=U.size t
 enc_flat:∀t x,∀c∈enc t x,c.flat=true/\c.aCM=true
 dec_len:∀t l x,dec t l=some x->l.length=U.size t
 dec_enc:∀t l x,dec t l=some x->∀k,k<U.size t->(l.getD k .any=(enc t x).getD k .any\/(l.getD k .any=.nils/\∃t',(enc t x).getD k .any=.sl t' []))
 pos:∀t,0<U.size t
 plain:U.τ->Bool
 plain_ok:∀t x,plain t=true->∀c∈enc t x,c.pure=true
 unsl_ok:∀t t1 ys y,U.unsl t t1 ys=some y->enc t y=[.sl t1 ys]
 inner:U.τ->Option U.τ
 inner_ok:∀t t1,inner t=some t1->∀x,∃ys,enc t x=[.sl t1 ys]
 rep:(k:U.κ)->U.K k->World->Nat->Option (Nat×Value)->(Nat->Option (Nat×Value))->Prop:=fun _ _ _ _ _ _=>False
 rep_val:∀k d w base p f,rep k d w base p f->∃g u,p=some (g,u)/\u.oneCell'=true/\∀b,blk u=some b->base<=b/\b<w.heap.size:=by intros;contradiction
 rep_mem:∀k d w base p f i g u,rep k d w base p f->f i=some (g,u)->u.oneCell'=true/\∀b,blk u=some b->base<=b/\b<w.heap.size:=by intros;contradiction
 rep_mono:∀k d w w' base p f,rep k d w base p f->(∀g u b,p=some (g,u)->blk u=some b->w'.heap[b]?=w.heap[b]?)->(∀i g u b,f i=some (g,u)->blk u=some b->w'.heap[b]?=w.heap[b]?)->rep k d w' base p f:=by intros;contradiction
 frep:U.φ->World->(Nat->Prop)->Value->Prop:=fun _ _ _ _=>False
 frep_mono:∀k w w' st st' v,frep k w st v->(∀b,st b->st' b/\w'.heap[b]?=w.heap[b]?)->frep k w' st' v:=by intros;contradiction
 frep_cell:∀k w st v,frep k w st v->v.oneCell'=true:=by intros;contradiction
section
variable {U:dH} (E:Enc U)
inductive Rel (w:World) (ρ:Own) (st:Nat->Prop):aB U->Value->Prop where
 |any (v:Value):Rel w ρ st .any v
 |raw (v:Value):Rel w ρ st (.raw v) v
 |int (k:IntKind) (n:Int):Rel w ρ st (.int k n) (.int k n)
 |bool (b:Bool):Rel w ρ st (.bool b) (.bool b)
 |str (s:ByteArray):Rel w ρ st (.str s) (.string s)
 |nils:Rel w ρ st .nils (.slice none 0 0)
 |ifc0:Rel w ρ st (.ifc true) .nilIface
 |ifc1 (t:TypeId) (v:Value):Rel w ρ st (.ifc false) (.iface t v)
 |frz (k:U.φ) (v:Value) (h:E.frep k w st v):Rel w ρ st (.frz k) v
 |ptr (id off b:Nat) (h:ρ (.ob id)=some (0,.pointer (some ⟨b,0,none⟩))):Rel w ρ st (.ptr id off) (.pointer (some ⟨b,off,none⟩))
 |eptr (id g i off sz b n cap:Nat) (h:ρ (.ob id)=some (g,.slice (some ⟨b,0,none⟩) n cap)) (hi:i<n):
   Rel w ρ st (.eptr id g i off sz) (.pointer (some ⟨b,i*sz+off,none⟩))
 |eptrOld (id g i off sz g':Nat) (u v:Value) (h:ρ (.ob id)=some (g',u)) (hg:g<g'):Rel w ρ st (.eptr id g i off sz) v
 |osl (id g:Nat) (u:Value) (h:ρ (.ob id)=some (g,u)) (hp:∀a,u≠ .pointer a):Rel w ρ st (.osl id g) u
 |oslOld (id g g':Nat) (u v:Value) (h:ρ (.ob id)=some (g',u)) (hg:g<g'):Rel w ρ st (.osl id g) v
 |msl (id i g:Nat) (u:Value) (h:ρ (.mem id i)=some (g,u)):Rel w ρ st (.msl id i g) u
 |mslOld (id i g g':Nat) (u v:Value) (h:ρ (.mem id i)=some (g',u)) (hg:g<g'):Rel w ρ st (.msl id i g) v
 |meptr (id i g j off sz b n cap:Nat) (h:ρ (.mem id i)=some (g,.slice (some ⟨b,0,none⟩) n cap)) (hi:j<n):
   Rel w ρ st (.meptr id i g j off sz) (.pointer (some ⟨b,j*sz+off,none⟩))
 |meptrOld (id i g j off sz g':Nat) (u v:Value) (h:ρ (.mem id i)=some (g',u)) (hg:g<g'):Rel w ρ st (.meptr id i g j off sz) v
 |ovw (id g lo hi sz:Nat) (u:Value) (ad:Option Addr) (c:Nat) (h:ρ (.ob id)=some (g,u)) (hp:∀a,u≠ .pointer a) (hl:lo<=hi)
   (had:(ad=none/\c=0/\lo=hi)\/∃b n cap o,u=.slice (some ⟨b,0,none⟩) n cap/\hi<=n/\ad=some ⟨b,o,none⟩/\(lo<hi->o=lo*sz)/\hi-lo<=c):Rel w ρ st (.ovw id g lo hi sz) (.slice ad (hi-lo) c)
 |ovwOld (id g lo hi sz g':Nat) (u v:Value) (h:ρ (.ob id)=some (g',u)) (hg:g<g'):Rel w ρ st (.ovw id g lo hi sz) v
 |ref (l:List (aB U)) (off b o:Nat) (f:Nat->Value) (hb:st b) (hc:∀k,k<l.length->w.cell? ⟨b,o+k,none⟩=some (f k))
   (hl:∀k (h:k<l.length),Rel w ρ st l[k] (f k)):Rel w ρ st (.ref l off) (.pointer (some ⟨b,o+off,none⟩))
 |jI (t:U.τ):Rel w ρ st (.sl t []) (.slice none 0 0)
 |sle (t:U.τ) (ad:Addr):Rel w ρ st (.sl t []) (.slice (some ad) 0 0)
 |sl (t:U.τ) (xs:List (U.T t)) (b o cap:Nat) (f:Nat->Value) (hb:st b) (hcap:xs.length<=cap)
   (hc:∀k,k<xs.length*U.size t->w.cell? ⟨b,o+k,none⟩=some (f k))
   (hl:∀i (h:i<xs.length) k (hk:k<(E.enc t xs[i]).length),Rel w ρ st (E.enc t xs[i])[k] (f (i*U.size t+k))):
   Rel w ρ st (.sl t xs) (.slice (some ⟨b,o,none⟩) xs.length cap)
 |agg (l:List (aB U)) (vs:Array Value) (hn:vs.size=l.length) (hl:∀k (h:k<l.length),Rel w ρ st l[k] (vs.getD k undef)):Rel w ρ st (.agg l) (.agg vs)
 |tup (l:List (aB U)) (vs:Array Value) (hn:vs.size=l.length) (hl:∀k (h:k<l.length),Rel w ρ st l[k] (vs.getD k undef)):Rel w ρ st (.tup l) (.tuple vs)
 |fn (f:FuncId) (caps:List (aB U)) (vs:Array Value) (hn:vs.size=caps.length) (hl:∀k (h:k<caps.length),Rel w ρ st caps[k] (vs.getD k undef)):
   Rel w ρ st (.fn f caps) (.func (.func f) #[] vs)
variable {E}
theorem Rel.slE {w:World} {ρ:Own} {st:Nat->Prop} (t:U.τ) (ad:Option Addr):Rel E w ρ st (.sl t []) (.slice ad 0 0):=by
 cases ad
 ·exact .jI t
 ·exact .sle t _
theorem Rel.mono {w w':World} {ρ ρ':Own} {st st':Nat->Prop}
  (hst:∀b,st b->st' b/\w'.heap[b]?=w.heap[b]?)
  (hρ:∀nm g u,ρ nm=some (g,u)->ρ' nm=some (g,u)\/((∀a,u≠ .pointer a)/\∃g' u',ρ' nm=some (g',u')/\g<g'))
  {x:aB U} {v:Value} (h:Rel E w ρ st x v):Rel E w' ρ' st' x v:=by
 induction h with
 |any v=>exact .any v
 |raw v=>exact .raw v
 |int k n=>exact .int k n
 |bool b=>exact .bool b
 |str s=>exact .str s
 |nils=>exact .nils
 |ifc0=>exact .ifc0
 |ifc1 t v=>exact .ifc1 t v
 |frz k v h=>exact .frz k v (E.frep_mono _ _ _ _ _ _ h hst)
 |ptr id off b h=>
  rcases hρ _ _ _ h with h'|⟨hp,_⟩
  ·exact .ptr id off b h'
  ·exact absurd rfl (hp _)
 |eptr id g i off sz b n cap h hi=>
  rcases hρ _ _ _ h with h'|⟨_,g',u',h',hg⟩
  ·exact .eptr id g i off sz b n cap h' hi
  ·exact .eptrOld id g i off sz g' u' _ h' hg
 |eptrOld id g i off sz g' u v h hg=>
  rcases hρ _ _ _ h with h'|⟨_,g'',u',h',hg'⟩
  ·exact .eptrOld id g i off sz g' u _ h' hg
  ·exact .eptrOld id g i off sz g'' u' _ h' (by omega)
 |osl id g u h hp=>
  rcases hρ _ _ _ h with h'|⟨_,g',u',h',hg⟩
  ·exact .osl id g u h' hp
  ·exact .oslOld id g g' u' _ h' hg
 |oslOld id g g' u v h hg=>
  rcases hρ _ _ _ h with h'|⟨_,g'',u',h',hg'⟩
  ·exact .oslOld id g g' u _ h' hg
  ·exact .oslOld id g g'' u' _ h' (by omega)
 |msl id i g u h=>
  rcases hρ _ _ _ h with h'|⟨_,g',u',h',hg⟩
  ·exact .msl id i g u h'
  ·exact .mslOld id i g g' u' _ h' hg
 |mslOld id i g g' u v h hg=>
  rcases hρ _ _ _ h with h'|⟨_,g'',u',h',hg'⟩
  ·exact .mslOld id i g g' u _ h' hg
  ·exact .mslOld id i g g'' u' _ h' (by omega)
 |meptr id i g j off sz b n cap h hi=>
  rcases hρ _ _ _ h with h'|⟨_,g',u',h',hg⟩
  ·exact .meptr id i g j off sz b n cap h' hi
  ·exact .meptrOld id i g j off sz g' u' _ h' hg
 |meptrOld id i g j off sz g' u v h hg=>
  rcases hρ _ _ _ h with h'|⟨_,g'',u',h',hg'⟩
  ·exact .meptrOld id i g j off sz g' u _ h' hg
  ·exact .meptrOld id i g j off sz g'' u' _ h' (by omega)
 |ovw id g lo hi sz u ad c h hp hl had=>
  rcases hρ _ _ _ h with h'|⟨_,g',u',h',hg⟩
  ·exact .ovw id g lo hi sz u ad c h' hp hl had
  ·exact .ovwOld id g lo hi sz g' u' _ h' hg
 |ovwOld id g lo hi sz g' u v h hg=>
  rcases hρ _ _ _ h with h'|⟨_,g'',u',h',hg'⟩
  ·exact .ovwOld id g lo hi sz g' u _ h' hg
  ·exact .ovwOld id g lo hi sz g'' u' _ h' (by omega)
 |ref l off b o f hb hc hl ih=>
  exact .ref l off b o f (hst b hb).1 (fun k hk=>(World.cell?_of_block (hst b hb).2).trans (hc k hk)) ih
 |jI t=>exact .jI t
 |sle t ad=>exact .sle t ad
 |sl t xs b o cap f hb hcap hc hl ih=>
  exact .sl t xs b o cap f (hst b hb).1 hcap (fun k hk=>(World.cell?_of_block (hst b hb).2).trans (hc k hk)) ih
 |agg l vs hn hl ih=>exact .agg l vs hn ih
 |tup l vs hn hl ih=>exact .tup l vs hn ih
 |fn f caps vs hn hl ih=>exact .fn f caps vs hn ih
theorem Rel.flat {w:World} {ρ ρ':Own} {st:Nat->Prop} {x:aB U} {v:Value} (hx:x.flat=true) (h:Rel E w ρ st x v):Rel E w ρ' st x v:=by
 induction h with
 |any v=>exact .any v
 |raw v=>exact .raw v
 |int k n=>exact .int k n
 |bool b=>exact .bool b
 |str s=>exact .str s
 |nils=>exact .nils
 |ifc0=>exact .ifc0
 |ifc1 t v=>exact .ifc1 t v
 |frz k v h=>exact .frz k v h
 |jI t=>exact .jI t
 |sle t ad=>exact .sle t ad
 |sl t xs b o cap f hb hcap hc hl ih=>
  exact .sl t xs b o cap f hb hcap hc (fun i h k hk=>ih i h k hk (E.enc_flat t _ _ (List.getElem_mem hk)).1)
 |_=>simp[aB.flat] at hx
theorem Rel.pU {w:World} {ρ:Own} {st:Nat->Prop} {x:aB U} {v:Value} (h:Rel E w ρ st x v) (hx:x.aCM=true)
  (hρ:∀nm g u,ρ nm=some (g,u)->u.oneCell'=true) (hold:∀id g,x=.osl id g->∃u,ρ (.ob id)=some (g,u)) (hold':∀id g i off sz,x=.eptr id g i off sz->∃u,ρ (.ob id)=some (g,u))
  (hold2:∀id i g,x=.msl id i g->∃u,ρ (.mem id i)=some (g,u)) (hold3:∀id i g j off sz,x=.meptr id i g j off sz->∃u,ρ (.mem id i)=some (g,u)):v.oneCell'=true:=by
 cases h with
 |raw v=>exact hx
 |frz k v h=>exact E.frep_cell _ _ _ _ h
 |osl id g u h hp=>exact hρ _ _ _ h
 |oslOld id g g' u v h hg=>
  obtain⟨u',hu'⟩:=hold _ _ rfl;rw[h] at hu';simp only[Option.some.injEq,Prod.mk.injEq] at hu';omega
 |eptrOld id g i off sz g' u v h hg=>
  obtain⟨u',hu'⟩:=hold' _ _ _ _ _ rfl;rw[h] at hu';simp only[Option.some.injEq,Prod.mk.injEq] at hu';omega
 |msl id i g u h=>exact hρ _ _ _ h
 |mslOld id i g g' u v h hg=>
  obtain⟨u',hu'⟩:=hold2 _ _ _ rfl;rw[h] at hu';simp only[Option.some.injEq,Prod.mk.injEq] at hu';omega
 |meptrOld id i g j off sz g' u v h hg=>
  obtain⟨u',hu'⟩:=hold3 _ _ _ _ _ _ rfl;rw[h] at hu';simp only[Option.some.injEq,Prod.mk.injEq] at hu';omega
 |any|agg|tup|ovwOld=>simp[aB.aCM] at hx
 |_=>rfl
end
end Go.Vm
namespace Go.Vm
open Go.RowKit
set_option linter.unusedVariables false
structure ASt (U:dH) where
 tmps:Nat->aB U
 objs:Nat->Option (aV U)
section
variable {U:dH}
def ASt.set (s:ASt U) (d:Nat) (v:aB U):ASt U:=⟨fun t=>cond (Nat.beq t d) v (s.tmps t),s.objs⟩
def ASt.obj (s:ASt U) (id:Nat) (o:aV U):ASt U:=⟨s.tmps,fun i=>cond (Nat.beq i id) (some o) (s.objs i)⟩
def ASt.put (s:ASt U):Option Tmp->aB U->ASt U
 |some d,v=>s.set d v
 |none,_=>s
def ASt.fK (s:ASt U):Option (Nat×aV U)->ASt U
 |some (id,o)=>s.obj id o
 |none=>s
def ASt.look (s:ASt U) (t:Nat):aB U:=cond (Nat.blt t 1000000) (s.tmps t) .any
def ofConst:Value->aB U
 | .int k n=>.int k n
 | .bool b=>.bool b
 | .string s=>.str s
 | .slice none 0 0=>.nils
 |v=>.raw v
def ASt.eval (s:ASt U):Operand->aB U
 | .tmp t=>s.look t
 | .const v=>ofConst v
 | .func f=>.fn f []
 | .global _=>.any
def aB.cellsOf:aB U->List (aB U)
 | .agg l=>l
 |v=>[v]
def nK (P:Program) (t:TypeId):Bool:=
 match P.underlying t with
 |some (.struct _)=>true
 |some (.array _ _)=>true
 |_=>false
def fU (P:Program) (t:TypeId):Option Nat:=
 match P.info? t with
 |some i=>some i.size
 |none=>none
def partOf (P:Program) (t:TypeId) (l:List (aB U)) (off:Nat):Option (aB U):=
 match P.underlying t,fU P t with
 |some _,some n=>match nK P t with
  |true=>cond (Nat.ble (off+n) l.length) (some (.agg ((l.drop off).take n))) none
  |false=>l[off]?
 |_,_=>none
def nI (E:Enc U) (look:Nat->Option (aV U)) (id i g:Nat):Option ((t1:U.τ)×List (U.T t1)):=
 match look id with
 |some (.deep t _ gm xs)=>match E.enc t (xs.getD i (E.dflt t)) with
  |[.sl t1 ys]=>cond (Nat.beq g gm) (some ⟨t1,ys⟩) none
  |_=>none
 |_=>none
def behind (E:Enc U) (look:Nat->Option (aV U)):aB U->Option (List (aB U)×Nat)
 | .ptr id off=>match look id with
  |some (.cells l)=>some (l,off)
  |_=>none
 | .eptr id g i off sz=>match look id with
  |some (.row t g' xs)=>cond (Nat.beq g g'&&Nat.beq sz (U.size t)) (some (E.enc t (xs.getD i (E.dflt t)),off)) none
  |_=>none
 | .ref l off=>some (l,off)
 | .meptr id i g j off sz=>match nI E look id i g with
  |some ⟨t1,ys⟩=>cond (Nat.beq sz (U.size t1)) (some (E.enc t1 (ys.getD j (E.dflt t1)),off)) none
  |none=>none
 |_=>none
def setCells (l:List (aB U)) (off:Nat):List (aB U)->List (aB U)
 |[]=>l
 |c::cs=>setCells (l.set off c) (off+1) cs
def storable (look:Nat->Option (aV U)):aB U->Bool
 | .osl id g=>match look id with
  |some (.row _ g' _)=>Nat.beq g g'
  |some (.deep _ g' _ _)=>Nat.beq g g'
  |some (.deepF _ g' _ _ _ _)=>Nat.beq g g'
  |_=>false
 | .eptr id g _ _ _=>match look id with
  |some (.row _ g' _)=>Nat.beq g g'
  |_=>false
 | .msl id _ g=>match look id with
  |some (.deep _ _ gm _)=>Nat.beq g gm
  |_=>false
 | .meptr id _ g _ _ _=>match look id with
  |some (.deep _ _ gm _)=>Nat.beq g gm
  |_=>false
 |v=>v.aCM
def aCW (look:Nat->Option (aV U)):aB U->aB U->Option (Nat×aV U)
 | .eptr id g i off sz,.osl m gm=>match look id,look m with
  |some (.row t g' xs),some (.row _ gm' _)=>cond (Nat.beq g g'&&Nat.beq gm gm'&&Nat.beq off 0&&Nat.beq sz 1&&Nat.beq (U.size t) 1) (some (id,.rowF t g xs i m gm)) none
  |_,_=>none
 |_,_=>none
def storeAt (E:Enc U) (look:Nat->Option (aV U)) (p:aB U) (cs:List (aB U)):Option (Nat×aV U):=
 cond (cs.all (storable look)) (match p with
  | .ptr id off=>match look id with
   |some (.cells l)=>cond (Nat.ble (off+cs.length) l.length) (some (id,.cells (setCells l off cs))) none
   |_=>none
  | .eptr id g i off sz=>match look id with
   |some (.row t g' xs)=>cond (Nat.beq g g'&&Nat.beq sz (U.size t)&&Nat.ble (off+cs.length) (U.size t))
     (match E.dec t (setCells (E.enc t (xs.getD i (E.dflt t))) off cs) with
      |some x=>some (id,.row t g (xs.set i x))
      |none=>none) none
   |_=>none
  | .meptr id i g j off sz=>match look id with
   |some (.deep t g0 gm xs)=>match nI E look id i g with
    |some ⟨t1,ys⟩=>cond (Nat.beq sz (U.size t1)&&Nat.ble (off+cs.length) (U.size t1))
      (match E.dec t1 (setCells (E.enc t1 (ys.getD j (E.dflt t1))) off cs) with
       |some x=>match U.unsl t t1 (ys.set j x) with
        |some y=>some (id,.deep t g0 gm (xs.set i y))
        |none=>none
       |none=>none) none
    |none=>none
   |_=>none
  |_=>none) none
def kU (look:Nat->Option (aV U)) (place:Nat->Option (Nat×Nat)) (cells:List (aB U)):List (Nat×aB U)->Option (List (aB U))
 |[]=>some cells
 | (i,v)::rest=>
  match place i with
  |none=>none
  |some (off,size)=>cond (v.cellsOf.all (storable look)&&Nat.beq v.cellsOf.length size&&Nat.ble (off+v.cellsOf.length) cells.length)
    (kU look place (setCells cells off v.cellsOf) rest) none
def zeroCells (P:Program) (t:TypeId):Option (List (aB U)):=
 match P.info? t with
 |some i=>match i.zero with
  |some z=>some (z.cells.toList.map ofConst)
  |none=>none
 |none=>none
def xB (E:Enc U) (t:U.τ):Nat->List (aB U)->Option (List (U.T t))
 |0,_=>some []
 |n+1,l=>match E.dec t (l.take (U.size t)),xB E t n (l.drop (U.size t)) with
  |some x,some xs=>some (x::xs)
  |_,_=>none
def gP (k:IntKind) (x y:Int):Int:=k.wrap (BitVec.ofInt k.bits x&&& BitVec.ofInt k.bits y).toNat
def aMN (op:BinOp):aB U->aB U->Option (List Prop×aB U)
 | .int k a,.int k' b=>match op with
  | .shl=>some ([0<=b],.int k (k.wrap (a*2^(min b.toNat k.bits))))
  | .shr=>some ([0<=b],.int k (a.fdiv (2^(min b.toNat k.bits))))
  |op=>if k=k' then (match op with
   | .add=>some ([],.int k (k.wrap (a+b)))
   | .sub=>some ([],.int k (k.wrap (a-b)))
   | .mul=>some ([],.int k (k.wrap (a*b)))
   | .quo=>some ([b≠0],.int k (k.wrap (a.tdiv b)))
   | .rem=>some ([b≠0],.int k (a.tmod b))
   | .and=>some ([],.int k (gP k a b))
   | .eql=>some ([],.bool (a==b))
   | .neq=>some ([],.bool (a !=b))
   | .lss=>some ([],.bool (decide (a<b)))
   | .leq=>some ([],.bool (decide (a<=b)))
   | .gtr=>some ([],.bool (decide (b<a)))
   | .geq=>some ([],.bool (decide (b<=a)))
   |_=>none) else none
 | .str a,.str b=>match op with
   | .add=>some ([(a.size:Int)+b.size<=9223372036854775807],.str (a++b))
   | .eql=>some ([],.bool (a==b))
   | .neq=>some ([],.bool (a !=b))
   |_=>none
 |_,_=>none
def aun (op:UnOp):aB U->Option (aB U)
 | .int k a=>match op with
  | .neg=>some (.int k (k.wrap (0-a)))
  |_=>none
 | .bool b=>match op with
  | .not=>some (.bool (!b))
  |_=>none
 |_=>none
abbrev Out (U:dH):=Option (List Prop×aB U×Option (Nat×aV U))
def val (v:aB U):Out U:=some ([],v,none)
def val? (v:Option (aB U)):Out U:=match v with
 |some v=>some ([],v,none)
 |none=>none
def aWv (P:Program) (t:TypeId):Prop:=P.stoodInHeld t=false/\P.eqGuardType P.depth t=false/\(P.fieldsOf t).toList.all (fun f=>f.name != "_")=true
def aB.aAN:aB U->Bool
 | .fn _ []=>true
 |v=>v.flat
def aB.aCZ:aB U->Bool
 | .agg l=>l.all aB.aAN
 |v=>v.aAN
structure Cfg (U:dH) where
 P:Program
 E:Enc U
 elt:TypeId->Option U.τ
 sum:FuncId->Option (List (aB U)->Option (List Prop×aB U))
 eff:FuncId->Option (List (aB U)->aV U->Option (List Prop×aB U×aV U)):=fun _=>none
 plain:TypeId->Bool
 plainOK:∀t,plain t=true->aWv P t
 deep:Bool
 inv:World->Prop
 invOK:∀w w',inv w->Below w.heap.size w w'->inv w'
 off:Nat:=0
 hb:Nat:=1000000
 dep:Nat:=0
 dem:Bool:=false
 pur:Bool:=false
 inl:FuncId->Option (Func×Code):=fun _=>none
 inlOK:∀f fn c,inl f=some (fn,c)->P.funcs[f]?=some fn/\fn.body=some c/\∀(args:Array Value) (w:World),(callFunc f args).run P w=.ok (.enter f args) w:=by intros;contradiction
 frzOf:U.φ->TypeId->Option (Int->aB U×aB U):=fun _ _=>none
 frzOK:∀k t f,frzOf k t=some f->∀(w:World) (st:Nat->Prop) (v:Value) (n:Int),E.frep k w st v->∃u b,(Instr.lookup t v (.int .i64 n) true).run P w=.ok (.tuple #[u,b]) w/\Rel E w (fun _=>none) st (f n).1 u/\Rel E w (fun _=>none) st (f n).2 b/\(f n).1.aCZ=true/\(f n).2.flat=true:=by intros;contradiction
 opqOf:TypeId->Option ((k:U.κ)×U.K k):=fun _=>none
 opqOK:∀t x,opqOf t=some x->∀(w:World) (base:Nat),base<=w.heap.size->∃w',(Instr.alloc t true (.tuple #[])).run P w=.ok (.pointer (some ⟨w.heap.size,0,none⟩)) w'/\Below w.heap.size w w'/\
  E.rep x.1 x.2 w' base (some (0,.pointer (some ⟨w.heap.size,0,none⟩))) (fun _=>none):=by intros;contradiction
def aDG (P:Program) (eq:TypeId->aB U->aB U->Option Bool) (xs ys:List (aB U)):List Field->Option Bool
 |[]=>some true
 |f::fs=>match partOf P f.type xs f.offset,partOf P f.type ys f.offset with
  |some a,some b=>match eq f.type a b,aDG P eq xs ys fs with
   |some p,some q=>some (p&&q)
   |_,_=>none
  |_,_=>none
def aDF (P:Program) (eq:TypeId->aB U->aB U->Option Bool) (e n:Nat) (xs ys:List (aB U)):List Nat->Option Bool
 |[]=>some true
 |i::is=>match partOf P e xs (i*n),partOf P e ys (i*n) with
  |some a,some b=>match eq e a b,aDF P eq e n xs ys is with
   |some p,some q=>some (p&&q)
   |_,_=>none
  |_,_=>none
def aeq (C:Cfg U):Nat->TypeId->aB U->aB U->Option Bool
 |0,_,_,_=>none
 |d+1,t,x,y=>match x,y with
  | .bool a,.bool b=>match C.P.underlying t with
   |some .bool=>some (a==b)
   |_=>none
  | .int k a,.int k' b=>match C.P.underlying t with
   |some (.int _)=>if k=k' then some (a==b) else none
   |_=>none
  | .str a,.str b=>match C.P.underlying t with
   |some .string=>some (a==b)
   |_=>none
  | .agg xs,.agg ys=>match C.P.underlying t with
   |some (.struct fields)=>cond (C.plain t) (aDG C.P (aeq C d) xs ys fields.toList) none
   |some (.array len e)=>match fU C.P e with
    |some n=>aDF C.P (aeq C d) e n xs ys (List.range len)
    |none=>none
   |_=>none
  |_,_=>none
def aMM (C:Cfg U) (op:BinOp) (t:TypeId) (x y:aB U):Option (List Prop×aB U):=
 match x,y with
 | .agg xs,.agg ys=>cond (C.plain t) (match op,aeq C 40 t (.agg xs) (.agg ys) with
  | .eql,some b=>some ([],.bool b)
  | .neq,some b=>some ([],.bool !b)
  |_,_=>none) none
 | .bool a,.bool b=>match op,aeq C 1 t (.bool a) (.bool b) with
  | .eql,some b=>some ([],.bool b)
  | .neq,some b=>some ([],.bool !b)
  |_,_=>none
 |x,y=>aMN op x y
def aTU:aB U->Option Bool
 | .ifc b=>some b
 | .raw .nilIface=>some true
 | .raw (.iface _ _)=>some false
 |_=>none
def aMH (P:Program) (op:BinOp) (t:TypeId) (x:aB U) (y:Operand):Option (aB U):=
 match aTU x,y with
 |some b,.const .nilIface=>match P.underlying t with
  |some (.interface _)=>match op with
   | .eql=>some (.bool b)
   | .neq=>some (.bool !b)
   |_=>none
  |_=>none
 |_,_=>none
def iD (C:Cfg U) (t:TypeId):Option U.τ:=
 match C.P.underlying t with
 |some (.slice e)=>match fU C.P e,C.elt e with
  |some n,some τ=>cond (Nat.beq n (U.size τ)&&Nat.beq e (U.ety τ)) (some τ) none
  |_,_=>none
 |_=>none
def stays:Nat->aB U->Bool
 |_,.int _ _|_,.bool _|_,.str _|_,.nils|_,.raw _|_,.frz _|_,.sl _ _=>true
 |d+1,.ref l _=>l.all (stays d)
 |d+1,.fn _ l=>l.all (stays d)
 |_,_=>false
def aDE (f:aB U->Option (aB U×Bool)):List (aB U)->Option (List (aB U)×Bool)
 |[]=>some ([],false)
 |v::vs=>match f v,aDE f vs with
  |some (x,b),some (xs,bs)=>some (x::xs,b||bs)
  |_,_=>none
def aDO (f:TypeId->aB U->Option (aB U×Bool)):List TypeId->List (aB U)->Option (List (aB U)×Bool)
 |[],[]=>some ([],false)
 |t::ts,v::vs=>match f t v,aDO f ts vs with
  |some (x,b),some (xs,bs)=>some (x::xs,b||bs)
  |_,_=>none
 |_,_=>none
def bY (P:Program):Nat->TypeId->List TypeId
 |0,t=>[t]
 |d+1,t=>match P.underlying t with
  |some (.struct fields)=>fields.toList.flatMap fun f=>bY P d f.type
  |some (.array m e)=>(List.replicate m (bY P d e)).flatten
  |_=>[t]
def byC (C:Cfg U) (look:Nat->Option (aV U)):Nat->TypeId->aB U->Option (aB U×Bool)
 |0,_,_=>none
 |d+1,ty,v=>match v with
  | .osl id g=>match look id with
   |some (.row t g' xs)=>cond (Nat.beq g g') (some (.sl t xs,true)) none
   |some (.deep t g' _ xs)=>cond (Nat.beq g g') (some (.sl t xs,true)) none
   |_=>none
  | .msl id i g=>match nI C.E look id i g with
   |some ⟨t1,ys⟩=>some (.sl t1 ys,true)
   |none=>none
  | .nils=>match iD C ty with
   |some t=>some (.sl t [],false)
   |none=>none
  | .ptr id off=>match look id with
   |some (.cells l)=>match aDE (byC C look d 0) l with
    |some (ys,_)=>some (.ref ys off,true)
    |none=>none
   |_=>none
  | .fn f l=>match aDE (byC C look d 0) l with
   |some (ys,b)=>some (.fn f ys,b)
   |none=>none
  | .agg l=>match l.all fun c=>match c with | .nils=>false|c=>c.flat with
   |true=>some (.agg l,false)
   |false=>match aDO (byC C look d) (bY C.P 20 ty) l with
    |some (ys,b)=>some (.agg ys,b)
    |none=>none
  | .int k n=>some (.int k n,false)
  | .bool b=>some (.bool b,false)
  | .str s=>some (.str s,false)
  | .sl t xs=>some (.sl t xs,false)
  | .frz k=>some (.frz k,false)
  | .ref l off=>cond (stays 4 (.ref l off)) (some (.ref l off,false)) none
  | .raw v=>some (.raw v,false)
  |_=>none
def aVz (C:Cfg U) (look:Nat->Option (aV U)) (ty:TypeId) (v:aB U):Option (aB U×Bool):=byC C look 5 ty v
def tV (C:Cfg U) (look:Nat->Option (aV U)):List TypeId->List (aB U)->Option (List (aB U)×Bool)
 |[],[]=>some ([],false)
 |t::ts,v::vs=>match aVz C look t v,tV C look ts vs with
  |some (x,b),some (xs,bs)=>some (x::xs,b||bs)
  |_,_=>none
 |_,_=>none
def aWS (E:Enc U) (d:Option TypeDesc) (look:Nat->Option (aV U)) (x:aB U):Option Int:=
 match d,x with
 |some .string,.str s=>some s.size
 |some (.slice _),.sl _ xs=>some xs.length
 |some (.slice _),.nils=>some 0
 |some (.slice _),.osl id g=>match look id with
  |some (.row _ g' xs)=>cond (Nat.beq g g') (some xs.length) none
  |some (.deep _ g' _ xs)=>cond (Nat.beq g g') (some xs.length) none
  |_=>none
 |some (.slice _),.msl id i g=>match nI E look id i g with
  |some ⟨_,ys⟩=>some ys.length
  |none=>none
 |some (.slice _),.ovw id g lo hi _=>match look id with
  |some (.row _ g' _)=>cond (Nat.beq g g') (some ((hi-lo:Nat):Int)) none
  |_=>none
 |some (.array n _),_=>some n
 |_,_=>none
def aOY:List (aB U)->Option (aB U)
 |[.int k a,.int k' b]=>if k=k' then some (.int k (if b<a then b else a)) else none
 |[.int k a,.int k' b,.int k'' c]=>if k=k'/\k=k'' then some (.int k (if c<(if b<a then b else a) then c else (if b<a then b else a))) else none
 |_=>none
def aO3:List (aB U)->Option (aB U)
 |[.int k a,.int k' b]=>if k=k' then some (.int k (if a<b then b else a)) else none
 |[.int k a,.int k' b,.int k'' c]=>if k=k'/\k=k'' then some (.int k (if (if a<b then b else a)<c then c else (if a<b then b else a))) else none
 |_=>none
def kD (t t2:U.τ) (xs:List (U.T t2)):Option (List (U.T t)):=
 match U.deq t2 t with
 | .isTrue h=>some (h▸xs)
 | .isFalse _=>none
def rowOf (E:Enc U) (look:Nat->Option (aV U)) (t:U.τ):aB U->Option (List (U.T t))
 | .osl id g=>match look id with
  |some (.row t2 g' ys)=>cond (Nat.beq g g') (kD t t2 ys) none
  |_=>none
 | .sl t2 ys=>kD t t2 ys
 | .nils=>some []
 | .msl id i g=>match nI E look id i g with
  |some ⟨t2,ys⟩=>kD t t2 ys
  |none=>none
 | .ovw id g lo hi sz=>match look id with
  |some (.row t2 g' ys)=>cond (Nat.beq g g'&&Nat.beq sz (U.size t2)) (kD t t2 ((ys.take hi).drop lo)) none
  |_=>none
 |_=>none
def aMO (C:Cfg U) (look:Nat->Option (aV U)) (d:Nat) (argTypes:Array TypeId) (x y:aB U):Out U:=
 match argTypes.toList with
 |[t,t']=>cond (Nat.beq t t') (match iD C t with
  |some τ=>match C.P.info? (U.ety τ) with
   |some i=>match i.zero with
    |some z=>cond (Nat.beq z.cells.size (U.size τ)&&Nat.ble 1 i.bytes) (match rowOf C.E look τ y with
     |some ys=>match x with
      | .nils=>match look d with
       |none=>some ([ys.length*i.bytes<=140737488355328],.osl d 0,some (d,.row τ 0 ys))
       |some _=>none
      | .osl id g=>match rowOf C.E look τ (.osl id g) with
       |some xs=>some ([(xs.length+ys.length)*i.bytes<=140737488355328],.osl id (g+1),some (id,.row τ (g+1) (xs++ys)))
       |none=>none
      |_=>none
     |none=>none) none
    |none=>none
   |none=>none
  |none=>none) none
 |_=>none
def aC1 (P:Program) (t:TypeId) (f:Nat):Option Nat:=
 match P.underlying t with
 |some (.struct fields)=>match fields[f]? with
  |some fl=>match fU P fl.type with
   |some (_+1)=>some fl.offset
   |_=>none
  |none=>none
 |_=>none
def aC0 (P:Program):List Field->Option (List (Nat×Nat))
 |[]=>some []
 |f::fs=>match fU P f.type,aC0 P fs with
  |some n,some r=>some ((f.offset,n)::r)
  |_,_=>none
def placesOf (P:Program) (t:TypeId):Option (Nat->Option (Nat×Nat)):=
 match P.underlying t with
 |some (.struct fields)=>match aC0 P fields.toList with
  |some r=>some fun i=>r[i]?
  |none=>none
 |some (.array _ e)=>match fU P e with
  |some n=>some fun i=>some (i*n,n)
  |none=>none
 |_=>none
def aFY (C:Cfg U) (look:Nat->Option (aV U)) (t:TypeId) (x:aB U) (i:Int):Out U:=
 match C.P.underlying t with
 |some (.slice e)=>match x with
  | .sl τ xs=>cond (match fU C.P e with|some n=>Nat.beq n (U.size τ)|none=>false)
    (some ([0<=i/\i<xs.length],.ref (C.E.enc τ (xs.getD i.toNat (C.E.dflt τ))) 0,none)) none
  | .osl id g=>match look id with
   |some (.row τ g' xs)=>cond (Nat.beq g g'&&(match fU C.P e with|some n=>Nat.beq n (U.size τ)|none=>false))
     (some ([0<=i/\i<xs.length],.eptr id g i.toNat 0 (U.size τ),none)) none
   |some (.deep τ g' _ xs)=>cond (Nat.beq g g'&&(match fU C.P e with|some n=>Nat.beq n (U.size τ)|none=>false))
     (some ([0<=i/\i<xs.length],.eptr id g i.toNat 0 (U.size τ),none)) none
   |_=>none
  | .msl id k g=>match nI C.E look id k g with
   |some ⟨τ,ys⟩=>cond (match fU C.P e with|some n=>Nat.beq n (U.size τ)|none=>false)
     (some ([0<=i/\i<ys.length],.meptr id k g i.toNat 0 (U.size τ),none)) none
   |none=>none
  | .nils=>some ([False],.any,none)
  | .ovw id g lo hi sz=>match look id with
   |some (.row τ g' _)=>cond (Nat.beq g g'&&Nat.beq sz (U.size τ)&&(match fU C.P e with|some n=>Nat.beq n (U.size τ)|none=>false))
     (some ([0<=i/\i<(hi-lo:Nat)],.eptr id g (lo+i.toNat) 0 (U.size τ),none)) none
   |_=>none
  |_=>none
 |some (.array len e)=>match fU C.P e with
  |some n=>match x with
   | .ptr id off=>some ([0<=i/\i<len],.ptr id (off+i.toNat*n),none)
   | .ref l off=>some ([0<=i/\i<len],.ref l (off+i.toNat*n),none)
   |_=>none
  |none=>none
 |_=>none
def aFI (P:Program) (look:Nat->Option (aV U)) (t:TypeId):aB U->Out U
 | .eptr id g i off sz=>match look id with
  |some (.rowF _ g' _ i' m gm)=>match P.underlying t,nK P t with
   |some _,false=>cond (Nat.beq g g'&&Nat.beq off 0&&Nat.beq sz 1) (some ([i=i'],.osl m gm,none)) none
   |_,_=>none
  |some (.deep _ g' gm _)=>match P.underlying t,nK P t with
   |some _,false=>cond (Nat.beq g g'&&Nat.beq off 0&&Nat.beq sz 1) (some ([],.msl id i gm,none)) none
   |_,_=>none
  |_=>none
 |_=>none
def aFX (C:Cfg U) (look:Nat->Option (aV U)) (t:TypeId) (x:aB U) (i:Int):Out U:=
 match C.P.underlying t,x with
 |some (.slice e),.osl id g=>match look id with
  |some (.rowF τ g' xs _ _ _)=>cond (Nat.beq g g'&&(match fU C.P e with|some n=>Nat.beq n (U.size τ)|none=>false))
    (some ([0<=i/\i<xs.length],.eptr id g i.toNat 0 (U.size τ),none)) none
  |_=>none
 |_,_=>none
def indexOf (C:Cfg U) (t:TypeId) (x:aB U) (i:Int):Out U:=
 match C.P.underlying t,x with
 |some .string,.str s=>some ([0<=i/\i<s.size],.int .u8 (s.data.toList.getD i.toNat 0).toNat,none)
 |some (.array len e),.agg l=>match fU C.P e with
  |some n=>match partOf C.P e l (i.toNat*n) with
   |some v=>some ([0<=i/\i<len],v,none)
   |none=>none
  |none=>none
 |_,_=>none
def pL (C:Cfg U) (t:TypeId) (x:aB U) (lo hi:Option (aB U)):Out U:=
 match C.P.underlying t,x with
 |some .string,.str s=>match lo,hi with
  |some (.int _ l),some (.int _ h)=>some ([0<=l/\l<=h/\h<=s.size],.str (s.extract l.toNat h.toNat),none)
  |some (.int _ l),none=>some ([0<=l/\l<=s.size],.str (s.extract l.toNat s.size),none)
  |none,some (.int _ h)=>some ([0<=h/\h<=s.size],.str (s.extract 0 h.toNat),none)
  |none,none=>some ([],.str (s.extract 0 s.size),none)
  |_,_=>none
 |some (.slice e),.sl τ xs=>cond (match fU C.P e with|some n=>Nat.beq n (U.size τ)|none=>false) (match lo,hi with
  |some (.int _ l),some (.int _ h)=>some ([0<=l/\l<=h/\h<=xs.length],.sl τ ((xs.drop l.toNat).take (h.toNat-l.toNat)),none)
  |some (.int _ l),none=>some ([0<=l/\l<=xs.length],.sl τ (xs.drop l.toNat),none)
  |none,some (.int _ h)=>some ([0<=h/\h<=xs.length],.sl τ (xs.take h.toNat),none)
  |none,none=>some ([],.sl τ xs,none)
  |_,_=>none) none
 |_,_=>none
abbrev cZ (U:dH):=(_:Bool)×(t:U.τ)×List (U.T t)
def cZ.obj:cZ U->aV U
 |⟨false,t,xs⟩=>.row t 0 xs
 |⟨true,t,xs⟩=>.deep t 0 0 xs
def fE:aB U->List (cZ U)
 | .new t xs=>[⟨false,t,xs⟩]
 | .newd t xs=>[⟨true,t,xs⟩]
 |_=>[]
def eU:aB U->List (cZ U)
 | .agg l=>l.flatMap fE
 |v=>fE v
def aB.news:aB U->List (cZ U)
 | .tup l=>l.flatMap eU
 |v=>eU v
def gM (g:Nat->aB U->aB U):Nat->List (aB U)->List (aB U)
 |_,[]=>[]
 |k,c::l=>g k c::gM g (k+(fE c).length) l
def kM (g:Nat->aB U->aB U) (k:Nat):aB U->aB U
 | .agg l=>.agg (gM g k l)
 |v=>g k v
def gI (g:Nat->aB U->aB U):Nat->List (aB U)->List (aB U)
 |_,[]=>[]
 |k,c::l=>kM g k c::gI g (k+(eU c).length) l
def aFJ (g:Nat->aB U->aB U):aB U->aB U
 | .tup l=>.tup (gI g 0 l)
 |v=>kM g 0 v
def fI:aB U->aB U
 | .new t xs=>.sl t xs
 | .newd t xs=>.sl t xs
 |v=>v
def fM (f:Nat->Nat) (k:Nat):aB U->aB U
 | .new _ _=>.osl (f k) 0
 | .newd _ _=>.osl (f k) 0
 |v=>v
def aB.down (r:aB U):aB U:=aFJ (fun _=>fI) r
def aB.sZ (f:Nat->Nat) (r:aB U):aB U:=aFJ (fM f) r
def w7:aB U->Bool
 | .new _ _=>true
 | .newd _ _=>true
 |c=>c.flat
def ok2:aB U->Bool
 | .agg l=>l.all w7
 |v=>w7 v
def aB.aEa:aB U->Bool
 | .tup l=>l.all ok2
 |v=>ok2 v
def wV (E:Enc U):aB U->Bool
 | .new t _=>E.plain t
 | .newd t _=>match E.inner t with
  |some t1=>E.plain t1
  |none=>false
 |c=>c.pure
def fr2 (E:Enc U):aB U->Bool
 | .agg l=>l.all (wV E)
 |v=>wV E v
def aB.fresh (E:Enc U):aB U->Bool
 | .tup l=>l.all (fr2 E)
 |v=>fr2 E v
def aNp:aB U->Bool
 | .nils=>true
 | .int _ _=>true
 |_=>false
def aMD (C:Cfg U) (look:Nat->Option (aV U)) (m:List (aB U)->Option (List Prop×aB U)) (ts:List TypeId) (vs:List (aB U)):Option (List (aB U)×Bool):=
 cond (vs.all aNp&&(m vs).isSome) (some (vs,false)) (tV C look ts vs)
def tP (C:Cfg U) (look:Nat->Option (aV U)) (f:FuncId) (argTypes:List TypeId) (vs:List (aB U)):Option (List Prop×aB U):=
 match C.sum f with
 |some m=>match aMD C look m argTypes vs with
  |some (xs,own)=>match m xs with
   |some (cs,r)=>cond (r.aEa&&(!own||r.fresh C.E)) (some (cs,r)) none
   |none=>none
  |none=>none
 |none=>none
def aGT (C:Cfg U) (look:Nat->Option (aV U)) (dst:Option Nat) (f:FuncId) (argTypes:List TypeId) (vs:List (aB U)):Out U:=
 match tP C look f argTypes vs with
 |some (cs,r)=>match r.news with
  |[]=>some (cs,r.sZ (0+·),none)
  |[x]=>match dst with
   |some d=>match look d with
    |none=>some (cs,r.sZ (d+·),some (d,x.obj))
    |some _=>none
   |none=>none
  |_=>cond C.dem (some (cs,r.down,none)) none
 |none=>none
def Cfg.dm (C:Cfg U):Cfg U:={C with dem:=true}
def mM (s:ASt U) (b:Nat):List (cZ U)->ASt U
 |[]=>s
 |x::l=>mM (s.obj b x.obj) (b+1) l
def aGD (look:Nat->Option (aV U)) (b:Nat):Nat->Bool
 |0=>true
 |m+1=>(match look (b+m) with
  |none=>true
  |some _=>false)&&aGD look b m
def ownArg:Nat->List (aB U)->Option (Nat×Nat)
 |_,[]=>none
 |k,.ptr id _::_=>some (k,id)
 |k,.osl id _::_=>some (k,id)
 |k,_::l=>ownArg (k+1) l
def aGM (id k0:Nat):aB U->Option (aB U)
 | .ptr i off=>cond (Nat.beq i id) (some (.ptr k0 off)) none
 | .osl i g=>cond (Nat.beq i id) (some (.osl k0 g)) none
 | .agg l=>cond (l.all aB.flat) (some (.agg l)) none
 |c=>cond c.aAN (some c) none
def aAP (id k0:Nat):List (aB U)->Option (List (aB U))
 |[]=>some []
 |x::l=>match aGM id k0 x,aAP id k0 l with
  |some y,some m=>some (y::m)
  |_,_=>none
def aV.closed:aV U->Bool
 | .cells l=>l.all aB.flat
 | .rowF _ _ _ _ _ _=>false
 | .deepS _ _ _ _ _ | .deepF _ _ _ _ _ _ | .one _ _ _ _=>false
 |_=>true
def aIp:aB U->Bool
 | .agg l=>l.all aB.pure
 |c=>c.pure
def aB.sU:aB U->Bool
 | .tup l=>l.all aIp
 |v=>aIp v
def w6 (k0:Nat):aB U->aV U->Bool
 | .osl k g,.row _ g' _=>Nat.beq k k0&&Nat.beq g g'
 |_,_=>false
def aLa (id k0:Nat):aB U->aB U
 | .osl k g=>cond (Nat.beq k k0) (.osl id g) (.osl k g)
 |r=>r
def aL9 (look:Nat->Option (aV U)) (m:List (aB U)->aV U->Option (List Prop×aB U×aV U)) (vs:List (aB U)):Out U:=
 match ownArg 0 vs with
 |some (k0,id)=>match look id with
  |some ob=>match aAP id k0 vs with
   |some xs=>match m xs ob with
    |some (cs,r,ob')=>cond (ob.closed&&ob'.closed&&(r.sU||w6 k0 r ob')) (some (cs,aLa id k0 r,some (id,ob'))) none
    |none=>none
   |none=>none
  |none=>none
 |none=>none
def aEz (look:Nat->Option (aV U)) (fo:Nat):aB U->Out U
 | .ptr id off=>val (.ptr id (off+fo))
 | .eptr id g i off sz=>cond (storable look (.eptr id g i off sz)) (val (.eptr id g i (off+fo) sz)) none
 | .ref l off=>val (.ref l (off+fo))
 | .meptr id i g j off sz=>cond (storable look (.meptr id i g j off sz)) (val (.meptr id i g j (off+fo) sz)) none
 |_=>none
def aLy (look:Nat->Option (aV U)) (τ:U.τ) (len:Nat):List (Nat×aB U)->Out U
 |[(0,.osl m gm)]=>match look m with
  |some (.row t1 gm' ys)=>match U.unsl τ t1 ys with
   |some y=>cond (Nat.beq len 1&&Nat.beq gm gm'&&Nat.beq (U.size τ) 1) (some ([],.sl τ [y],some (m,.row t1 (gm+1) []))) none
   |none=>none
  |_=>none
 |_=>none
def aER:List (aB U)->Option (List Value)
 |[]=>some []
 | .int k n::l=>match aER l with
  |some vs=>some (.int k n::vs)
  |none=>none
 |_=>none
def aop (C:Cfg U) (o:Oper) (ev:Operand->aB U) (look:Nat->Option (aV U)):Out U:=
 match o.op with
 | .move x | .assign x=>val (ev x)
 | .pick c a b=>match ev c,ev a,ev b with
  | .bool c,.bool x,.bool y=>val (.bool (cond c x y))
  | .bool c,x,y=>match c with
   |true=>val x
   |false=>val y
  |_,_,_=>none
 | .alloc t=>match o.dst with
  |some d=>match look (C.off+d) with
   |none=>match C.opqOf t with
    |some x=>some ([],.ptr (C.off+d) 0,some (C.off+d,.opq x.1 x.2))
    |none=>match zeroCells C.P t with
     |some cs=>some ([],.ptr (C.off+d) 0,some (C.off+d,.cells cs))
     |none=>none
   |some _=>none
  |_=>none
 | .box t x=>match o.dst with
  |some d=>match look (C.off+d) with
   |none=>cond ((ev x).cellsOf.all (storable look)) (some ([],.ptr (C.off+d) 0,some (C.off+d,.cells (ev x).cellsOf))) none
   |some _=>none
  |none=>none
 | .build t parts=>match placesOf C.P t,zeroCells C.P t with
  |some pl,some z=>match kU look pl z (parts.toList.map fun p=>(p.1,ev p.2)) with
   |some l=>val (.agg l)
   |none=>none
  |_,_=>none
 | .buildSlice t len parts=>match o.dst,iD C t with
  |some d,some τ=>match look (C.off+d),zeroCells C.P (U.ety τ) with
   |none,some z=>cond (Nat.beq z.length (U.size τ)&&Nat.ble (len*U.size τ) 16777216)
     (match kU look (fun i=>some (i*U.size τ,U.size τ)) ((List.replicate len z).flatten) (parts.toList.map fun p=>(p.1,ev p.2)) with
      |some l=>match xB C.E τ len l with
       |some xs=>cond C.pur (some ([],.sl τ xs,none)) (match C.E.plain τ with
        |true=>some ([],.osl (C.off+d) 0,some (C.off+d,.row τ 0 xs))
        |false=>cond C.deep none (some ([],.sl τ xs,some (C.off+d,.row τ 1 []))))
       |none=>cond (C.deep||C.pur) none (aLy look τ len (parts.toList.map fun p=>(p.1,ev p.2)))
      |none=>none) none
   |_,_=>none
  |_,_=>none
 | .makeSlice t x y=>match o.dst,iD C t with
  |some d,some τ=>match look (C.off+d),zeroCells C.P (U.ety τ),C.P.info? (U.ety τ) with
   |none,some z,some i=>match C.E.dec τ z,ev x,ev y with
    |some e,.int _ n,.int _ m=>cond (Nat.beq z.length (U.size τ)&&Nat.ble 1 i.bytes) (match C.deep,C.E.inner τ with
     |true,some _=>none
     |_,_=>some ([0<=n/\m=n/\n*(i.bytes:Int)<=140737488355328],.osl (C.off+d) 0,some (C.off+d,.row τ 0 (List.replicate n.toNat e)))) none
    |_,_,_=>none
   |_,_,_=>none
  |_,_=>none
 | .load t a=>match behind C.E look (ev a) with
  |some (l,off)=>val? (partOf C.P t l off)
  |none=>aFI C.P look t (ev a)
 | .store t a x=>match fU C.P t with
  |some n=>cond (Nat.beq (ev x).cellsOf.length n) (match storeAt C.E look (ev a) (ev x).cellsOf with
   |some ob=>some ([],.raw undef,some ob)
   |none=>match aCW look (ev a) (ev x) with
    |some ob=>some ([],.raw undef,some ob)
    |none=>none) none
  |none=>none
 | .binOp op t x y _=>match aMH C.P op t (ev x) y with
  |some v=>val v
  |none=>match aMM C op t (ev x) (ev y) with
   |some (cs,v)=>some (cs,v,none)
   |none=>none
 | .unOp op _ x=>val? (aun op (ev x))
 | .fieldAddr t x f=>match aC1 C.P t f with
  |some fo=>aEz look fo (ev x)
  |none=>none
 | .field t x f=>match C.P.underlying t with
  |some (.struct fields)=>match fields[f]?,ev x with
   |some fl,.agg l=>val? (partOf C.P fl.type l fl.offset)
   |_,_=>none
  |_=>none
 | .indexAddr t x ix=>match ev ix with
  | .int _ i=>match aFY C look t (ev x) i with
   |some r=>some r
   |none=>aFX C look t (ev x) i
  |_=>none
 | .index t x ix=>match ev ix with
  | .int _ i=>indexOf C t (ev x) i
  |_=>none
 | .slice t x lo hi none=>match lo,hi with
  |some lo,some hi=>pL C t (ev x) (some (ev lo)) (some (ev hi))
  |some lo,none=>pL C t (ev x) (some (ev lo)) none
  |none,some hi=>pL C t (ev x) none (some (ev hi))
  |none,none=>pL C t (ev x) none none
 | .convert src dst x=>match C.P.underlying src,C.P.underlying dst,ev x with
  |some _,some (.int k),.int _ n=>val (.int k (k.wrap n))
  |_,_,_=>none
 | .makeInterface t x=>match C.P.underlying t,ev x with
  |some (.struct _),.agg l=>match aER l with
   |some vs=>val (.raw (.iface t (.agg vs.toArray)))
   |none=>none
  |_,_=>none
 | .lookup t m x ok=>match ok,ev m,ev x with
  |true,.frz k,.int .i64 n=>match C.frzOf k t with
   |some f=>val (.tup [(f n).1,(f n).2])
   |none=>none
  |_,_,_=>none
 | .extract t i=>match ev t with
  | .tup l=>val? (l[i]?)
  |_=>none
 | .call c=>match c.callee with
  | .builtin .len=>match c.args.toList,c.argTypes.toList with
   |[x],[t]=>match aWS C.E (C.P.underlying t) look (ev x) with
    |some n=>val (.int .i64 n)
    |none=>none
   |_,_=>none
  | .builtin .min=>val? (aOY (c.args.toList.map ev))
  | .builtin .max=>val? (aO3 (c.args.toList.map ev))
  | .builtin .append=>match o.dst,c.args.toList with
   |some d,[x,y]=>aMO C look (C.off+d) c.argTypes (ev x) (ev y)
   |_,_=>none
  | .value x=>match ev x with
   | .fn f caps=>match C.eff f with
    |none=>aGT C look (o.dst.map (C.off+·)) f (c.argTypes.toList++List.replicate caps.length 0) (c.args.toList.map ev++caps)
    |some m=>aL9 look m (c.args.toList.map ev++caps)
   |_=>none
  |_=>none
 | .makeFunc fn first captured=>match fn with
  | .func f=>cond (Nat.beq first.size 0) (val (.fn f (captured.toList.map ev))) none
  |_=>none
 | .nilCheck x=>match ev x with
  | .ptr id off=>val (.ptr id off)
  | .eptr id g i off sz=>cond (storable look (.eptr id g i off sz)) (val (.eptr id g i off sz)) none
  | .meptr id i g j off sz=>cond (storable look (.meptr id i g j off sz)) (val (.meptr id i g j off sz)) none
  | .ref l off=>val (.ref l off)
  |_=>none
 |_=>none
end
end Go.Vm
namespace Go.Vm
open Go.RowKit
set_option linter.unusedVariables false
section
variable {U:dH}
structure Fr where
 w0:World
 we:World
 K:Nat->Prop
 lt:∀b,K b->b<we.heap.size
 le:w0.heap.size<=we.heap.size
 pin:Nat->Option (Nat×Value)
 pinp:∀id p,pin id=some p->∃a,p.2=.pointer a
 hv:Nat->Value:=fun _=>undef
 ds:List Deferred:=[]
instance:Coe Fr World:=⟨Fr.w0⟩
def Fr.heap (F:Fr):Array Obj:=F.w0.heap
def Fr.pure (w:World):Fr:=⟨w,w,fun _=>False,fun _ h=>h.elim,Nat.le_refl _,fun _=>none,(fun _ _ h=>by cases h),fun _=>undef,[]⟩
def _root_.Go.Act.iA (a:Act) (F:Fr) (t:Nat):Value:=cond (Nat.blt t 1000000) (a.tmps.getD t undef) (F.hv t)
def aM (N:Nat->Prop) (ρ:Own) (w:World) (b:Nat):Prop:=
 b<w.heap.size/\¬N b/\∀nm g u,ρ nm=some (g,u)->blk u≠some b
def eG (E:Enc U) (w:World) (ρ:Own) (st:Nat->Prop) (base id:Nat):aV U->Prop
 | .cells l=>∃b c ty,ρ (.ob id)=some (0,.pointer (some ⟨b,0,none⟩))/\base<=b/\w.heap[b]?=some (.cells c ty (0,0))/\c.size=l.length/\
   ∀k (h:k<l.length),Rel E w ρ st l[k] (c.getD k undef)
 | .row t g xs=>∃u cs,ρ (.ob id)=some (g,u)/\(∀a,u≠ .pointer a)/\w.ownsRow base (U.ety t) (U.size t) u xs.length cs/\
   ∀i (h:i<xs.length) k (hk:k<(E.enc t xs[i]).length),Rel E w ρ st (E.enc t xs[i])[k] (cs.getD (i*U.size t+k) undef)
 | .rowF t g xs i m gm=>∃u cs,ρ (.ob id)=some (g,u)/\(∀a,u≠ .pointer a)/\w.ownsRow base (U.ety t) (U.size t) u xs.length cs/\U.size t=1/\i<xs.length/\Rel E w ρ st (.osl m gm) (cs.getD i undef)/\
   ∀j (h:j<xs.length),j≠i->∀k (hk:k<(E.enc t xs[j]).length),Rel E w ρ st (E.enc t xs[j])[k] (cs.getD (j*U.size t+k) undef)
 | .deep t g gm xs=>∃u cs,ρ (.ob id)=some (g,u)/\(∀a,u≠ .pointer a)/\w.ownsRow base (U.ety t) (U.size t) u xs.length cs/\U.size t=1/\(∀j,xs.length<=j->ρ (.mem id j)=none)/\
   ∀j (h:j<xs.length),∃t1 ys v ds,E.enc t xs[j]=[.sl t1 ys]/\ρ (.mem id j)=some (gm,v)/\cs.getD j undef=v/\(∀a,v≠ .pointer a)/\w.ownsRow base (U.ety t1) (U.size t1) v ys.length ds/\
    ∀i (h:i<ys.length) k (hk:k<(E.enc t1 ys[i]).length),Rel E w ρ st (E.enc t1 ys[i])[k] (ds.getD (i*U.size t1+k) undef)
 | .deepS t g gm xs i=>∃u cs,ρ (.ob id)=some (g,u)/\(∀a,u≠ .pointer a)/\w.ownsRow base (U.ety t) (U.size t) u xs.length cs/\U.size t=1/\(∀j,xs.length<=j->ρ (.mem id j)=none)/\
   ∀j (h:j<xs.length),∃t1 ys v ds,E.enc t xs[j]=[.sl t1 ys]/\ρ (.mem id j)=some (gm,v)/\(j≠i->cs.getD j undef=v)/\(∀a,v≠ .pointer a)/\w.ownsRow base (U.ety t1) (U.size t1) v ys.length ds/\
    ∀q (h:q<ys.length) k (hk:k<(E.enc t1 ys[q]).length),Rel E w ρ st (E.enc t1 ys[q])[k] (ds.getD (q*U.size t1+k) undef)
 | .deepF t g gm xs m gq=>∃u cs,ρ (.ob id)=some (g,u)/\(∀a,u≠ .pointer a)/\w.ownsRow base (U.ety t) (U.size t) u (xs.length+1) cs/\U.size t=1/\(∀j,xs.length<=j->ρ (.mem id j)=none)/\Rel E w ρ st (.osl m gq) (cs.getD xs.length undef)/\
   ∀j (h:j<xs.length),∃t1 ys v ds,E.enc t xs[j]=[.sl t1 ys]/\ρ (.mem id j)=some (gm,v)/\cs.getD j undef=v/\(∀a,v≠ .pointer a)/\w.ownsRow base (U.ety t1) (U.size t1) v ys.length ds/\
    ∀q (h:q<ys.length) k (hk:k<(E.enc t1 ys[q]).length),Rel E w ρ st (E.enc t1 ys[q])[k] (ds.getD (q*U.size t1+k) undef)
 | .one t g m gm=>∃u cs,ρ (.ob id)=some (g,u)/\(∀a,u≠ .pointer a)/\w.ownsRow base (U.ety t) (U.size t) u 1 cs/\U.size t=1/\Rel E w ρ st (.osl m gm) (cs.getD 0 undef)/\(cs.getD 0 undef).oneCell'=true
 | .gone g gm n=>ρ (.ob id)=some (g,.slice none 0 0)/\(∀j,j<n->ρ (.mem id j)=some (gm,.slice none 0 0))/\∀j,n<=j->ρ (.mem id j)=none
 | .opq k d=>E.rep k d w base (ρ (.ob id)) (fun j=>ρ (.mem id j))
def aV.simple:aV U->Bool
 | .deep _ _ _ _ | .deepS _ _ _ _ _ | .deepF _ _ _ _ _ _ | .gone _ _ _ | .opq _ _=>false
 |_=>true
def aWw (s:ASt U) (nm:Name):Prop:=∃ob,s.objs nm.id=some ob/\(ob.simple=true->∃id,nm=.ob id)
structure RR (E:Enc U) (n:Nat) (N:Nat->Prop) (w0:Fr) (ρ:Own) (s:ASt U) (a:Act) (w:World):Prop where
 defers:a.defers=w0.ds
 size:a.tmps.size=n
 tmps:∀t,Rel E w ρ (aM N ρ w) (s.tmps t) (a.iA w0 t)
 objs:∀id ob,s.objs id=some ob->eG E w ρ (aM N ρ w) w0.heap.size id ob
 dom:∀nm g u,ρ nm=some (g,u)->aWw s nm
 sep:∀nm nm' g g' u u' b,ρ nm=some (g,u)->ρ nm'=some (g',u')->nm≠nm'->blk u=some b->blk u'≠some b
 below:Below w0.heap.size w0 w
 nlt:∀b,N b->b<w0.heap.size\/w0.K b
 kept:w0.we.heap.size<=w.heap.size/\∀b,w0.K b->w.heap[b]?=w0.we.heap[b]?
 free:∀nm g u b,ρ nm=some (g,u)->blk u=some b->¬w0.K b
 pin:∀id p,w0.pin id=some p->(∃ob,s.objs id=some ob)/\ρ (.ob id)=some p
 nle:n<=1000000
def R (E:Enc U) (n:Nat) (N:Nat->Prop) (w0:Fr) (s:ASt U) (a:Act) (w:World):Prop:=∃ρ,RR E n N w0 ρ s a w
variable {E:Enc U} {n:Nat} {N:Nat->Prop} {w0:Fr} {w w':World} {ρ ρ':Own} {s:ASt U} {a:Act}
theorem nD {base:Nat} {e:TypeId} {m k:Nat} {u:Value} {cs:List Value} (h2:w.ownsRow base e m u k cs) (hp:∀a,u≠ .pointer a):u.oneCell'=true/\∀b,blk u=some b->base<=b/\b<w.heap.size:=by
 refine⟨?_,fun b' hb'=>?_⟩
 ·rcases h2.2 with ⟨rfl,_⟩|⟨_,_,_,rfl,_⟩<;>rfl
 ·refine h2.lt b' ?_;rcases h2.2 with ⟨rfl,_⟩|⟨_,_,_,rfl,_⟩
  ·simp[blk] at hb'
  ·simpa[blk,Value.ownBlock] using hb'
theorem eG.val {st:Nat->Prop} {base id:Nat} {ob:aV U} (h:eG E w ρ st base id ob):∃g u,ρ (.ob id)=some (g,u)/\u.oneCell'=true/\∀b,blk u=some b->base<=b/\b<w.heap.size:=by
 cases ob with
 |cells l=>
  obtain⟨b,c,ty,h1,h2,h3,_⟩:=h;refine⟨_,_,h1,rfl,fun b' hb'=>?_⟩;simp only[blk,Option.some.injEq] at hb';subst hb';exact⟨h2,(Array.getElem?_eq_some_iff.1 h3).1⟩
 |row t g xs=>
  obtain⟨u,cs,h1,hp,h2,_⟩:=h;exact⟨_,_,h1,nD h2 hp⟩
 |rowF t g xs i m gm=>
  obtain⟨u,cs,h1,hp,h2,_⟩:=h;exact⟨_,_,h1,nD h2 hp⟩
 |deep t g gm xs=>
  obtain⟨u,cs,h1,hp,h2,_⟩:=h;exact⟨_,_,h1,nD h2 hp⟩
 |deepS t g gm xs i=>
  obtain⟨u,cs,h1,hp,h2,_⟩:=h;exact⟨_,_,h1,nD h2 hp⟩
 |deepF t g gm xs m gq=>
  obtain⟨u,cs,h1,hp,h2,_⟩:=h;exact⟨_,_,h1,nD h2 hp⟩
 |one t g m gm=>
  obtain⟨u,cs,h1,hp,h2,_⟩:=h;exact⟨_,_,h1,nD h2 hp⟩
 |gone g gm n=>
  exact⟨_,_,h.1,rfl,fun b hb=>by cases hb⟩
 |opq k d=>exact E.rep_val _ _ _ _ _ _ h
theorem eG.aMv {st:Nat->Prop} {base id i g:Nat} {u:Value} {ob:aV U} (h:eG E w ρ st base id ob) (hob:ob.simple=false) (hu:ρ (.mem id i)=some (g,u)):u.oneCell'=true/\∀b,blk u=some b->base<=b/\b<w.heap.size:=by
 cases ob with
 |deep t g1 gm xs=>
  obtain⟨u1,cs,h1,hp,h2,h3,h4,h5⟩:=h
  by_cases hi:i<xs.length
  ·obtain⟨t1,ys,v,ds,_,q1,_,q2,q3,_⟩:=h5 i hi;rw[hu] at q1;simp only[Option.some.injEq,Prod.mk.injEq] at q1;obtain⟨rfl,rfl⟩:=q1;exact nD q3 q2
  ·rw[h4 i (by omega)] at hu;cases hu
 |deepS t g1 gm xs i0=>
  obtain⟨u1,cs,h1,hp,h2,h3,h4,h5⟩:=h
  by_cases hi:i<xs.length
  ·obtain⟨t1,ys,v,ds,_,q1,_,q2,q3,_⟩:=h5 i hi;rw[hu] at q1;simp only[Option.some.injEq,Prod.mk.injEq] at q1;obtain⟨rfl,rfl⟩:=q1;exact nD q3 q2
  ·rw[h4 i (by omega)] at hu;cases hu
 |deepF t g1 gm xs m0 gq0=>
  obtain⟨u1,cs,h1,hp,h2,h3,h4,_,h5⟩:=h
  by_cases hi:i<xs.length
  ·obtain⟨t1,ys,v,ds,_,q1,_,q2,q3,_⟩:=h5 i hi;rw[hu] at q1;simp only[Option.some.injEq,Prod.mk.injEq] at q1;obtain⟨rfl,rfl⟩:=q1;exact nD q3 q2
  ·rw[h4 i (by omega)] at hu;cases hu
 |gone g1 gm n=>
  obtain⟨_,h2,h3⟩:=h
  by_cases hi:i<n
  ·rw[h2 i hi] at hu;cases hu;exact⟨rfl,fun b hb=>by cases hb⟩
  ·rw[h3 i (by omega)] at hu;cases hu
 |opq k d=>exact E.rep_mem _ _ _ _ _ _ i _ _ h hu
 |_=>cases hob
theorem RR.own (h:RR E n N w0 ρ s a w) {nm:Name} {g:Nat} {u:Value} (hu:ρ nm=some (g,u)):u.oneCell'=true/\∀b,blk u=some b->w0.heap.size<=b/\b<w.heap.size:=by
 obtain⟨ob,hob,hs⟩:=h.dom _ _ _ hu;cases nm with
 |ob id=>
  obtain⟨g',u',h1,h2,h3⟩:=(h.objs _ _ hob).val;have h1':ρ (.ob id)=some (g',u'):=h1;rw[hu] at h1';simp only[Option.some.injEq,Prod.mk.injEq] at h1';obtain⟨rfl,rfl⟩:=h1';exact⟨h2,h3⟩
 |mem id i=>
  have hns:ob.simple=false:=by
   cases hx:ob.simple with
   |false=>rfl
   |true=>
    obtain⟨_,e⟩:=hs hx;cases e
  exact(h.objs _ _ hob).aMv hns hu
theorem RR.aB1 (h:RR E n N w0 ρ s a w) {nm:Name} {g:Nat} {u:Value} {b:Nat} (hu:ρ nm=some (g,u)) (hb:blk u=some b):¬N b:=fun hn=>by
 have h1:=((h.own hu).2 _ hb).1;rcases h.nlt _ hn with h2|h2
 ·omega
 ·exact h.free _ _ _ _ hu hb h2
theorem RR.aJ2 (h:RR E n N w0 ρ s a w) {b:Nat} (hb:w.heap.size<=b):¬N b:=fun hn=>by
 rcases h.nlt _ hn with h2|h2
 ·have:=h.below.size;have h3:b<w0.w0.heap.size:=h2;omega
 ·have:=w0.lt b h2;have:=h.kept.1;omega
theorem RR.pV (h:RR E n N w0 ρ s a w) {id:Nat} (hs:∀ob,s.objs id=some ob->ob.simple=true) (i:Nat):ρ (.mem id i)=none:=by
 cases hr:ρ (.mem id i) with
 |none=>rfl
 |some p=>
  obtain⟨ob,hob,h1⟩:=h.dom _ p.1 p.2 hr;obtain⟨_,e⟩:=h1 (hs _ hob);cases e
theorem aIg {st:Nat->Prop} (v:Value):Rel E w ρ st (ofConst v) v:=by
 unfold ofConst;split
 ·exact .int _ _
 ·exact .bool _
 ·exact .str _
 ·exact .nils
 ·exact .raw _
theorem j3 {a:Act} {F:Fr} {t:Nat} (h:t<1000000):a.iA F t=a.tmps.getD t undef:=by
 unfold Act.iA;rw[show Nat.blt t 1000000=true from Nat.ble_eq_true_of_le h];rfl
theorem aKL {s:ASt U} {t:Nat} (h:t<1000000):s.look t=s.tmps t:=by
 unfold ASt.look;rw[show Nat.blt t 1000000=true from Nat.ble_eq_true_of_le h];rfl
theorem aKK {s:ASt U} {t:Nat} {x:aB U} (h:s.look t=x) (hx:x≠ .any):t<1000000/\s.tmps t=x:=by
 by_cases hlt:t<1000000
 ·rw[aKL hlt] at h;exact⟨hlt,h⟩
 ·have hb:Nat.blt t 1000000=false:=by
   cases hb:Nat.blt t 1000000
   ·rfl
   ·exact absurd (Nat.le_of_ble_eq_true hb) hlt
  unfold ASt.look at h;rw[hb] at h;exact absurd h.symm hx
theorem RR.look (h:RR E n N w0 ρ s a w) (t:Nat):Rel E w ρ (aM N ρ w) (s.look t) (a.tmps.getD t undef):=by
 by_cases hlt:t<1000000
 ·rw[aKL hlt,<- j3 (F:=w0) hlt];exact h.tmps t
 ·have hb:Nat.blt t 1000000=false:=by
   cases hb:Nat.blt t 1000000
   ·rfl
   ·exact absurd (Nat.le_of_ble_eq_true hb) hlt
  unfold ASt.look;rw[hb];exact .any _
theorem RR.eval (h:RR E n N w0 ρ s a w) (x:Operand):Rel E w ρ (aM N ρ w) (s.eval x) (a.eval x):=by
 cases x with
 |tmp t=>exact h.look t
 |const v=>exact aIg v
 |global g=>exact .any _
 |func f=>exact .fn f [] #[] rfl (fun k hk=>absurd hk (by simp))
theorem fG {i d:Nat} (h:¬i=d):Nat.beq i d=false:=by
 cases hb:Nat.beq i d
 ·rfl
 ·exact absurd (Nat.eq_of_beq_eq_true hb) h
theorem aCS (c:Array Value) (i:Nat) (v:Value) (hi:i<c.size) (k:Nat):(c.setIfInBounds i v).getD k undef=if k=i then v else c.getD k undef:=by
 by_cases hk:k=i
 ·subst hk;simp[hi]
 ·rw[if_neg hk];simp[Array.getElem?_setIfInBounds_ne (Ne.symm hk)]
theorem RR.put (h:RR E n N w0 ρ s a w) (dst:Option Tmp) (hd:∀d,dst=some d->d<n) {x:aB U} {v:Value} (hv:Rel E w ρ (aM N ρ w) x v):
  RR E n N w0 ρ (s.put dst x) (a.put dst v) w:=by
 cases dst with
 |none=>exact h
 |some d=>
  have hdn:=hd d rfl;refine⟨h.defers,by simpa[Act.put] using h.size,fun t=>?_,h.objs,h.dom,h.sep,h.below,h.nlt,h.kept,h.free,h.pin,h.nle⟩;show Rel E w ρ _ (cond (Nat.beq t d) x (s.tmps t)) (cond (Nat.blt t 1000000) ((a.tmps.setIfInBounds d v).getD t undef) (w0.hv t));rw[aCS _ _ _ (by rw[h.size];exact hdn)]
  by_cases ht:t=d
  ·subst ht;have hle:=h.nle;rw[show Nat.blt t 1000000=true from Nat.ble_eq_true_of_le (Nat.lt_of_lt_of_le hdn hle)];simpa using hv
  ·rw[if_neg ht];have:Nat.beq t d=false:=fG ht;rw[this];exact h.tmps t
theorem eG.mono {st st':Nat->Prop} {base id:Nat} {ob:aV U}
  (hst:∀b,st b->st' b/\w'.heap[b]?=w.heap[b]?)
  (hρ:∀nm g u,ρ nm=some (g,u)->ρ' nm=some (g,u)\/((∀a,u≠ .pointer a)/\∃g' u',ρ' nm=some (g',u')/\g<g'))
  (hsame:∀nm:Name,nm.id=id->ρ' nm=ρ nm) (hblk:∀(nm:Name) g u b,nm.id=id->ρ nm=some (g,u)->blk u=some b->w'.heap[b]?=w.heap[b]?)
  (h:eG E w ρ st base id ob):eG E w' ρ' st' base id ob:=by
 have row:∀{nm:Name} {g:Nat} {u:Value} {e:TypeId} {m k:Nat} {cs:List Value},nm.id=id->ρ nm=some (g,u)->w.ownsRow base e m u k cs->w'.ownsRow base e m u k cs:=fun hn h1 h2=>by
  refine⟨h2.1,?_⟩;rcases h2.2 with hn'|⟨g',cap,cur,rfl,hb,hg,rest⟩
  ·exact .inl hn'
  ·exact .inr ⟨g',cap,cur,rfl,hb,by rw[hblk _ _ _ g' hn h1 rfl];exact hg,rest⟩
 have eqn:∀{nm:Name} {p:Option (Nat×Value)},nm.id=id->ρ nm=p->ρ' nm=p:=fun hn h1=>by rw[hsame _ hn];exact h1
 cases ob with
 |cells l=>
  obtain⟨b,c,ty,h1,h2,h3,h4,h5⟩:=h;exact⟨b,c,ty,eqn rfl h1,h2,by rw[hblk _ _ _ b rfl h1 rfl];exact h3,h4,fun k hk=>(h5 k hk).mono hst hρ⟩
 |row t g xs=>
  obtain⟨u,cs,h1,hp,h2,h3⟩:=h;exact⟨u,cs,eqn rfl h1,hp,row rfl h1 h2,fun i h k hk=>(h3 i h k hk).mono hst hρ⟩
 |rowF t g xs i m gm=>
  obtain⟨u,cs,h1,hp,h2,hs,hi,hm,h3⟩:=h;exact⟨u,cs,eqn rfl h1,hp,row rfl h1 h2,hs,hi,hm.mono hst hρ,fun i h hj k hk=>(h3 i h hj k hk).mono hst hρ⟩
 |deep t g gm xs=>
  obtain⟨u,cs,h1,hp,h2,hs,hm,h3⟩:=h;refine⟨u,cs,eqn rfl h1,hp,row rfl h1 h2,hs,fun j hj=>eqn rfl (hm j hj),fun j hj=>?_⟩;obtain⟨t1,ys,v,ds,q1,q2,q3,q4,q5,q6⟩:=h3 j hj;exact⟨t1,ys,v,ds,q1,eqn rfl q2,q3,q4,row rfl q2 q5,fun i hi k hk=>(q6 i hi k hk).mono hst hρ⟩
 |deepS t g gm xs i=>
  obtain⟨u,cs,h1,hp,h2,hs,hm,h3⟩:=h;refine⟨u,cs,eqn rfl h1,hp,row rfl h1 h2,hs,fun j hj=>eqn rfl (hm j hj),fun j hj=>?_⟩;obtain⟨t1,ys,v,ds,q1,q2,q3,q4,q5,q6⟩:=h3 j hj;exact⟨t1,ys,v,ds,q1,eqn rfl q2,q3,q4,row rfl q2 q5,fun i hi k hk=>(q6 i hi k hk).mono hst hρ⟩
 |deepF t g gm xs m gq=>
  obtain⟨u,cs,h1,hp,h2,hs,hm,ho,h3⟩:=h;refine⟨u,cs,eqn rfl h1,hp,row rfl h1 h2,hs,fun j hj=>eqn rfl (hm j hj),ho.mono hst hρ,fun j hj=>?_⟩;obtain⟨t1,ys,v,ds,q1,q2,q3,q4,q5,q6⟩:=h3 j hj;exact⟨t1,ys,v,ds,q1,eqn rfl q2,q3,q4,row rfl q2 q5,fun i hi k hk=>(q6 i hi k hk).mono hst hρ⟩
 |one t g m gm=>
  obtain⟨u,cs,h1,hp,h2,hs,ho,hc⟩:=h;exact⟨u,cs,eqn rfl h1,hp,row rfl h1 h2,hs,ho.mono hst hρ,hc⟩
 |gone g gm n=>
  exact⟨eqn rfl h.1,fun j hj=>eqn rfl (h.2.1 j hj),fun j hj=>eqn rfl (h.2.2 j hj)⟩
 |opq k d=>
  show E.rep k d w' base (ρ' (.ob id)) (fun j=>ρ' (.mem id j));rw[hsame (.ob id) rfl,show (fun j=>ρ' (.mem id j))=fun j=>ρ (.mem id j) from funext fun j=>hsame (.mem id j) rfl];exact E.rep_mono _ _ _ _ _ _ _ h (fun g u b h1 h2=>hblk _ g u b rfl h1 h2) (fun i g u b h1 h2=>hblk _ g u b rfl h1 h2)
theorem RR.ext (h:RR E n N w0 ρ s a w) (hb:Below w.heap.size w w'):RR E n N w0 ρ s a w':=by
 have hst:∀b,aM N ρ w b->aM N ρ w' b/\w'.heap[b]?=w.heap[b]?:=fun b ⟨h1,h2,h3⟩=>
  ⟨⟨Nat.lt_of_lt_of_le h1 hb.size,h2,h3⟩,hb.block b h1⟩
 refine⟨h.defers,h.size,fun t=>(h.tmps t).mono hst (fun _ _ _ hr=>.inl hr),fun id ob hob=>?_,h.dom,h.sep,h.below.trans (hb.mono h.below.size),h.nlt,⟨Nat.le_trans h.kept.1 hb.size,fun b hk=>?_⟩,h.free,h.pin,h.nle⟩
 ·exact(h.objs id ob hob).mono hst (fun _ _ _ hr=>.inl hr) (fun _ _=>rfl) (fun nm g u b _ hr hbl=>hb.block b ((h.own hr).2 b hbl).2)
 ·rw[hb.block b (Nat.lt_of_lt_of_le (w0.lt b hk) h.kept.1)];exact h.kept.2 b hk
theorem RR.drew (h:RR E n N w0 ρ s a w):RR E n N w0 ρ s a w.drew:=
 h.ext ⟨rfl,rfl,rfl,Nat.le_refl _,fun _ _=>rfl⟩
structure Chg (N:Nat->Prop) (D:Nat->Prop) (base:Nat) (ρ ρ':Own) (w w':World):Prop where
 out:∀nm:Name,¬D nm.id->ρ' nm=ρ nm
 mono:∀(nm:Name) g u,D nm.id->ρ nm=some (g,u)->ρ' nm=some (g,u)\/((∀a,u≠ .pointer a)/\∃g' u',ρ' nm=some (g',u')/\g<g')
 below:Below base w w'
 same:∀b,b<w.heap.size->(∀(nm:Name) g u,D nm.id->ρ nm=some (g,u)->blk u≠some b)->w'.heap[b]?=w.heap[b]?
 new:∀(nm:Name) g u b,D nm.id->ρ' nm=some (g,u)->blk u=some b->(∃(nm':Name) (g':Nat) (u':Value),D nm'.id/\ρ nm'=some (g',u')/\blk u'=some b)\/w.heap.size<=b
 sep:∀(nm nm':Name) g g' u u' b,D nm.id->D nm'.id->ρ' nm=some (g,u)->ρ' nm'=some (g',u')->nm≠nm'->blk u=some b->blk u'≠some b
theorem Chg.aOX {D:Nat->Prop} {base:Nat} (c:Chg N D base ρ ρ' w w') (nm:Name) (g:Nat) (u:Value) (hr:ρ nm=some (g,u)):ρ' nm=some (g,u)\/((∀a,u≠ .pointer a)/\∃g' u',ρ' nm=some (g',u')/\g<g'):=by
 by_cases hd:D nm.id
 ·exact c.mono nm g u hd hr
 ·exact .inl (by rw[c.out nm hd];exact hr)
theorem Chg.aNB {D:Nat->Prop} {base:Nat} (c:Chg N D base ρ ρ' w w') (b:Nat) (hb:aM N ρ w b):aM N ρ' w' b/\w'.heap[b]?=w.heap[b]?:=by
 obtain⟨h1,h2,h3⟩:=hb;refine⟨⟨Nat.lt_of_lt_of_le h1 c.below.size,h2,fun nm g u hr hbl=>?_⟩,c.same b h1 (fun nm g u _ hr=>h3 _ _ _ hr)⟩
 by_cases hd:D nm.id
 ·rcases c.new nm g u b hd hr hbl with ⟨nm',g',u',_,hr',hbl'⟩|hge
  ·exact h3 _ _ _ hr' hbl'
  ·omega
 ·rw[c.out nm hd] at hr;exact h3 _ _ _ hr hbl
theorem Chg.rel {D:Nat->Prop} {base:Nat} (c:Chg N D base ρ ρ' w w') {x:aB U} {v:Value} (hx:Rel E w ρ (aM N ρ w) x v):Rel E w' ρ' (aM N ρ' w') x v:=
 hx.mono c.aNB c.aOX
theorem RR.change (h:RR E n N w0 ρ s a w) {s':ASt U} {D:Nat->Prop} (c:Chg N D w0.heap.size ρ ρ' w w') (ht:s'.tmps=s.tmps) (hD:∀id,¬D id->s'.objs id=s.objs id)
  (hdom:∀(nm:Name) g u,D nm.id->ρ' nm=some (g,u)->aWw s' nm)
  (hob:∀id ob,D id->s'.objs id=some ob->eG E w' ρ' (aM N ρ' w') w0.heap.size id ob) (hex:∀id ob,D id->s.objs id=some ob->∃ob',s'.objs id=some ob'):RR E n N w0 ρ' s' a w':=by
 have hsz:w0.we.heap.size<=w.heap.size:=h.kept.1;refine⟨h.defers,h.size,fun t=>by rw[ht];exact c.rel (h.tmps t),fun id ob ho=>?_,fun nm g u hr=>?_,?_,h.below.trans c.below,h.nlt,⟨Nat.le_trans hsz c.below.size,fun b hk=>?_⟩,fun nm g u b hr hbl hk=>?_,fun id u hp=>?_,h.nle⟩
 ·by_cases hd:D id
  ·exact hob id ob hd ho
  ·rw[hD id hd] at ho;refine(h.objs id ob ho).mono c.aNB c.aOX (fun nm hn=>c.out nm (by rw[hn];exact hd)) (fun nm g u b hn hr hbl=>?_);exact c.same b ((h.own hr).2 b hbl).2 (fun nm2 g2 u2 hd2 jA cA=>h.sep _ _ _ _ _ _ b hr jA (fun e=>by subst e;rw[hn] at hd2;exact hd hd2) hbl cA)
 ·by_cases hd:D nm.id
  ·exact hdom nm g u hd hr
  ·rw[c.out nm hd] at hr;obtain⟨ob,h1,h2⟩:=h.dom _ _ _ hr;exact⟨ob,by rw[hD _ hd];exact h1,h2⟩
 ·intro i j gi gj ui uj b hri hrj hij hbi hbj
  by_cases hi:D i.id
  ·by_cases hj:D j.id
   ·exact c.sep _ _ _ _ _ _ b hi hj hri hrj hij hbi hbj
   ·rw[c.out j hj] at hrj;rcases c.new i gi ui b hi hri hbi with ⟨i',g',u',hi',hr',hb'⟩|hge
    ·exact h.sep _ _ _ _ _ _ b hr' hrj (fun e=>by subst e;exact hj hi') hb' hbj
    ·have:=((h.own hrj).2 b hbj).2;omega
  ·rw[c.out i hi] at hri
   by_cases hj:D j.id
   ·rcases c.new j gj uj b hj hrj hbj with ⟨j',g',u',hj',hr',hb'⟩|hge
    ·exact h.sep _ _ _ _ _ _ b hri hr' (fun e=>by subst e;exact hi hj') hbi hb'
    ·have:=((h.own hri).2 b hbi).2;omega
   ·rw[c.out j hj] at hrj;exact h.sep _ _ _ _ _ _ b hri hrj hij hbi hbj
 ·rw[c.same b (Nat.lt_of_lt_of_le (w0.lt b hk) hsz) (fun nm g u _ hr hbl=>h.free _ _ _ _ hr hbl hk)];exact h.kept.2 b hk
 ·by_cases hd:D nm.id
  ·rcases c.new nm g u b hd hr hbl with ⟨nm',g',u',_,hr',hbl'⟩|hge
   ·exact h.free _ _ _ _ hr' hbl' hk
   ·have:=w0.lt b hk;omega
  ·rw[c.out nm hd] at hr;exact h.free _ _ _ _ hr hbl hk
 ·obtain⟨⟨ob,ho⟩,hg⟩:=h.pin id u hp
  by_cases hd:D id
  ·refine⟨hex id ob hd ho,?_⟩;rcases c.mono (.ob id) u.1 u.2 hd hg with h1|⟨h1,_⟩
   ·exact h1
   ·obtain⟨a,ha⟩:=w0.pinp id u hp;exact absurd ha (h1 a)
  ·exact⟨⟨ob,by rw[hD id hd];exact ho⟩,by rw[c.out (.ob id) hd];exact hg⟩
def bZ (ρ:Own) (nm:Name) (g:Nat) (u:Value):Own:=fun i=>if i=nm then some (g,u) else ρ i
theorem aVt (h:RR E n N w0 ρ s a w) (id g':Nat) (u':Value) (hs:∀ob,s.objs id=some ob->ob.simple=true)
  (hold:∀g u,ρ id=some (g,u)->(g=g'/\u=u')\/((∀a,u≠ .pointer a)/\g<g'))
  (hw:Below w0.heap.size w w') (hsame:∀b,b<w.heap.size->(∀g u,ρ id=some (g,u)->blk u≠some b)->w'.heap[b]?=w.heap[b]?)
  (hnew:∀b,blk u'=some b->(∃g u,ρ id=some (g,u)/\blk u=some b)\/(w.heap.size<=b)):Chg N (fun i=>i=id) w0.heap.size ρ (bZ ρ id g' u') w w':=by
 have hno:=h.pV hs;have hob:∀(nm:Name) g u,nm.id=id->ρ nm=some (g,u)->nm=.ob id:=fun nm g u hn hr=>by
  cases nm with
  |ob i=>rw[show i=id from hn]
  |mem i j=>
   obtain rfl:i=id:=hn;rw[hno j] at hr;cases hr
 have hob':∀(nm:Name) g u,nm.id=id->bZ ρ id g' u' nm=some (g,u)->nm=.ob id/\g=g'/\u=u':=fun nm g u hn hr=>by
  unfold bZ at hr
  by_cases he:nm=.ob id
  ·rw[if_pos he] at hr;cases hr;exact⟨he,rfl,rfl⟩
  ·rw[if_neg he] at hr;exact absurd (hob nm g u hn hr) he
 refine⟨fun nm hn=>?_,fun nm g u hn hr=>?_,hw,fun b hb hne=>hsame b hb (fun g u hr=>hne (.ob id) g u rfl hr),fun nm g u b hn hr hbl=>?_,fun nm nm' g g1 u u1 b hn hn' hr hr' hne _ _=>?_⟩
 ·unfold bZ;rw[if_neg (fun e=>hn (by rw[e];rfl))]
 ·obtain rfl:=hob nm g u hn hr;rcases hold g u hr with ⟨rfl,rfl⟩|⟨hp,hg⟩
  ·exact .inl (by simp[bZ])
  ·exact .inr ⟨hp,g',u',by simp[bZ],hg⟩
 ·obtain⟨_,rfl,rfl⟩:=hob' nm g u hn hr;rcases hnew b hbl with ⟨g1,u1,h1,h2⟩|h1
  ·exact .inl ⟨.ob id,g1,u1,rfl,h1,h2⟩
  ·exact .inr h1
 ·exact absurd ((hob' nm g u hn hr).1.trans (hob' nm' g1 u1 hn' hr').1.symm) hne
theorem RR.upd (h:RR E n N w0 ρ s a w) (id g':Nat) (u':Value) (ob:aV U) (hs:∀ob,s.objs id=some ob->ob.simple=true)
  (hold:∀g u,ρ id=some (g,u)->(g=g'/\u=u')\/((∀a,u≠ .pointer a)/\g<g'))
  (hw:Below w0.heap.size w w') (hsame:∀b,b<w.heap.size->(∀g u,ρ id=some (g,u)->blk u≠some b)->w'.heap[b]?=w.heap[b]?)
  (hnew:∀b,blk u'=some b->(∃g u,ρ id=some (g,u)/\blk u=some b)\/(w.heap.size<=b))
  (hob:eG E w' (bZ ρ id g' u') (aM N (bZ ρ id g' u') w') w0.heap.size id ob):RR E n N w0 (bZ ρ id g' u') (s.obj id ob) a w':=by
 have hno:=h.pV hs;refine h.change (aVt h id g' u' hs hold hw hsame hnew) rfl (fun i hi=>?_) (fun nm g u hn hr=>?_) (fun i o hi ho=>?_) (fun i o hi _=>⟨ob,by rw[hi];simp[ASt.obj]⟩)
 ·have:Nat.beq i id=false:=fG hi;simp[ASt.obj,this]
 ·refine⟨ob,by rw[hn];simp[ASt.obj],fun _=>?_⟩;cases nm with
  |ob i=>exact⟨i,rfl⟩
  |mem i j=>
   obtain rfl:i=id:=hn;have:bZ ρ i g' u' (.mem i j)=ρ (.mem i j):=by unfold bZ;rw[if_neg (fun e=>by cases e)]
   rw[this,hno j] at hr;cases hr
 ·subst hi;have:(s.obj i ob).objs i=some ob:=by simp[ASt.obj]
  rw[this] at ho;obtain rfl:=Option.some.inj ho;exact hob
theorem RR.oA (h:RR E n N w0 ρ s a w) (id g':Nat) (u':Value) (hs:∀ob,s.objs id=some ob->ob.simple=true)
  (hold:∀g u,ρ id=some (g,u)->(g=g'/\u=u')\/((∀a,u≠ .pointer a)/\g<g'))
  (hw:Below w0.heap.size w w') (hsame:∀b,b<w.heap.size->(∀g u,ρ id=some (g,u)->blk u≠some b)->w'.heap[b]?=w.heap[b]?)
  (hnew:∀b,blk u'=some b->(∃g u,ρ id=some (g,u)/\blk u=some b)\/(w.heap.size<=b))
  {x:aB U} {v:Value} (hx:Rel E w ρ (aM N ρ w) x v):Rel E w' (bZ ρ id g' u') (aM N (bZ ρ id g' u') w') x v:=
 (aVt h id g' u' hs hold hw hsame hnew).rel hx
end
end Go.Vm
namespace Go.Vm
open Go.RowKit
set_option linter.unusedVariables false
section
variable {U:dH} {E:Enc U} {n:Nat} {N:Nat->Prop} {w0:Fr} {w w':World} {ρ ρ':Own} {s:ASt U} {a:Act} {P:Program}
theorem Addr.qL (b o k:Nat):(⟨b,o,none⟩:Addr).add k=⟨b,o+k,none⟩:=by
 unfold Addr.add;split
 ·simp_all
 ·rfl
theorem wA (h:RR E n N w0 ρ s a w) {look:Nat->Option (aV U)} (hlook:∀id ob,look id=some ob->s.objs id=some ob) {id i g:Nat} {t1:U.τ} {ys:List (U.T t1)} (hm:nI E look id i g=some ⟨t1,ys⟩):
  (∀g' u,ρ (.mem id i)=some (g',u)->g'=g/\∃ds,(∀a,u≠ .pointer a)/\w.ownsRow w0.heap.size (U.ety t1) (U.size t1) u ys.length ds/\
    ∀i (h:i<ys.length) k (hk:k<(E.enc t1 ys[i]).length),Rel E w ρ (aM N ρ w) (E.enc t1 ys[i])[k] (ds.getD (i*U.size t1+k) undef)):=by
 intro g' u hr;unfold nI at hm;split at hm
 ·rename_i t g0 gm xs hl;obtain⟨u1,cs,h1,hp,h2,hs,hno,h3⟩:=h.objs _ _ (hlook _ _ hl);have hi:i<xs.length:=by
   refine Classical.byContradiction fun hn=>?_
   rw[hno i (by omega)] at hr;cases hr
  have hxi:xs.getD i (E.dflt t)=xs[i]:=by simp[hi]
  rw[hxi] at hm;obtain⟨t2,zs,v,ds,q1,q2,q3,q4,q5,q6⟩:=h3 i hi;rw[q1] at hm;simp only at hm;cases hb:Nat.beq g gm with
  |false=>rw[hb] at hm;cases hm
  |true=>
   rw[hb] at hm;simp only[cond_true,Option.some.injEq,Sigma.mk.injEq] at hm;obtain⟨rfl,hy⟩:=hm;obtain rfl:=eq_of_heq hy;obtain rfl:=Nat.eq_of_beq_eq_true hb;rw[hr] at q2;simp only[Option.some.injEq,Prod.mk.injEq] at q2;obtain⟨rfl,rfl⟩:=q2;exact⟨rfl,ds,q4,q5,q6⟩
 ·cases hm
def At (E:Enc U) (w:World) (ρ:Own) (st:Nat->Prop) (l:List (aB U)) (b o:Nat) (f:Nat->Value):Prop:=
 ∀k (h:k<l.length),w.cell? ⟨b,o+k,none⟩=some (f k)/\Rel E w ρ st l[k] (f k)
theorem aWD (h:RR E n N w0 ρ s a w) {look:Nat->Option (aV U)} (hlook:∀id ob,look id=some ob->s.objs id=some ob)
  {p:aB U} {v:Value} (hp:Rel E w ρ (aM N ρ w) p v) {l:List (aB U)} {off:Nat} (hb:behind E look p=some (l,off)):
  ∃b o f,v=.pointer (some ⟨b,o+off,none⟩)/\At E w ρ (aM N ρ w) l b o f:=by
 unfold behind at hb;split at hb
 ·split at hb
  ·rename_i id off' l' hl';simp only[Option.some.injEq,Prod.mk.injEq] at hb;obtain⟨rfl,rfl⟩:=hb;obtain⟨b,c,ty,h1,h2,h3,h4,h5⟩:=h.objs _ _ (hlook _ _ hl');cases hp with
   |ptr _ _ b' hb'=>
    rw[h1] at hb';simp only[Option.some.injEq,Prod.mk.injEq,true_and,Value.pointer.injEq,Addr.mk.injEq,and_true] at hb';subst hb';refine⟨b,0,fun k=>c.getD k undef,by simp,fun k hk=>⟨?_,h5 k hk⟩⟩;rw[Nat.zero_add,cell_of_row w b k c ty (0,0) h3];have:k<c.size:=by omega
    simp[this]
  ·cases hb
 ·split at hb
  ·rename_i id g i off' sz _ t g' xs hl';have hcond:(Nat.beq g g'&&Nat.beq sz (U.size t))=true:=by
    cases hc:(Nat.beq g g'&&Nat.beq sz (U.size t))<;>rw[hc] at hb<;>simp_all
   rw[hcond] at hb;simp only[cond_true,Option.some.injEq,Prod.mk.injEq] at hb;obtain⟨rfl,rfl⟩:=hb;simp only[Bool.and_eq_true] at hcond;obtain rfl:=Nat.eq_of_beq_eq_true hcond.1;obtain rfl:=Nat.eq_of_beq_eq_true hcond.2;obtain⟨u,cs,h1,hpp,h2,h3⟩:=h.objs _ _ (hlook _ _ hl');cases hp with
   |eptr _ _ _ _ _ b n' cap hr hi=>
    rw[h1] at hr;simp only[Option.some.injEq,Prod.mk.injEq,true_and] at hr;subst hr;rcases h2.2 with ⟨h0,_⟩|⟨gb,cap',cur,heq,hbase,hgb,hn,hcm,hcs,htake⟩
    ·cases h0
    ·simp only[Value.slice.injEq,Option.some.injEq,Addr.mk.injEq,and_true] at heq;obtain⟨rfl,rfl,rfl⟩:=heq;have hxi:xs.getD i (E.dflt t)=xs[i]:=by simp[hi]
     rw[hxi];refine⟨b,i*U.size t,fun k=>cs.getD (i*U.size t+k) undef,rfl,fun k hk=>?_⟩;refine⟨?_,h3 i hi k hk⟩;have hk':k<U.size t:=by rw[E.enc_len] at hk;exact hk
     have hin:i*U.size t+k<cs.length:=by
      rw[h2.1]
      calc i*U.size t+k<i*U.size t+U.size t:=by omega
       _=(i+1)*U.size t:=by rw[Nat.add_mul,Nat.one_mul]
       _<=xs.length*U.size t:=Nat.mul_le_mul_right _ hi
     rw[cell_of_row w b _ cur _ (0,0) hgb];have h6:cs[i*U.size t+k]?=cur[i*U.size t+k]?:=by
      rw[<- htake,List.getElem?_take,if_pos (by rw[h2.1] at hin;exact hin)];simp
     rw[<- h6];simp[hin]
   |eptrOld _ _ _ _ _ g' u' v hr hg=>
    rw[h1] at hr;simp only[Option.some.injEq,Prod.mk.injEq] at hr;omega
  ·cases hb
 ·simp only[Option.some.injEq,Prod.mk.injEq] at hb;obtain⟨rfl,rfl⟩:=hb;cases hp with
  |ref _ _ b o f hst hc hl=>exact⟨b,o,f,rfl,fun k hk=>⟨hc k hk,hl k hk⟩⟩
 ·rename_i id i g j off' sz;split at hb
  ·rename_i t1 ys hm;cases hsz:Nat.beq sz (U.size t1) with
   |false=>rw[hsz] at hb;cases hb
   |true=>
    rw[hsz] at hb;simp only[cond_true,Option.some.injEq,Prod.mk.injEq] at hb;obtain⟨rfl,rfl⟩:=hb;obtain rfl:=Nat.eq_of_beq_eq_true hsz;have hmr:=wA h hlook hm;cases hp with
    |meptr _ _ _ _ _ _ b n' cap hr hi=>
     obtain⟨_,ds,q1,h2,h3⟩:=hmr _ _ hr;rcases h2.2 with ⟨h0,_⟩|⟨gb,cap',cur,heq,hbase,hgb,hn,hcm,hcs,htake⟩
     ·cases h0
     ·simp only[Value.slice.injEq,Option.some.injEq,Addr.mk.injEq,and_true] at heq;obtain⟨rfl,rfl,rfl⟩:=heq;have hxi:ys.getD j (E.dflt t1)=ys[j]:=by simp[hi]
      rw[hxi];refine⟨b,j*U.size t1,fun k=>ds.getD (j*U.size t1+k) undef,rfl,fun k hk=>?_⟩;refine⟨?_,h3 j hi k hk⟩;have hk':k<U.size t1:=by rw[E.enc_len] at hk;exact hk
      have hin:j*U.size t1+k<ds.length:=by
       rw[h2.1]
       calc j*U.size t1+k<j*U.size t1+U.size t1:=by omega
        _=(j+1)*U.size t1:=by rw[Nat.add_mul,Nat.one_mul]
        _<=ys.length*U.size t1:=Nat.mul_le_mul_right _ hi
      rw[cell_of_row w b _ cur _ (0,0) hgb];have h6:ds[j*U.size t1+k]?=cur[j*U.size t1+k]?:=by
       rw[<- htake,List.getElem?_take,if_pos (by rw[h2.1] at hin;exact hin)];simp
      rw[<- h6];simp[hin]
    |meptrOld _ _ _ _ _ _ g' u' v hr hg=>
     have:=(hmr _ _ hr).1;omega
  ·cases hb
 ·cases hb
theorem kK {t:TypeId} {m:Nat} (h:fU P t=some m):∃i,P.info? t=some i/\i.size=m:=by
 unfold fU at h;split at h
 ·rename_i i hi;exact⟨i,hi,Option.some.inj h⟩
 ·cases h
theorem aFV {t:TypeId} {d:TypeDesc} (h:P.underlying t=some d):(isAgg t).run P w=.ok (nK P t) w:=by
 unfold isAgg nK;rw[h];simp only[Sem.run_bind,run_underlying h,Result.andThen_ok];cases d<;>rfl
theorem aR2 {t:TypeId} {l:List (aB U)} {off:Nat} {x:aB U} {st:Nat->Prop} (hx:partOf P t l off=some x) {b o:Nat} {f:Nat->Value}
  (hat:At E w ρ st l b o f):∃u,(loadVar t ⟨b,o+off,none⟩).run P w=.ok u w/\Rel E w ρ st x u:=by
 unfold partOf at hx;split at hx
 ·rename_i d m hd hm;obtain⟨i,hi,rfl⟩:=kK hm;have hagg:=aFV (w:=w) hd;split at hx
  ·rename_i hb;have hc:Nat.ble (off+i.size) l.length=true:=by
    cases hc:Nat.ble (off+i.size) l.length<;>rw[hc] at hx<;>simp_all
   rw[hc] at hx;simp only[cond_true,Option.some.injEq] at hx;subst hx;have hle:=Nat.le_of_ble_eq_true hc;refine⟨.agg ((List.range i.size).map fun k=>f (off+k)).toArray,?_,?_⟩
   ·have:=run_loadCells (P:=P) w ⟨b,o+off,none⟩ i.size (fun k=>f (off+k)) (fun k hk=>by
     rw[Addr.qL,Nat.add_assoc];exact(hat (off+k) (by omega)).1)
    simp only[loadVar,Sem.run_bind,hagg,hb,Result.andThen_ok,if_true,sizeOf,typeInfo,run_program,hi,Sem.run_pure,this]
   ·refine .agg _ _ (by simp;omega) (fun k hk=>?_);have hk':k<i.size:=by simp at hk;omega
    have:=(hat (off+k) (by omega)).2;have e:((List.range i.size).map fun k=>f (off+k)).toArray.getD k undef=f (off+k):=by simp[hk']
    rw[e];have e2:((l.drop off).take i.size)[k]=l[off+k]'(by omega):=by simp
    rw[e2];exact this
  ·rename_i hb;have hlt:off<l.length:=(List.getElem?_eq_some_iff.1 hx).1;obtain hx':=(List.getElem?_eq_some_iff.1 hx).2;rw[<- hx'];refine⟨f off,?_,(hat off hlt).2⟩;simp only[loadVar,Sem.run_bind,hagg,hb,Result.andThen_ok,Bool.false_eq_true,if_false];rw[run_load,(hat off hlt).1]
 ·cases hx
theorem u7 {t:TypeId} {l:List (aB U)} {off:Nat} {x:aB U} {st:Nat->Prop} (hx:partOf P t l off=some x) {vs:Array Value} (hn:vs.size=l.length)
  (hl:∀k (h:k<l.length),Rel E w ρ st l[k] (vs.getD k undef)):∃u,(part t vs off).run P w=.ok u w/\Rel E w ρ st x u:=by
 unfold partOf at hx;split at hx
 ·rename_i d m hd hm;obtain⟨i,hi,rfl⟩:=kK hm;have hagg:=aFV (w:=w) hd;split at hx
  ·rename_i hb;have hc:Nat.ble (off+i.size) l.length=true:=by
    cases hc:Nat.ble (off+i.size) l.length<;>rw[hc] at hx<;>simp_all
   rw[hc] at hx;simp only[cond_true,Option.some.injEq] at hx;subst hx;have hle:=Nat.le_of_ble_eq_true hc;refine⟨.agg (vs.extract off (off+i.size)),?_,?_⟩
   ·simp only[part,Sem.run_bind,hagg,hb,Result.andThen_ok,if_true,sizeOf,typeInfo,run_program,hi,Sem.run_pure]
   ·refine .agg _ _ (by simp;omega) (fun k hk=>?_);have hk':k<i.size:=by simp at hk;omega
    have:=hl (off+k) (by omega);have h2:k<min (off+i.size) vs.size-off:=by omega
    have e:(vs.extract off (off+i.size)).getD k undef=vs.getD (off+k) undef:=by
     have h3:off+k<vs.size:=by omega
     simp[h2,h3]
    rw[e];have e2:((l.drop off).take i.size)[k]=l[off+k]'(by omega):=by simp
    rw[e2];exact this
  ·rename_i hb;have hlt:off<l.length:=(List.getElem?_eq_some_iff.1 hx).1;obtain hx':=(List.getElem?_eq_some_iff.1 hx).2;rw[<- hx'];refine⟨vs.getD off undef,?_,hl off hlt⟩;have h2:off<vs.size:=by omega
   simp only[part,Sem.run_bind,hagg,hb,Result.andThen_ok,Bool.false_eq_true,if_false];simp[h2]
 ·cases hx
theorem kB (c:Array Value) (k:Nat) (d:Value):c.toList.getD k d=c.getD k d:=by simp
theorem aBI (cs:List (aB U)):∀(l:List (aB U)) (off:Nat),(setCells l off cs).length=l.length:=by
 induction cs with
 |nil=>intro l off;rfl
 |cons c cs ih=>intro l off;simp[setCells,ih]
theorem aI7 {st:Nat->Prop} (cs:List (aB U)):∀(vs:List Value) (l:List (aB U)) (off:Nat) (c:List Value),cs.length=vs.length->off+cs.length<=l.length->c.length=l.length->
  (∀k (h:k<cs.length),Rel E w ρ st cs[k] (vs.getD k undef))->(∀k (h:k<l.length),Rel E w ρ st l[k] (c.getD k undef))->
  ∀k (h:k<(setCells l off cs).length),Rel E w ρ st (setCells l off cs)[k] ((c.take off++vs++c.drop (off+vs.length)).getD k undef):=by
 induction cs with
 |nil=>
  intro vs l off c hlen hle hcl hcs hl k hk;have:vs=[]:=List.eq_nil_of_length_eq_zero (by simpa using hlen.symm);subst this;simp only[setCells] at hk ⊢;simpa using hl k hk
 |cons x cs ih=>
  intro vs l off c hlen hle hcl hcs hl k hk;cases vs with
  |nil=>simp at hlen
  |cons v vs=>
   simp only[List.length_cons] at hlen hle;have:=ih vs (l.set off x) (off+1) (c.set off v) (by omega) (by simp;omega) (by simp[hcl]) (fun k h=>hcs (k+1) (by simp;omega)) (fun k h=>by
    by_cases hko:off=k
    ·subst hko;have h0:=hcs 0 (by simp);have:off<c.length:=by omega
     simpa[this] using h0
    ·have:=hl k (by simpa using h);rw[List.getElem_set_ne hko];simpa[List.getElem?_set_ne hko] using this) k (by simpa[setCells] using hk)
   simp only[setCells];have e:(c.set off v).take (off+1)++vs++(c.set off v).drop (off+1+vs.length)=c.take off++v::vs++c.drop (off+(v::vs).length):=by
    have h1:(c.set off v).take (off+1)=c.take off++[v]:=by
     rw[List.take_succ_eq_append_getElem (by simp;omega)];simp[List.take_set_of_le]
    have h2:(c.set off v).drop (off+1+vs.length)=c.drop (off+(v::vs).length):=by
     rw[List.drop_set_of_lt (by omega)];simp only[List.length_cons];congr 1;omega
    rw[h1,h2];simp
   rw[e] at this;exact this
end
end Go.Vm
namespace Go.Vm
open Go.RowKit
set_option linter.unusedVariables false
section
variable {U:dH} {E:Enc U} {n:Nat} {N:Nat->Prop} {w0:Fr} {w w':World} {ρ ρ':Own} {s:ASt U} {a:Act} {P:Program}
theorem aIf {st:Nat->Prop} {t:U.τ} {l:List (aB U)} {x:U.T t} (hd:E.dec t l=some x) {f:Nat->Value} (h:∀k (hk:k<l.length),Rel E w ρ st l[k] (f k)):
  ∀k (hk:k<(E.enc t x).length),Rel E w ρ st (E.enc t x)[k] (f k):=by
 intro k hk;have hl:=E.dec_len t l x hd;have hk':k<U.size t:=by rw[E.enc_len] at hk;exact hk
 have h1:=h k (by omega);have e1:l.getD k .any=l[k]'(by omega):=by
  have:k<l.length:=by omega
  simp[this]
 have e2:(E.enc t x).getD k .any=(E.enc t x)[k]:=by simp[hk]
 rcases E.dec_enc t l x hd k hk' with h2|⟨h2,t',h3⟩
 ·rw[e1,e2] at h2;rw[<- h2];exact h1
 ·rw[e1] at h2;rw[e2] at h3;rw[h3];rw[h2] at h1;generalize f k=v at h1;cases h1;exact .jI t'
theorem aY0 (c vs:List Value) (p off sz k:Nat) (h:p+sz<=c.length) (ho:off+vs.length<=sz) (hk:k<sz):
  (((c.drop p).take sz).take off++vs++((c.drop p).take sz).drop (off+vs.length))[k]?=(c.take (p+off)++vs++c.drop (p+off+vs.length))[p+k]?:=by
 have l1:(((c.drop p).take sz).take off).length=off:=by simp;omega
 have l2:(c.take (p+off)).length=p+off:=by simp;omega
 simp only[List.append_assoc,List.getElem?_append,l1,l2]
 by_cases h5:k<off
 ·rw[if_pos h5,if_pos (show p+k<p+off by omega)];simp only[List.getElem?_take,List.getElem?_drop];rw[if_pos h5,if_pos hk,if_pos (show p+k<p+off by omega)]
 ·rw[if_neg h5,if_neg (show ¬p+k<p+off by omega)];have e:p+k-(p+off)=k-off:=by omega
  rw[e]
  by_cases h6:k-off<vs.length
  ·rw[if_pos h6,if_pos h6]
  ·rw[if_neg h6,if_neg h6];simp only[List.getElem?_take,List.getElem?_drop];rw[if_pos (by omega)];congr 1;omega
theorem aO2 (h:RR E n N w0 ρ s a w) {look:Nat->Option (aV U)} (hlook:∀id ob,look id=some ob->s.objs id=some ob) {id i g j off sz:Nat} (hst:storable look (.meptr id i g j off sz)=true):
  ∀g' u,ρ (.mem id i)=some (g',u)->g'=g:=fun g' u hr=>by
 unfold storable at hst;simp only at hst;split at hst
 ·rename_i t g0 gm xs hl;obtain rfl:=Nat.eq_of_beq_eq_true hst;obtain⟨_,_,_,_,_,_,hno,h3⟩:=h.objs _ _ (hlook _ _ hl)
  by_cases hi:i<xs.length
  ·obtain⟨_,_,_,_,_,q,_⟩:=h3 i hi;rw[hr] at q;cases q;rfl
  ·rw[hno i (by omega)] at hr;cases hr
 ·cases hst
theorem sG (h:RR E n N w0 ρ s a w) {look:Nat->Option (aV U)} (hlook:∀id ob,look id=some ob->s.objs id=some ob)
  {x:aB U} {v:Value} (hx:Rel E w ρ (aM N ρ w) x v) (hs:storable look x=true):v.oneCell'=true:=by
 unfold storable at hs;have hcur:∀id t g xs,look id=some (.row t g xs)->∃u,ρ (.ob id)=some (g,u):=fun id t g xs hl=>by
  obtain⟨u,_,h1,_⟩:=h.objs _ _ (hlook _ _ hl);exact⟨u,h1⟩
 have hmem:∀id i t g0 gm xs g' u,look id=some (.deep t g0 gm xs)->ρ (.mem id i)=some (g',u)->g'=gm:=fun id i t g0 gm xs g' u hl hr=>by
  obtain⟨_,_,_,_,_,_,hno,h3⟩:=h.objs _ _ (hlook _ _ hl)
  by_cases hi:i<xs.length
  ·obtain⟨_,_,_,_,_,q,_⟩:=h3 i hi;rw[hr] at q;cases q;rfl
  ·rw[hno i (by omega)] at hr;cases hr
 split at hs
 ·split at hs
  ·rename_i id g _ t g' xs hl;obtain rfl:=Nat.eq_of_beq_eq_true hs;exact hx.pU rfl (fun _ _ _ hr=>(h.own hr).1) (fun id' g1 he=>by cases he;exact hcur _ _ _ _ hl) (fun _ _ _ _ _ he=>by cases he) (fun _ _ _ he=>by cases he) (fun _ _ _ _ _ _ he=>by cases he)
  ·rename_i id g _ t g' gm xs hl;obtain rfl:=Nat.eq_of_beq_eq_true hs;obtain⟨u,_,h1,_⟩:=h.objs _ _ (hlook _ _ hl);exact hx.pU rfl (fun _ _ _ hr=>(h.own hr).1) (fun id' g1 he=>by cases he;exact⟨u,h1⟩) (fun _ _ _ _ _ he=>by cases he) (fun _ _ _ he=>by cases he) (fun _ _ _ _ _ _ he=>by cases he)
  ·rename_i id g _ t g' gm xs m gq hl;obtain rfl:=Nat.eq_of_beq_eq_true hs;obtain⟨u,_,h1,_⟩:=h.objs _ _ (hlook _ _ hl);exact hx.pU rfl (fun _ _ _ hr=>(h.own hr).1) (fun id' g1 he=>by cases he;exact⟨u,h1⟩) (fun _ _ _ _ _ he=>by cases he) (fun _ _ _ he=>by cases he) (fun _ _ _ _ _ _ he=>by cases he)
  ·cases hs
 ·split at hs
  ·rename_i id g _ _ _ _ t g' xs hl;obtain rfl:=Nat.eq_of_beq_eq_true hs;exact hx.pU rfl (fun _ _ _ hr=>(h.own hr).1) (fun id' g1 he=>by cases he) (fun _ _ _ _ _ he=>by cases he;exact hcur _ _ _ _ hl) (fun _ _ _ he=>by cases he) (fun _ _ _ _ _ _ he=>by cases he)
  ·cases hs
 ·split at hs
  ·rename_i id i g _ t g0 gm xs hl;obtain rfl:=Nat.eq_of_beq_eq_true hs;cases hx with
   |msl _ _ _ u hr=>exact(h.own hr).1
   |mslOld _ _ _ g' u v hr hg=>
    have:=hmem _ _ _ _ _ _ _ _ hl hr;omega
  ·cases hs
 ·split at hs
  ·rename_i id i g _ _ _ _ t g0 gm xs hl;obtain rfl:=Nat.eq_of_beq_eq_true hs;cases hx with
   |meptr _ _ _ _ _ _ _ _ _ _ _=>rfl
   |meptrOld _ _ _ _ _ _ g' u v hr hg=>
    have:=hmem _ _ _ _ _ _ _ _ hl hr;omega
  ·cases hs
 ·rename_i h1 h2 h3 h4;exact hx.pU hs (fun _ _ _ hr=>(h.own hr).1) (fun id g he=>absurd he (h1 id g)) (fun id g i off sz he=>absurd he (h2 id g i off sz)) (fun id i g he=>absurd he (h3 id i g)) (fun id i g j off sz he=>absurd he (h4 id i g j off sz))
theorem aLv {α:Type} {b:Bool} {x:Option α} {y:α} (h:cond b x none=some y):b=true/\x=some y:=by
 cases b
 ·cases h
 ·exact⟨rfl,h⟩
theorem cells_one {v:Value} (h:v.oneCell'=true):v.cells=#[v]:=by
 cases v<;>first|rfl|cases h
theorem aVv (h:RR E n N w0 ρ s a w) {look:Nat->Option (aV U)} (hlook:∀id ob,look id=some ob->s.objs id=some ob)
  {x:aB U} {v:Value} (hx:Rel E w ρ (aM N ρ w) x v) (hs:x.cellsOf.all (storable look)=true):
  v.cells.size=x.cellsOf.length/\(∀k (hk:k<x.cellsOf.length),Rel E w ρ (aM N ρ w) x.cellsOf[k] (v.cells.toList.getD k undef))/\∀u∈v.cells.toList,u.oneCell'=true:=by
 by_cases hag:∃l,x=.agg l
 ·obtain⟨l,rfl⟩:=hag;cases hx with
  |agg _ vs hn hl=>
   refine⟨hn,fun k hk=>?_,fun u hu=>?_⟩
   ·show Rel E w ρ (aM N ρ w) l[k] (vs.toList.getD k undef);rw[kB];exact hl k hk
   ·obtain⟨k,hk,rfl⟩:=List.mem_iff_getElem.1 hu;have hk':k<l.length:=by simpa[Value.cells,hn] using hk
    have hr:=hl k hk';have hst:storable look l[k]=true:=by
     simp only[aB.cellsOf,List.all_eq_true] at hs;exact hs _ (List.getElem_mem hk')
    have e:vs.getD k undef=(Value.agg vs).cells.toList[k]:=by
     have:k<vs.size:=by omega
     simp[Value.cells,this]
    rw[<- e];exact sG h hlook hr hst
 ·have hc:x.cellsOf=[x]:=by
   cases x<;>first|rfl|exact absurd ⟨_,rfl⟩ hag
  rw[hc] at hs ⊢;have hst:storable look x=true:=by simpa using hs
  have hone:=sG h hlook hx hst;rw[cells_one hone];refine⟨rfl,fun k hk=>?_,fun u hu=>?_⟩
  ·have:k=0:=by simpa using hk
   subst this;simpa using hx
  ·simp only[List.mem_singleton] at hu;subst hu;exact hone
theorem xJ {base g:Nat} (hg:base<=g) (w:World) (cs:Array Value):Below base w (w.setRow g cs):=
 ⟨rfl,rfl,rfl,by simp,fun k hk=>setRow_other w g k cs (by omega)⟩
theorem aNS {st:Nat->Prop} {t':U.τ} {xs:List (U.T t')} {cs:List Value} {base b n' cap i off:Nat} (h2:w.ownsRow base (U.ety t') (U.size t') (.slice (some ⟨b,0,none⟩) n' cap) xs.length cs)
  (h3:∀i (h:i<xs.length) k (hk:k<(E.enc t' xs[i]).length),Rel E w ρ st (E.enc t' xs[i])[k] (cs.getD (i*U.size t'+k) undef)) (hi:i<xs.length) {y:U.T t'} {xc:List (aB U)} {u:Value}
  (hle:off+xc.length<=U.size t') (hy:E.dec t' (setCells (E.enc t' xs[i]) off xc)=some y) {t:TypeId} {m:Nat} (hm:fU P t=some m) (hlen:xc.length=m) (hsz:u.cells.size=xc.length)
  (hrel:∀k (hk:k<xc.length),Rel E w ρ st xc[k] (u.cells.toList.getD k undef)) (hone:∀q∈u.cells.toList,q.oneCell'=true):
  n'=xs.length/\base<=b/\∃row' cs',(Instr.storeAt t (.pointer (some ⟨b,i*U.size t'+off,none⟩)) u).run P w=.ok () (w.setRow b row')/\
   (w.setRow b row').ownsRow base (U.ety t') (U.size t') (.slice (some ⟨b,0,none⟩) n' cap) (xs.set i y).length cs'/\
   ∀j (h:j<(xs.set i y).length) k (hk:k<(E.enc t' (xs.set i y)[j]).length),Rel E w ρ st (E.enc t' (xs.set i y)[j])[k] (cs'.getD (j*U.size t'+k) undef):=by
 obtain⟨ti,hti,htis⟩:=kK hm;have hvl:u.cells.toList.length=xc.length:=by simpa using hsz
 rcases h2.2 with ⟨h0,_⟩|⟨gb,cap',cur,heq,hbase,hgb,hn,hcm,hcs,htake⟩
 ·cases h0
 simp only[Value.slice.injEq,Option.some.injEq,Addr.mk.injEq,and_true] at heq;obtain⟨rfl,rfl,rfl⟩:=heq;have hil:(i+1)*U.size t'<=xs.length*U.size t':=Nat.mul_le_mul_right _ hi;have hnl:xs.length*U.size t'<=cap*U.size t':=Nat.mul_le_mul_right _ hn;have hi1:(i+1)*U.size t'=i*U.size t'+U.size t':=by rw[Nat.add_mul,Nat.one_mul]
 have hrun:=run_storeCells_at P b (i*U.size t'+off) (U.ety t') u.cells.toList 0 cur w hgb (by simp only[Nat.add_zero];omega) hone;simp only[Nat.add_zero] at hrun;refine⟨rfl,hbase,(cur.toList.take (i*U.size t'+off)++u.cells.toList++cur.toList.drop (i*U.size t'+off+u.cells.toList.length)).toArray,(cur.toList.take (i*U.size t'+off)++u.cells.toList++cur.toList.drop (i*U.size t'+off+u.cells.toList.length)).take (xs.length*U.size t'),?_,?_,?_⟩
 ·simp only[Instr.storeAt,Instr.sureAddr,storeVar,sizeOf,typeInfo,Sem.run_bind,Sem.run_pure,Result.andThen_ok,run_program,hti];have:¬(u.cells.size≠ti.size):=by simp only[ne_eq,Decidable.not_not];omega
  simp only[if_neg this];exact hrun
 ·have hlen':(xs.set i y).length=xs.length:=by simp
  refine⟨?_,.inr ⟨b,cap,_,by rw[hlen'],hbase,setRow_heap w b cur _ _ (0,0) hgb,by rw[hlen'];exact hn,hcm,?_,by rw[hlen']⟩⟩
  ·rw[hlen'];simp only[List.length_take,List.length_append,List.length_drop,Array.length_toList];omega
  ·simp only[List.size_toArray,List.length_append,List.length_take,List.length_drop,Array.length_toList];omega
 ·intro j hj k hk;have hlen':(xs.set i y).length=xs.length:=by simp
  rw[hlen'] at hj;have hk':k<U.size t':=by rw[E.enc_len] at hk;exact hk
  have hjl:(j+1)*U.size t'<=xs.length*U.size t':=Nat.mul_le_mul_right _ hj;have hj1:(j+1)*U.size t'=j*U.size t'+U.size t':=by rw[Nat.add_mul,Nat.one_mul]
  have hget:∀q,q<xs.length*U.size t'->((cur.toList.take (i*U.size t'+off)++u.cells.toList++cur.toList.drop (i*U.size t'+off+u.cells.toList.length)).take (xs.length*U.size t')).getD q undef=
    (cur.toList.take (i*U.size t'+off)++u.cells.toList++cur.toList.drop (i*U.size t'+off+u.cells.toList.length)).getD q undef:=fun q hq=>by
   simp[hq]
  rw[hget _ (by omega)];have hcur:∀q,q<xs.length*U.size t'->cs.getD q undef=cur.toList.getD q undef:=fun q hq=>by
   rw[<- htake];simp[hq]
  by_cases hji:j=i
  ·subst hji;have hyj:(xs.set j y)[j]'(by simpa using hj)=y:=by simp
   have hcells:∀k (hk:k<(setCells (E.enc t' xs[j]) off xc).length),Rel E w ρ st (setCells (E.enc t' xs[j]) off xc)[k]
     ((cur.toList.take (j*U.size t'+off)++u.cells.toList++cur.toList.drop (j*U.size t'+off+u.cells.toList.length)).getD (j*U.size t'+k) undef):=fun k hk=>by
    have cW:=hk;rw[aBI,E.enc_len] at cW;have:=aI7 xc u.cells.toList (E.enc t' xs[j]) off ((cur.toList.drop (j*U.size t')).take (U.size t')) (by omega) (by rw[E.enc_len];exact hle)
     (by rw[E.enc_len];simp;omega) hrel (fun k hk=>by
      have hk3:k<U.size t':=by rw[E.enc_len] at hk;exact hk
      have:=h3 j hi k hk;rw[hcur _ (by omega)] at this;simpa[List.getElem?_take,hk3,List.getElem?_drop] using this) k hk
    have e:(((cur.toList.drop (j*U.size t')).take (U.size t')).take off++u.cells.toList++((cur.toList.drop (j*U.size t')).take (U.size t')).drop (off+u.cells.toList.length)).getD k undef=
      (cur.toList.take (j*U.size t'+off)++u.cells.toList++cur.toList.drop (j*U.size t'+off+u.cells.toList.length)).getD (j*U.size t'+k) undef:=by
     have hcl:cur.toList.length=cap*U.size t':=by simpa using hcs
     simp only[List.getD_eq_getElem?_getD];rw[aY0 cur.toList u.cells.toList (j*U.size t') off (U.size t') k (by omega) (by omega) cW]
    rw[e] at this;exact this
   have:=aIf hy (f:=fun k=>(cur.toList.take (j*U.size t'+off)++u.cells.toList++cur.toList.drop (j*U.size t'+off+u.cells.toList.length)).getD (j*U.size t'+k) undef) hcells k (by rw[hyj] at hk;exact hk);simp only[hyj];exact this
  ·have hyj:(xs.set i y)[j]'(by simpa using hj)=xs[j]:=by
    rw[List.getElem_set_ne (Ne.symm hji)]
   have:=h3 j hj k (by rw[hyj] at hk;exact hk);rw[hcur _ (by omega)] at this;have e:(cur.toList.take (i*U.size t'+off)++u.cells.toList++cur.toList.drop (i*U.size t'+off+u.cells.toList.length)).getD (j*U.size t'+k) undef=cur.toList.getD (j*U.size t'+k) undef:=by
    simp only[List.getD_eq_getElem?_getD];congr 1;have hcl:cur.toList.length=cap*U.size t':=by simpa using hcs
    simp only[List.append_assoc,List.getElem?_append,List.length_take,hcl];rcases Nat.lt_or_gt_of_ne hji with hlt|hgt
    ·have:(j+1)*U.size t'<=i*U.size t':=Nat.mul_le_mul_right _ hlt;rw[if_pos (by omega)];rw[List.getElem?_take,if_pos (by omega)]
    ·have:(i+1)*U.size t'<=j*U.size t':=Nat.mul_le_mul_right _ hgt;rw[if_neg (by omega),if_neg (by omega)];rw[List.getElem?_drop];congr 1;omega
   rw[e];simp only[hyj];exact this
theorem aYT (h:RR E n N w0 ρ s a w) {look:Nat->Option (aV U)} (hlook:∀id ob,look id=some ob->s.objs id=some ob)
  {p x:aB U} {v u:Value} (hp:Rel E w ρ (aM N ρ w) p v) (hx:Rel E w ρ (aM N ρ w) x u) {id:Nat} {ob:aV U} (hs:storeAt E look p x.cellsOf=some (id,ob))
  {t:TypeId} {m:Nat} (hm:fU P t=some m) (hlen:x.cellsOf.length=m):
  ∃w' ρ',(Instr.storeAt t v u).run P w=.ok () w'/\RR E n N w0 ρ' (s.obj id ob) a w':=by
 obtain⟨ti,hti,htis⟩:=kK hm;unfold storeAt at hs;have hall:x.cellsOf.all (storable look)=true:=by
  cases hc:x.cellsOf.all (storable look)<;>rw[hc] at hs<;>simp_all
 rw[hall] at hs;simp only[cond_true] at hs;obtain⟨hsz,hrel,hone⟩:=aVv h hlook hx hall;have hvl:u.cells.toList.length=x.cellsOf.length:=by simpa using hsz
 split at hs
 ·-- a variable
  rename_i id' off;split at hs
  ·rename_i l hl';have hc:Nat.ble (off+x.cellsOf.length) l.length=true:=by
    cases hc:Nat.ble (off+x.cellsOf.length) l.length<;>rw[hc] at hs<;>simp_all
   rw[hc] at hs;simp only[cond_true,Option.some.injEq,Prod.mk.injEq] at hs;obtain⟨rfl,rfl⟩:=hs;have hle:=Nat.le_of_ble_eq_true hc;obtain⟨b,c,ty,h1,h2,h3,h4,h5⟩:=h.objs _ _ (hlook _ _ hl');cases hp with
   |ptr _ _ b' hb'=>
    rw[h1] at hb';simp only[Option.some.injEq,Prod.mk.injEq,true_and,Value.pointer.injEq,Addr.mk.injEq,and_true] at hb';subst hb';have hrun:=run_storeCells_at P b off ty u.cells.toList 0 c w h3 (by simp only[Nat.add_zero];omega) hone;simp only[Nat.add_zero] at hrun;refine⟨w.setRow b (c.toList.take off++u.cells.toList++c.toList.drop (off+u.cells.toList.length)).toArray,bZ ρ id' 0 (.pointer (some ⟨b,0,none⟩)),?_,?_⟩
    ·simp only[Instr.storeAt,Instr.sureAddr,storeVar,sizeOf,typeInfo,Sem.run_bind,Sem.run_pure,Result.andThen_ok,run_program,hti];have:¬(u.cells.size≠ti.size):=by simp only[ne_eq,Decidable.not_not];omega
     simp only[if_neg this];exact hrun
    ·have hold:∀g u',ρ id'=some (g,u')->(g=0/\u'=.pointer (some ⟨b,0,none⟩))\/((∀a,u'≠ .pointer a)/\g<0):=fun g u' hr=>by
      rw[h1] at hr;simp only[Option.some.injEq,Prod.mk.injEq] at hr;exact .inl ⟨hr.1.symm,hr.2.symm⟩
     have hsame:∀b',b'<w.heap.size->(∀g u',ρ id'=some (g,u')->blk u'≠some b')->(w.setRow b (c.toList.take off++u.cells.toList++c.toList.drop (off+u.cells.toList.length)).toArray).heap[b']?=w.heap[b']?:=fun b' _ hne=>
      setRow_other w b b' _ (fun e=>hne _ _ h1 (by simp[blk,e]))
     have hnew:∀b',blk (.pointer (some ⟨b,0,none⟩))=some b'->(∃g u',ρ id'=some (g,u')/\blk u'=some b')\/(w.heap.size<=b'):=fun b' hb'=>.inl ⟨_,_,h1,hb'⟩
     have hsimp:∀ob,s.objs id'=some ob->ob.simple=true:=fun ob ho=>by rw[hlook _ _ hl'] at ho;cases ho;rfl
     refine h.upd id' 0 _ _ hsimp hold (xJ h2 w _) hsame hnew ?_;refine⟨b,_,ty,by simp[bZ],h2,setRow_heap w b c _ ty (0,0) h3,?_,fun k hk=>?_⟩
     ·simp only[List.size_toArray,List.length_append,List.length_take,List.length_drop,Array.length_toList,aBI];omega
     ·have cW:=aI7 x.cellsOf u.cells.toList l off c.toList (by omega) hle (by simpa using h4) hrel (fun k hk=>by rw[kB];exact h5 k hk) k hk;have:=h.oA id' 0 _ hsimp hold (xJ h2 w _) hsame hnew cW;simpa using this
  ·cases hs
 ·-- an element of an own row
  rename_i id' g i off sz;split at hs
  ·rename_i t' g' xs hl';have hc:(Nat.beq g g'&&Nat.beq sz (U.size t')&&Nat.ble (off+x.cellsOf.length) (U.size t'))=true:=by
    cases hc:(Nat.beq g g'&&Nat.beq sz (U.size t')&&Nat.ble (off+x.cellsOf.length) (U.size t'))<;>rw[hc] at hs<;>simp_all
   rw[hc] at hs;simp only[cond_true] at hs;simp only[Bool.and_eq_true] at hc;obtain⟨⟨jN,qE⟩,wS⟩:=hc;obtain rfl:=Nat.eq_of_beq_eq_true jN;obtain rfl:=Nat.eq_of_beq_eq_true qE;have hle:=Nat.le_of_ble_eq_true wS;split at hs
   ·rename_i y hy;simp only[Option.some.injEq,Prod.mk.injEq] at hs;obtain⟨rfl,rfl⟩:=hs;obtain⟨u1,cs,h1,hpp,h2,h3⟩:=h.objs _ _ (hlook _ _ hl');cases hp with
    |eptrOld _ _ _ _ _ g' u' v hr hg=>
     rw[h1] at hr;simp only[Option.some.injEq,Prod.mk.injEq] at hr;omega
    |eptr _ _ _ _ _ b n' cap hr hi=>
     rw[h1] at hr;simp only[Option.some.injEq,Prod.mk.injEq,true_and] at hr;subst hr;have hnx:n'=xs.length:=by
      rcases h2.2 with ⟨h0,_⟩|⟨_,_,_,heq,_⟩
      ·cases h0
      ·simp only[Value.slice.injEq] at heq;exact heq.2.1
     have hi':i<xs.length:=by omega
     have hxi:xs.getD i (E.dflt t')=xs[i]:=by simp[hi']
     rw[hxi] at hy;obtain⟨_,hbase,row',cs',hrun,hown,hrl⟩:=aNS (P:=P) h2 h3 hi' hle hy hm hlen hsz hrel hone;have hsimp:∀ob,s.objs id'=some ob->ob.simple=true:=fun ob ho=>by rw[hlook _ _ hl'] at ho;cases ho;rfl
     have hold:∀g1 u',ρ id'=some (g1,u')->(g1=g/\u'=.slice (some ⟨b,0,none⟩) n' cap)\/((∀a,u'≠ .pointer a)/\g1<g):=fun g1 u' hr=>by
      rw[h1] at hr;simp only[Option.some.injEq,Prod.mk.injEq] at hr;exact .inl ⟨hr.1.symm,hr.2.symm⟩
     have hsame:∀b',b'<w.heap.size->(∀g u',ρ id'=some (g,u')->blk u'≠some b')->(w.setRow b row').heap[b']?=w.heap[b']?:=fun b' _ hne=>
      setRow_other w b b' _ (fun e=>hne _ _ h1 (by simp[blk,e]))
     have hnew:∀b',blk (.slice (some ⟨b,0,none⟩) n' cap)=some b'->(∃g u',ρ id'=some (g,u')/\blk u'=some b')\/(w.heap.size<=b'):=fun b' hb'=>.inl ⟨_,_,h1,hb'⟩
     have hb:=xJ hbase w row';refine⟨_,_,hrun,h.upd id' g _ _ hsimp hold hb hsame hnew ?_⟩;exact⟨_,cs',by simp[bZ],hpp,hown,fun j hj k hk=>h.oA id' g _ hsimp hold hb hsame hnew (hrl j hj k hk)⟩
   ·cases hs
  ·cases hs
 ·-- an element of a slice in an own row
  rename_i id' i g j off sz;split at hs
  ·rename_i t' g0 gm xs hl';split at hs
   ·rename_i t1 ys hmr;have hcs:=aLv hs;clear hs;obtain⟨hc,hs⟩:=hcs;simp only[Bool.and_eq_true] at hc;obtain⟨qE,wS⟩:=hc;obtain rfl:=Nat.eq_of_beq_eq_true qE;have hle:=Nat.le_of_ble_eq_true wS;split at hs
    ·rename_i y hy;split at hs
     ·rename_i z hz;simp only[Option.some.injEq,Prod.mk.injEq] at hs;obtain⟨rfl,rfl⟩:=hs;have hms:=wA h hlook hmr;have hgm:g=gm:=by
       unfold nI at hmr;rw[hl'] at hmr;simp only at hmr;split at hmr
       ·obtain⟨hb,_⟩:=aLv hmr;exact Nat.eq_of_beq_eq_true hb
       ·cases hmr
      subst hgm;cases hp with
      |meptrOld _ _ _ _ _ _ g' u' v hr hg=>
       have:=(hms _ _ hr).1;omega
      |meptr _ _ _ _ _ _ b n' cap hr hi=>
       obtain⟨_,ds,hvp,h2,h3⟩:=hms _ _ hr;have hnx:n'=ys.length:=by
        rcases h2.2 with ⟨h0,_⟩|⟨_,_,_,heq,_⟩
        ·cases h0
        ·simp only[Value.slice.injEq] at heq;exact heq.2.1
       have hj:j<ys.length:=by omega
       have hyj:ys.getD j (E.dflt t1)=ys[j]:=by simp[hj]
       rw[hyj] at hy;obtain⟨_,hbase,row',ds',hrun,hown,hrl⟩:=aNS (P:=P) h2 h3 hj hle hy hm hlen hsz hrel hone;have hb:=xJ hbase w row';have hoth:∀nm g1 u1,nm≠ .mem id' i->ρ nm=some (g1,u1)->∀b',blk u1=some b'->(w.setRow b row').heap[b']?=w.heap[b']?:=fun nm g1 u1 hne cH b' hb'=>
        setRow_other w b b' _ (fun e=>h.sep _ _ _ _ _ _ b' cH hr hne hb' (by simp[blk,e]))
       have c:Chg N (fun q=>q=id') w0.heap.size ρ ρ w (w.setRow b row'):=⟨fun _ _=>rfl,fun _ _ _ _ cH=>.inl cH,hb,fun b' _ hne=>setRow_other w b b' _ (fun e=>hne _ _ _ rfl hr (by simp[blk,e])),
        fun nm g1 u1 b' hd cH hb'=>.inl ⟨nm,g1,u1,hd,cH,hb'⟩,fun nm nm' g1 g2 u1 u2 b' _ _ cH jA hne bV=>h.sep _ _ _ _ _ _ b' cH jA hne bV⟩
       refine⟨_,ρ,hrun,h.change c rfl (fun q hq=>?_) (fun nm g1 u1 hd cH=>?_) (fun q ob hq ho=>?_) (fun q ob hq _=>⟨.deep t' g0 g (xs.set i z),by rw[hq];simp[ASt.obj]⟩)⟩
       ·have:Nat.beq q id'=false:=fG hq;simp[ASt.obj,this]
       ·refine⟨_,by rw[hd];simp[ASt.obj];rfl,fun e=>by cases e⟩
       ·subst hq;have:(s.obj q (.deep t' g0 g (xs.set i z))).objs q=some (.deep t' g0 g (xs.set i z)):=by simp[ASt.obj]
        rw[this] at ho;obtain rfl:=Option.some.inj ho;obtain⟨u1,cs,r1,r2,r3,r4,r5,r6⟩:=h.objs _ _ (hlook _ _ hl');have keep:∀{nm:Name} {g1:Nat} {u1:Value} {e:TypeId} {m k:Nat} {cs:List Value},nm≠ .mem q i->ρ nm=some (g1,u1)->w.ownsRow w0.heap.size e m u1 k cs->(w.setRow b row').ownsRow w0.heap.size e m u1 k cs:=fun hne cH hw=>by
         refine⟨hw.1,?_⟩;rcases hw.2 with hn'|⟨g',cap,cur,rfl,hb,hg,rest⟩
         ·exact .inl hn'
         ·exact .inr ⟨g',cap,cur,rfl,hb,by rw[hoth _ _ _ hne cH g' rfl];exact hg,rest⟩
        refine⟨u1,cs,r1,r2,by rw[List.length_set];exact keep (fun e=>by cases e) r1 r3,r4,fun k hk=>r5 k (by rw[List.length_set] at hk;exact hk),fun k hk=>?_⟩;have hk':k<xs.length:=by rw[List.length_set] at hk;exact hk
        obtain⟨t2,zs,v2,qI,p1,p2,p3,p4,p5,p6⟩:=r6 k hk'
        by_cases hki:k=i
        ·subst hki;rw[hr] at p2;simp only[Option.some.injEq,Prod.mk.injEq,true_and] at p2;subst p2;refine⟨t1,ys.set j y,_,ds',?_,hr,p3,hvp,hown,fun i hi k hk=>c.rel (hrl i hi k hk)⟩;simp only[List.getElem_set_self];exact E.unsl_ok _ _ _ _ hz
        ·have e1:(xs.set i z)[k]=xs[k]:=by rw[List.getElem_set_ne (Ne.symm hki)]
         rw[e1];exact⟨t2,zs,v2,qI,p1,p2,p3,p4,keep (fun e=>hki (Name.mem.inj e).2) p2 p5,fun i hi k hk=>c.rel (p6 i hi k hk)⟩
     ·cases hs
    ·cases hs
   ·cases hs
  ·cases hs
 ·cases hs
end
end Go.Vm
namespace Go.Vm
open Go.RowKit
set_option linter.unusedVariables false
section
variable {U:dH} {E:Enc U} {n:Nat} {N:Nat->Prop} {w0:Fr} {w w':World} {ρ ρ':Own} {s:ASt U} {a:Act} {P:Program}
theorem RR.oB (h:RR E n N w0 ρ s a w) {id:Nat} (hf:s.objs id=none):∀g u,ρ id=some (g,u)->False:=fun g u hr=>by
 obtain⟨ob,ho,_⟩:=h.dom _ _ _ hr;rw[show (Name.ob id).id=id from rfl,hf] at ho;cases ho
theorem RR.aNq (h:RR E n N w0 ρ s a w) {id:Nat} (hf:s.objs id=none) {l:List (aB U)} {c:Array Value} (ty:TypeId) (hc:c.size=l.length)
  (hl:∀k (hk:k<l.length),Rel E w ρ (aM N ρ w) l[k] (c.getD k undef)):
  RR E n N w0 (bZ ρ id 0 (.pointer (some ⟨w.heap.size,0,none⟩))) (s.obj id (.cells l)) a (w.alloc (.cells c ty)):=by
 have hfree:=h.oB hf;have hold:∀g u,ρ id=some (g,u)->(g=0/\u=.pointer (some ⟨w.heap.size,0,none⟩))\/((∀a,u≠ .pointer a)/\g<0):=fun g u hr=>(hfree g u hr).elim
 have hbw:Below w0.heap.size w (w.alloc (.cells c ty)):=(Below.refl _ _).alloc h.below.size _;have hsame:∀b,b<w.heap.size->(∀g u,ρ id=some (g,u)->blk u≠some b)->(w.alloc (.cells c ty)).heap[b]?=w.heap[b]?:=fun b hb _=>heap_alloc_old w _ hb
 have hnew:∀b,blk (.pointer (some ⟨w.heap.size,0,none⟩))=some b->(∃g u,ρ id=some (g,u)/\blk u=some b)\/(w.heap.size<=b):=fun b hb=>by
  simp only[blk,Option.some.injEq] at hb;exact .inr (by omega)
 have hsimp:∀ob,s.objs id=some ob->ob.simple=true:=fun ob ho=>by rw[hf] at ho;cases ho
 refine h.upd id 0 _ _ hsimp hold hbw hsame hnew ?_;exact⟨w.heap.size,c,ty,by simp[bZ],h.below.size,heap_alloc_new w _,hc,fun k hk=>h.oA id 0 _ hsimp hold hbw hsame hnew (hl k hk)⟩
theorem RR.newRow (h:RR E n N w0 ρ s a w) {id g':Nat} {u':Value} {t:U.τ} {xs:List (U.T t)} {cs:List Value} (hsimp:∀ob,s.objs id=some ob->ob.simple=true)
  (hold:∀g u,ρ id=some (g,u)->(∀a,u≠ .pointer a)/\g<g') (hg:w.grownBy w' ((ρ id).bind fun p=>blk p.2))
  (hown:w'.ownsRow w0.heap.size (U.ety t) (U.size t) u' xs.length cs)
  (hnew:∀b,blk u'=some b->(∃g u,ρ id=some (g,u)/\blk u=some b)\/(w.heap.size<=b))
  (hl:∀i (hi:i<xs.length) k (hk:k<(E.enc t xs[i]).length),Rel E w ρ (aM N ρ w) (E.enc t xs[i])[k] (cs.getD (i*U.size t+k) undef)):
  RR E n N w0 (bZ ρ id g' u') (s.obj id (.row t g' xs)) a w':=by
 have hold':∀g u,ρ id=some (g,u)->(g=g'/\u=u')\/((∀a,u≠ .pointer a)/\g<g'):=fun g u hr=>.inr (hold g u hr)
 have hbw:Below w0.heap.size w w':=(Below.refl _ _).grown hg h.below.size (fun k hk=>by
  cases hr:ρ id with
  |none=>rw[hr] at hk;cases hk
  |some p=>
   rw[hr] at hk;exact((h.own (g:=p.1) (u:=p.2) hr).2 k hk).1)
 have hsame:∀b,b<w.heap.size->(∀g u,ρ id=some (g,u)->blk u≠some b)->w'.heap[b]?=w.heap[b]?:=fun b hb hne=>by
  refine hg.block b hb (fun e=>?_);cases hr:ρ id with
  |none=>rw[hr] at e;cases e
  |some p=>
   rw[hr] at e;exact hne p.1 p.2 hr e.symm
 have hpp:∀a,u'≠ .pointer a:=fun a e=>by
  rcases hown.2 with ⟨h0,_⟩|⟨_,_,_,h0,_⟩<;>rw[h0] at e<;>cases e
 refine h.upd id g' u' _ hsimp hold' hbw hsame hnew ?_;exact⟨u',cs,by simp[bZ],hpp,hown,fun i hi k hk=>h.oA id g' u' hsimp hold' hbw hsame hnew (hl i hi k hk)⟩
theorem pB {t:TypeId} {l:List (aB U)} (hz:zeroCells P t=some l):
  ∃z,(zeroValue t).run P w=.ok z w/\z.cells.size=l.length/\∀(st:Nat->Prop) k (hk:k<l.length),Rel E w ρ st l[k] (z.cells.getD k undef):=by
 unfold zeroCells at hz;split at hz
 ·rename_i i hi;split at hz
  ·rename_i z hzz;obtain rfl:=Option.some.inj hz;refine⟨z,by simp[zeroValue,typeInfo,hi,hzz],by simp,fun st k hk=>?_⟩;have hk':k<z.cells.size:=by simpa using hk
   have e:z.cells.getD k undef=z.cells.toList[k]'(by simpa using hk'):=by simp[hk']
   rw[e];simp only[List.getElem_map];exact aIg _
  ·cases hz
 ·cases hz
theorem bLO (h:RR E n N w0 ρ s a w) {id:Nat} (hf:s.objs id=none) {t:TypeId} {l:List (aB U)} (hz:zeroCells P t=some l):
  ∃w' ρ',(Instr.alloc t true (.tuple #[])).run P w=.ok (.pointer (some ⟨w.heap.size,0,none⟩)) w'/\RR E n N w0 ρ' (s.obj id (.cells l)) a w'/\ρ' id=some (0,.pointer (some ⟨w.heap.size,0,none⟩)):=by
 obtain⟨z,hrun,hsz,hl⟩:=pB (E:=E) (w:=w) (ρ:=ρ) hz;refine⟨w.alloc (.cells z.cells t),_,?_,h.aNq hf t hsz (hl _),by simp[bZ]⟩;simp[Instr.alloc,hrun,newVar,newRow]
theorem bLP {C:Cfg U} (h:RR C.E n N w0 ρ s a w) {id:Nat} (hf:s.objs id=none) {t:TypeId} {x:(k:U.κ)×U.K k} (hm:C.opqOf t=some x):
  ∃w' ρ',(Instr.alloc t true (.tuple #[])).run C.P w=.ok (.pointer (some ⟨w.heap.size,0,none⟩)) w'/\RR C.E n N w0 ρ' (s.obj id (.opq x.1 x.2)) a w'/\ρ' id=some (0,.pointer (some ⟨w.heap.size,0,none⟩)):=by
 obtain⟨w',hrun,hb,hrep⟩:=C.opqOK t x hm w w0.heap.size h.below.size;have hfree:=h.oB hf;have hsimp:∀ob,s.objs id=some ob->ob.simple=true:=fun ob ho=>by rw[hf] at ho;cases ho
 have hno:=h.pV hsimp;refine⟨w',bZ ρ id 0 (.pointer (some ⟨w.heap.size,0,none⟩)),hrun,?_,by simp[bZ]⟩;refine h.upd id 0 _ _ hsimp (fun g u hr=>(hfree g u hr).elim) (hb.mono h.below.size) (fun b hb' _=>hb.block b hb') (fun b hb'=>?_) ?_
 ·simp only[blk,Option.some.injEq] at hb';exact .inr (by omega)
 ·show C.E.rep x.1 x.2 w' w0.heap.size (bZ ρ id 0 _ (.ob id)) (fun j=>bZ ρ id 0 _ (.mem id j));have e1:bZ ρ id 0 (.pointer (some ⟨w.heap.size,0,none⟩)) (.ob id)=some (0,.pointer (some ⟨w.heap.size,0,none⟩)):=by simp[bZ]
  have e2:(fun j=>bZ ρ id 0 (.pointer (some ⟨w.heap.size,0,none⟩)) (.mem id j))=fun _=>none:=funext fun j=>by
   unfold bZ;rw[if_neg (fun e=>by cases e),hno j]
  rw[e1,e2];exact hrep
theorem bK7 (h:RR E n N w0 ρ s a w) {look:Nat->Option (aV U)} (hlook:∀id ob,look id=some ob->s.objs id=some ob) {id:Nat} (hf:s.objs id=none) (t:TypeId)
  {x:aB U} {v:Value} (hx:Rel E w ρ (aM N ρ w) x v) (hs:x.cellsOf.all (storable look)=true):
  ∃w' ρ',(Instr.box t v).run P w=.ok (.pointer (some ⟨w.heap.size,0,none⟩)) w'/\RR E n N w0 ρ' (s.obj id (.cells x.cellsOf)) a w'/\ρ' id=some (0,.pointer (some ⟨w.heap.size,0,none⟩)):=by
 obtain⟨hsz,hrel,_⟩:=aVv h hlook hx hs;refine⟨w.alloc (.cells v.cells t),_,?_,h.aNq hf t hsz (fun k hk=>by have:=hrel k hk;rw[kB] at this;exact this),by simp[bZ]⟩;simp[Instr.box,newVar,newRow]
theorem bGp (vs:List Value):∀(off:Nat) (cs:Array Value) (i:Nat),(vs.zipIdx i).foldl (fun cs (p:Value×Nat)=>cs.setIfInBounds (off+p.2) p.1) cs=(vs.zipIdx (off+i)).foldl (fun cs (p:Value×Nat)=>cs.setIfInBounds p.2 p.1) cs:=by
 induction vs with
 |nil=>intro off cs i;rfl
 |cons v vs ih=>
  intro off cs i;simp only[List.zipIdx_cons,List.foldl_cons];rw[ih off _ (i+1)];rfl
theorem bGo (vs:List Value):∀(off:Nat) (cs:Array Value),off+vs.length<=cs.size->(vs.zipIdx off).foldl (fun cs (p:Value×Nat)=>cs.setIfInBounds p.2 p.1) cs=(cs.toList.take off++vs++cs.toList.drop (off+vs.length)).toArray:=by
 induction vs with
 |nil=>
  intro off cs h;simp
 |cons v vs ih=>
  intro off cs h;simp only[List.length_cons] at h;simp only[List.zipIdx_cons,List.foldl_cons];rw[ih (off+1) _ (by simp;omega)];congr 1;have hlt:off<cs.toList.length:=by simp;omega
  simp only[Array.toList_setIfInBounds];have h1:(cs.toList.set off v).take (off+1)=cs.toList.take off++[v]:=by
   rw[List.take_succ_eq_append_getElem (by simp;omega)];simp[List.take_set_of_le]
  have h2:(cs.toList.set off v).drop (off+1+vs.length)=cs.toList.drop (off+(v::vs).length):=by
   rw[List.drop_set_of_lt (by omega)];simp only[List.length_cons];congr 1;omega
  rw[h1,h2];simp
theorem aGI {st:Nat->Prop} {look:Nat->Option (aV U)} (hst:∀(x:aB U) v,Rel E w ρ st x v->storable look x=true->v.oneCell'=true) {place place':Nat->Option (Nat×Nat)} (hp:∀i q,place i=some q->place' i=some q):
  ∀(parts:List (Nat×aB U)) (parts':List (Nat×Value)) (l l':List (aB U)) (c:Array Value),parts.length=parts'.length->
   (∀k (h:k<parts.length) (h':k<parts'.length),parts[k].1=parts'[k].1/\Rel E w ρ st parts[k].2 parts'[k].2)->
   kU look place l parts=some l'->c.size=l.length->(∀k (h:k<l.length),Rel E w ρ st l[k] (c.getD k undef))->
   ∃c',Instr.fill place' c parts'=some c'/\c'.size=l'.length/\∀k (h:k<l'.length),Rel E w ρ st l'[k] (c'.getD k undef):=by
 intro parts
 induction parts with
 |nil=>
  intro parts' l l' c hlen _ hf hc hl;have:parts'=[]:=List.eq_nil_of_length_eq_zero (by simpa using hlen.symm);subst this;simp only[kU,Option.some.injEq] at hf;subst hf;exact⟨c,rfl,hc,hl⟩
 |cons p parts ih=>
  intro parts' l l' c hlen hrel hf hc hl;obtain⟨i,x⟩:=p;cases parts' with
  |nil=>simp at hlen
  |cons p' parts'=>
   obtain⟨i',v⟩:=p';obtain⟨h1,h2⟩:=hrel 0 (by simp) (by simp);simp only[List.getElem_cons_zero] at h1 h2;subst h1;simp only[kU] at hf;split at hf
   ·cases hf
   ·rename_i off size hpl;have hcnd:(x.cellsOf.all (storable look)&&Nat.beq x.cellsOf.length size&&Nat.ble (off+x.cellsOf.length) l.length)=true:=by
     cases hcnd:(x.cellsOf.all (storable look)&&Nat.beq x.cellsOf.length size&&Nat.ble (off+x.cellsOf.length) l.length)<;>rw[hcnd] at hf<;>simp_all
    rw[hcnd] at hf;simp only[cond_true] at hf;simp only[Bool.and_eq_true] at hcnd;obtain⟨⟨jN,qE⟩,wS⟩:=hcnd;have hsz:=Nat.eq_of_beq_eq_true qE;have hle:=Nat.le_of_ble_eq_true wS
    -- the value's cells
    have hv:v.cells.size=x.cellsOf.length/\∀k (hk:k<x.cellsOf.length),Rel E w ρ st x.cellsOf[k] (v.cells.toList.getD k undef):=by
     by_cases hag:∃l,x=.agg l
     ·obtain⟨la,rfl⟩:=hag;cases h2 with
      |agg _ vs hn hla=>
       refine⟨hn,fun k hk=>?_⟩;show Rel E w ρ st la[k] (vs.toList.getD k undef);rw[kB];exact hla k hk
     ·have hcc:x.cellsOf=[x]:=by
       cases x<;>first|rfl|exact absurd ⟨_,rfl⟩ hag
      have hcell:storable look x=true:=by rw[hcc] at jN;simpa using jN
      have hvone:v.oneCell'=true:=hst x v h2 hcell;rw[hcc,cells_one hvone];refine⟨rfl,fun k hk=>?_⟩;have:k=0:=by simpa using hk
      subst this;simpa using h2
    have hcs:∀k (h:k<(setCells l off x.cellsOf).length),Rel E w ρ st (setCells l off x.cellsOf)[k] ((c.toList.take off++v.cells.toList++c.toList.drop (off+v.cells.toList.length)).getD k undef):=
     aI7 x.cellsOf v.cells.toList l off c.toList (by simp[hv.1]) hle (by simpa using hc) hv.2 (fun k hk=>by rw[kB];exact hl k hk)
    have hvl:v.cells.toList.length=x.cellsOf.length:=by simpa using hv.1
    obtain⟨c',hc',hsz',hrel'⟩:=ih parts' (setCells l off x.cellsOf) l' (c.toList.take off++v.cells.toList++c.toList.drop (off+v.cells.toList.length)).toArray (by simpa using hlen)
     (fun k h h'=>hrel (k+1) (by simp;omega) (by simp;omega)) hf
     (by simp only[List.size_toArray,List.length_append,List.length_take,List.length_drop,Array.length_toList,aBI];omega) (fun k hk=>by simpa using hcs k hk)
    refine⟨c',?_,hsz',hrel'⟩;simp only[Instr.fill,hp _ _ hpl];have h3:¬(v.cells.size≠size\/off+v.cells.size > c.size):=by omega
    have h4:(decide (v.cells.size≠size)||decide (off+v.cells.size > c.size))=false:=by simpa using h3
    rw[if_neg (by simpa using h3)];have e:v.cells.zipIdx.foldl (fun cs (p:Value×Nat)=>cs.setIfInBounds (off+p.2) p.1) c=(c.toList.take off++v.cells.toList++c.toList.drop (off+v.cells.toList.length)).toArray:=by
     rw[<- Array.foldl_toList,Array.toList_zipIdx,bGp,Nat.add_zero,bGo _ _ _ (by omega)]
    rw[<- hc',<- e]
end
end Go.Vm
namespace Go.Vm
open Go.RowKit
set_option linter.unusedVariables false
section
variable {U:dH} {n:Nat} {N:Nat->Prop} {w0:Fr} {w w':World} {ρ ρ':Own} {s:ASt U} {a:Act}
theorem mH {C:Cfg U} {t:TypeId} {τ:U.τ} (h:iD C t=some τ):
  C.P.underlying t=some (.slice (U.ety τ))/\∃i,C.P.info? (U.ety τ)=some i/\i.size=U.size τ:=by
 unfold iD at h;split at h
 ·rename_i e he;split at h
  ·rename_i m τ' hm hτ;have hc:(Nat.beq m (U.size τ')&&Nat.beq e (U.ety τ'))=true:=by
    cases hc:(Nat.beq m (U.size τ')&&Nat.beq e (U.ety τ'))<;>rw[hc] at h<;>simp_all
   rw[hc] at h;simp only[cond_true,Option.some.injEq] at h;subst h;simp only[Bool.and_eq_true] at hc;obtain rfl:=Nat.eq_of_beq_eq_true hc.1;obtain rfl:=Nat.eq_of_beq_eq_true hc.2;exact⟨he,kK hm⟩
  ·cases h
 ·cases h
theorem kS {t t2:U.τ} {xs:List (U.T t2)} {ys:List (U.T t)} (h:kD t t2 xs=some ys):∃e:t2=t,e▸xs=ys:=by
 unfold kD at h;split at h
 ·rename_i e _;exact⟨e,Option.some.inj h⟩
 ·cases h
def uK (E:Enc U) (w:World) (ρ:Own) (st:Nat->Prop) (t:U.τ) (xs:List (U.T t)) (v:Value):Prop:=
 ((∃ad,v=.slice ad 0 0)/\xs=[])\/∃(b o cap:Nat) (f:Nat->Value),v=.slice (some ⟨b,o,none⟩) xs.length cap/\xs.length<=cap/\
  (∀j,j<xs.length*U.size t->w.cell? ⟨b,o+j,none⟩=some (f j))/\
  ∀i (h:i<xs.length) k (hk:k<(E.enc t xs[i]).length),Rel E w ρ st (E.enc t xs[i])[k] (f (i*U.size t+k))
theorem wY {E:Enc U} {st:Nat->Prop} {base:Nat} {t:U.τ} {xs:List (U.T t)} {u:Value} {cs:List Value} (h2:w.ownsRow base (U.ety t) (U.size t) u xs.length cs)
  (h3:∀i (h:i<xs.length) k (hk:k<(E.enc t xs[i]).length),Rel E w ρ st (E.enc t xs[i])[k] (cs.getD (i*U.size t+k) undef)):uK E w ρ st t xs u:=by
 rcases h2.2 with ⟨h0,hn⟩|⟨gb,cap,cur,heq,hbase,hgb,hn,hcm,hcs,htake⟩
 ·exact .inl ⟨⟨_,h0⟩,List.eq_nil_of_length_eq_zero hn⟩
 ·refine .inr ⟨gb,0,cap,fun j=>cs.getD j undef,heq,hn,fun j hj=>?_,h3⟩;rw[Nat.zero_add,cell_of_row w gb j cur _ (0,0) hgb];have h6:cs[j]?=cur[j]?:=by
   rw[<- htake,List.getElem?_take,if_pos hj];simp
  have:j<cs.length:=by rw[h2.1];exact hj
  rw[<- h6];simp[this]
theorem RR.aBL {E:Enc U} (h:RR E n N w0 ρ s a w) {id:Nat} {t:U.τ} {g:Nat} {xs:List (U.T t)} (ho:s.objs id=some (.row t g xs)):
  ∃u cs,ρ id=some (g,u)/\(∀a,u≠ .pointer a)/\w.ownsRow w0.heap.size (U.ety t) (U.size t) u xs.length cs/\uK E w ρ (aM N ρ w) t xs u/\
   ∀i (h:i<xs.length) k (hk:k<(E.enc t xs[i]).length),Rel E w ρ (aM N ρ w) (E.enc t xs[i])[k] (cs.getD (i*U.size t+k) undef):=by
 obtain⟨u,cs,h1,hp,h2,h3⟩:=h.objs _ _ ho;exact⟨u,cs,h1,hp,h2,wY h2 h3,h3⟩
theorem bIA {E:Enc U} {st:Nat->Prop} {base:Nat} {t2:U.τ} {zs:List (U.T t2)} {u:Value} {cs:List Value} (h2:w.ownsRow base (U.ety t2) (U.size t2) u zs.length cs)
  (h3:∀i (h:i<zs.length) k (hk:k<(E.enc t2 zs[i]).length),Rel E w ρ st (E.enc t2 zs[i])[k] (cs.getD (i*U.size t2+k) undef)) {lo hi c:Nat} {ad:Option Addr} (hle:lo<=hi)
  (had:(ad=none/\c=0/\lo=hi)\/∃b n cap o,u=.slice (some ⟨b,0,none⟩) n cap/\hi<=n/\ad=some ⟨b,o,none⟩/\(lo<hi->o=lo*U.size t2)/\hi-lo<=c):
  uK E w ρ st t2 ((zs.take hi).drop lo) (.slice ad (hi-lo) c):=by
 rcases had with ⟨rfl,rfl,rfl⟩|⟨b,n',cap,o,rfl,hn,rfl,ho,hcap⟩
 ·refine .inl ⟨⟨none,by rw[Nat.sub_self]⟩,?_⟩;exact List.drop_eq_nil_of_le (by rw[List.length_take];omega)
 ·rcases h2.2 with ⟨h0,_⟩|⟨gb,cap',cur,heq,hbase,hgb,hnn,hcm,hcs,htake⟩
  ·cases h0
  simp only[Value.slice.injEq,Option.some.injEq,Addr.mk.injEq,and_true] at heq;obtain⟨rfl,rfl,rfl⟩:=heq;have hlen:((zs.take hi).drop lo).length=hi-lo:=by rw[List.length_drop,List.length_take];omega
  refine .inr ⟨b,o,c,fun k=>cs.getD (lo*U.size t2+k) undef,by rw[hlen],by rw[hlen];exact hcap,fun j hj=>?_,fun i hi' k hk=>?_⟩
  ·rw[hlen] at hj;have hlt:lo<hi:=by
    refine Classical.byContradiction fun hn=>?_
    rw[show hi-lo=0 by omega,Nat.zero_mul] at hj;omega
   rw[ho hlt,cell_of_row w b _ cur _ (0,0) hgb];have hin:lo*U.size t2+j<zs.length*U.size t2:=by
    have h4:(lo+(hi-lo))*U.size t2<=zs.length*U.size t2:=Nat.mul_le_mul_right _ (by omega);rw[Nat.add_mul] at h4;omega
   have h6:cs[lo*U.size t2+j]?=cur[lo*U.size t2+j]?:=by
    rw[<- htake,List.getElem?_take,if_pos hin];simp
   have:lo*U.size t2+j<cs.length:=by rw[h2.1];exact hin
   rw[<- h6];simp[this]
  ·rw[hlen] at hi';have e:((zs.take hi).drop lo)[i]'(by rw[hlen];exact hi')=zs[lo+i]'(by omega):=by simp
   show Rel E w ρ st _ (cs.getD (lo*U.size t2+(i*U.size t2+k)) undef);rw[show lo*U.size t2+(i*U.size t2+k)=(lo+i)*U.size t2+k by rw[Nat.add_mul,Nat.add_assoc]];simp only[e];exact h3 (lo+i) (by omega) k (by rw[e] at hk;exact hk)
theorem aIb {E:Enc U} (h:RR E n N w0 ρ s a w) {look:Nat->Option (aV U)} (hlook:∀id ob,look id=some ob->s.objs id=some ob) {t:U.τ}
  {x:aB U} {v:Value} (hx:Rel E w ρ (aM N ρ w) x v) {ys:List (U.T t)} (hr:rowOf E look t x=some ys):uK E w ρ (aM N ρ w) t ys v:=by
 unfold rowOf at hr;split at hr
 ·split at hr
  ·rename_i id g _ t2 g' zs hl;have hc:Nat.beq g g'=true:=by cases hc:Nat.beq g g'<;>rw[hc] at hr<;>simp_all
   rw[hc] at hr;simp only[cond_true] at hr;obtain rfl:=Nat.eq_of_beq_eq_true hc;obtain⟨rfl,rfl⟩:=kS hr;obtain⟨u,cs,h1,hp,h2,h3,_⟩:=h.aBL (hlook _ _ hl);cases hx with
   |osl _ _ u' hr' hp'=>
    rw[h1] at hr';simp only[Option.some.injEq,Prod.mk.injEq,true_and] at hr';subst hr';exact h3
   |oslOld _ _ g' u' v hr' hg=>
    rw[h1] at hr';simp only[Option.some.injEq,Prod.mk.injEq] at hr';omega
  ·cases hr
 ·rename_i t2 zs;obtain⟨rfl,rfl⟩:=kS hr;cases hx with
  |jI _=>exact .inl ⟨⟨_,rfl⟩,rfl⟩
  |sle _ ad=>exact .inl ⟨⟨_,rfl⟩,rfl⟩
  |sl _ _ b o cap f hb hcap hc hl=>exact .inr ⟨b,o,cap,f,rfl,hcap,hc,hl⟩
 ·obtain rfl:=Option.some.inj hr;cases hx;exact .inl ⟨⟨_,rfl⟩,rfl⟩
 ·split at hr
  ·rename_i t2 zs hm;obtain⟨rfl,rfl⟩:=kS hr;have hms:=wA h hlook hm;cases hx with
   |mslOld _ _ _ g' u' v hr' hg=>
    have:=(hms _ _ hr').1;omega
   |msl _ _ _ u hr'=>
    obtain⟨_,ds,hp,h2,h3⟩:=hms _ _ hr';exact wY h2 h3
  ·cases hr
 ·rename_i id g lo hi sz;split at hr
  ·rename_i t2 g' zs hl;have hc:(Nat.beq g g'&&Nat.beq sz (U.size t2))=true:=by cases hc:(Nat.beq g g'&&Nat.beq sz (U.size t2))<;>rw[hc] at hr<;>simp_all
   rw[hc] at hr;simp only[cond_true] at hr;simp only[Bool.and_eq_true] at hc;obtain rfl:=Nat.eq_of_beq_eq_true hc.1;obtain rfl:=Nat.eq_of_beq_eq_true hc.2;obtain⟨rfl,rfl⟩:=kS hr;obtain⟨u,cs,h1,hp,h2,_,h3⟩:=h.aBL (hlook _ _ hl);cases hx with
   |ovwOld _ _ _ _ _ g' u' v hr' hg=>
    rw[h1] at hr';simp only[Option.some.injEq,Prod.mk.injEq] at hr';omega
   |ovw _ _ _ _ _ u' ad c hr' _ hle had=>
    rw[h1] at hr';simp only[Option.some.injEq,Prod.mk.injEq,true_and] at hr';subst hr';exact bIA h2 h3 hle had
  ·cases hr
 ·cases hr
theorem bCA (w:World) (row:Option Nat):w.grownBy w row:=⟨rfl,rfl,rfl,Nat.le_refl _,fun _ _ _=>rfl⟩
theorem iG {u:Value} (h:∀a,u≠ .pointer a):u.ownBlock=blk u:=by
 cases u<;>first|rfl|skip
 ·exact absurd rfl (h _)
 ·rename_i o _ _;cases o<;>rfl
def aDN (w:World) (m size:Nat) (f:Nat->Value) (y:Value):Prop:=
 ((∃ad,y=.slice ad 0 0)/\m=0)\/∃(b o cap:Nat),y=.slice (some ⟨b,o,none⟩) m cap/\m<=cap/\∀j,j<m*size->w.cell? ⟨b,o+j,none⟩=some (f j)/\(f j).oneCell'=true
theorem aHl {P:Program} {base:Nat} {t ty e:TypeId} (hu:P.underlying t=some (.slice e)) {i:TypeInfo} (hi:P.info? e=some i) {z:Value} (hz:i.zero=some z) {size:Nat} (his:i.size=size)
  (hzs:z.cells.size=size) (hpos:0<size) (hby:1<=i.bytes) {u y:Value} {n m:Nat} {cs:List Value} (hown:w.ownsRow base e size u n cs) (hpu:∀a,u≠ .pointer a) {f:Nat->Value}
  (hy:aDN w m size f y) (hbytes:(n+m)*i.bytes<=140737488355328) (hbase:base<=w.heap.size):
  ∃v' w',(Builtin.append_ #[t,t] ty #[u,y]).run P w=.ok v' w'/\w'.ownsRow base e size v' (n+m) (cs++(List.range (m*size)).map f)/\w.grownBy w' u.ownBlock/\(∀p,v'≠ .pointer p)/\
   ∀b,blk v'=some b->blk u=some b\/w.heap.size<=b:=by
 have hle:n+m<=maxLen:=by
  have:(n+m)*1<=(n+m)*i.bytes:=Nat.mul_le_mul_left _ hby;unfold maxLen;omega
 rcases hy with ⟨⟨ad,rfl⟩,rfl⟩|⟨b,o,cap,rfl,hcap,hc⟩
 ·refine⟨u,w,?_,by simpa using hown,bCA _ _,hpu,fun b hb=>.inl hb⟩;rcases hown.2 with ⟨rfl,_⟩|⟨gb,cap,cur,rfl,hbase,hgb,hn,_⟩
  ·cases ad<;>simp[Builtin.append_,run_underlying hu,sizeOf,typeInfo,hi,Builtin.lenOf,Builtin.firstCells,loadCells,loadCellsFrom]
  ·cases ad<;>simp[Builtin.append_,run_underlying hu,sizeOf,typeInfo,hi,Builtin.lenOf,Builtin.firstCells,hn,storeCells,loadCells,loadCellsFrom]
 ·have hnl:((List.range (m*size)).map f).length=m*size:=by simp
  have hone:∀x∈(List.range (m*size)).map f,x.oneCell'=true:=fun x hx=>by
   obtain⟨j,hj,rfl⟩:=List.mem_map.1 hx;exact(hc j (by simpa using hj)).2
  have hnews:∀j x,((List.range (m*size)).map f)[j]?=some x->w.cell? ((⟨b,o,none⟩:Addr).add j)=some x:=fun j x hx=>by
   have hj:j<m*size:=by
    have:=(List.getElem?_eq_some_iff.1 hx).1;simpa using this
   rw[Addr.qL,(hc j hj).1];have:=(List.getElem?_eq_some_iff.1 hx).2;simp at this;rw[this]
  obtain⟨v',w',hrun,hown',hgrow,hnil⟩:=run_append_own (P:=P) w base t ty e i z size i.bytes hu hi hz his rfl hzs hpos u n cs hown
   ⟨b,o,none⟩ m cap ((List.range (m*size)).map f) hnl hnews hone hle hbytes hbase
  have hpv:∀p,v'≠ .pointer p:=fun p e=>by
   rcases hown'.2 with ⟨h0,_⟩|⟨_,_,_,h0,_⟩<;>rw[h0] at e<;>cases e
  refine⟨v',w',hrun,hown',hgrow,hpv,fun b' hb'=>?_⟩;rcases hown.2 with ⟨rfl,hx0⟩|⟨gb,cap',cur,rfl,hbase,hgb,hn,hcm,hcs,htake⟩
  ·refine .inr ?_;subst hx0;have hcs0:cs=[]:=List.eq_nil_of_length_eq_zero (by rw[hown.1];simp);subst hcs0;obtain⟨v2,w2,hrun2,hown2,_⟩:=run_append_own (P:=P) w w.heap.size t ty e i z size i.bytes hu hi hz his rfl hzs hpos (.slice none 0 0) 0 [] (World.ownsRow_nil _ _ _ _)
    ⟨b,o,none⟩ m cap ((List.range (m*size)).map f) hnl hnews hone (by simpa using hle) (by simpa using hbytes) (Nat.le_refl _)
   rw[hrun2] at hrun;simp only[Result.ok.injEq] at hrun;obtain⟨rfl,rfl⟩:=hrun;exact(hown2.lt b' (by rw[iG hpv];exact hb')).1
  ·by_cases hroom:n+m<=cap'
   ·have hr:=run_append_room (P:=P) w t ty e i hu hi gb n cap' cur hgb ⟨b,o,none⟩ m cap ((List.range (m*size)).map f) (by rw[hnl,his]) hnews hone hroom (by
     rw[hnl,hcs,his,<- Nat.add_mul];exact Nat.mul_le_mul_right _ hroom)
    rw[hr] at hrun;simp only[Result.ok.injEq] at hrun;obtain⟨rfl,_⟩:=hrun;exact .inl hb'
   ·have hr:=run_append_grow (P:=P) w t ty e i z hu hi hz ⟨gb,0,none⟩ n cap' cs (by rw[hown.1,his]) (hown.cells (g:=gb) rfl) ⟨b,o,none⟩ m cap
     ((List.range (m*size)).map f) (by rw[hnl,his]) hnews (by omega) (by unfold maxLen at hle;omega) (growslice_fits (by omega) hbytes)
    rw[hr] at hrun;simp only[Result.ok.injEq] at hrun;obtain⟨rfl,_⟩:=hrun;simp only[blk,Option.some.injEq] at hb';exact .inr (by omega)
theorem aWL {C:Cfg U} (h:RR C.E n N w0 ρ s a w) {t ty:TypeId} {τ:U.τ} (hτ:iD C t=some τ) {i:TypeInfo} (hi:C.P.info? (U.ety τ)=some i) {z:Value} (hz:i.zero=some z)
  (hzs:z.cells.size=U.size τ) (hby:1<=i.bytes) {id:Nat} {u y:Value} {xs ys:List (U.T τ)} {cs:List Value}
  (hown:w.ownsRow w0.heap.size (U.ety τ) (U.size τ) u xs.length cs) (hpu:∀a,u≠ .pointer a)
  (hxs:∀i (h:i<xs.length) k (hk:k<(C.E.enc τ xs[i]).length),Rel C.E w ρ (aM N ρ w) (C.E.enc τ xs[i])[k] (cs.getD (i*U.size τ+k) undef))
  (hy:uK C.E w ρ (aM N ρ w) τ ys y) (hbytes:(xs.length+ys.length)*i.bytes<=140737488355328) (g':Nat)
  (hid:(∃g,ρ id=some (g,u)/\g<g')\/(ρ id=none/\u=.slice none 0 0)) (hsimp:∀ob,s.objs id=some ob->ob.simple=true):
  ∃v' w',(Builtin.append_ #[t,t] ty #[u,y]).run C.P w=.ok v' w'/\RR C.E n N w0 (bZ ρ id g' v') (s.obj id (.row τ g' (xs++ys))) a w'/\∀p,v'≠ .pointer p:=by
 obtain⟨hu,i',hi',his⟩:=mH hτ;rw[hi] at hi';obtain rfl:=Option.some.inj hi';have hold:∀g u',ρ id=some (g,u')->(∀a,u'≠ .pointer a)/\g<g':=fun g u' hr=>by
  rcases hid with ⟨g0,h0,hg⟩|⟨h0,_⟩
  ·rw[hr] at h0;simp only[Option.some.injEq,Prod.mk.injEq] at h0;obtain⟨rfl,rfl⟩:=h0;exact⟨hpu,hg⟩
  ·rw[h0] at hr;cases hr
 have hgr:∀w',w.grownBy w' u.ownBlock->w.grownBy w' ((ρ id).bind fun p=>blk p.2):=fun w' hg=>by
  refine⟨hg.os,hg.tape,hg.output,hg.size,fun k hk hne=>hg.block k hk (fun e=>?_)⟩;rcases hid with ⟨g0,h0,_⟩|⟨h0,rfl⟩
  ·apply hne;rw[h0,e,iG hpu];rfl
  ·cases e
 have hsz:=C.E.pos τ;obtain⟨f,hc,hl⟩:∃f,aDN w ys.length (U.size τ) f y/\∀i (h:i<ys.length) k (hk:k<(C.E.enc τ ys[i]).length),Rel C.E w ρ (aM N ρ w) (C.E.enc τ ys[i])[k] (f (i*U.size τ+k)):=by
  rcases hy with ⟨⟨ad,rfl⟩,rfl⟩|⟨b,o,cap,f,rfl,hcap,hc,hl⟩
  ·exact⟨fun _=>undef,.inl ⟨⟨ad,rfl⟩,rfl⟩,fun i hi=>absurd hi (by simp)⟩
  ·refine⟨f,.inr ⟨b,o,cap,rfl,hcap,fun j hj=>⟨hc j hj,?_⟩⟩,hl⟩;have hq:j / U.size τ<ys.length:=Nat.div_lt_of_lt_mul (by rw[Nat.mul_comm];exact hj);have hm:j % U.size τ<(C.E.enc τ ys[j / U.size τ]).length:=by rw[C.E.enc_len];exact Nat.mod_lt _ hsz
   have:=hl (j / U.size τ) hq (j % U.size τ) hm;have e:j / U.size τ*U.size τ+j % U.size τ=j:=by rw[Nat.mul_comm];exact Nat.div_add_mod _ _
   rw[e] at this;obtain⟨hfl,hcell⟩:=C.E.enc_flat τ _ _ (List.getElem_mem hm);refine this.pU hcell (fun _ _ _ hr=>(h.own hr).1) (fun id g he=>?_) (fun id g i off sz he=>?_) (fun id i g he=>?_) (fun id i g j off sz he=>?_)
   ·rw[he] at hfl;cases hfl
   ·rw[he] at hfl;cases hfl
   ·rw[he] at hfl;cases hfl
   ·rw[he] at hfl;cases hfl
 obtain⟨v',w',hrun,hown',hgrow,hpv,hblk⟩:=aHl (P:=C.P) (ty:=ty) hu hi hz his hzs hsz hby hown hpu hc hbytes h.below.size;refine⟨v',w',hrun,?_,hpv⟩;have hlen:(xs++ys).length=xs.length+ys.length:=by simp
 refine h.newRow hsimp hold (hgr w' hgrow) (by rw[hlen];exact hown') (fun b' hb'=>?_) (fun j hj k hk=>?_)
 ·rcases hblk b' hb' with hb'|hb'
  ·rcases hid with ⟨g0,h0,_⟩|⟨h0,rfl⟩
   ·exact .inl ⟨_,_,h0,hb'⟩
   ·cases hb'
  ·exact .inr hb'
 ·have hk':k<U.size τ:=by rw[C.E.enc_len] at hk;exact hk
  by_cases hjx:j<xs.length
  ·have e:(xs++ys)[j]=xs[j]:=List.getElem_append_left hjx;have hin:j*U.size τ+k<cs.length:=by
    rw[hown.1];have:(j+1)*U.size τ<=xs.length*U.size τ:=Nat.mul_le_mul_right _ hjx;rw[Nat.add_mul,Nat.one_mul] at this;omega
   have:=hxs j hjx k (by rw[e] at hk;exact hk);simp only[e];simpa[List.getElem?_append,hin] using this
  ·have lS:j-xs.length<ys.length:=by rw[hlen] at hj;omega
   have e:(xs++ys)[j]=ys[j-xs.length]:=List.getElem_append_right (by omega);have:=hl (j-xs.length) lS k (by rw[e] at hk;exact hk);simp only[e];have hjm:j*U.size τ=xs.length*U.size τ+(j-xs.length)*U.size τ:=by
    rw[<- Nat.add_mul];congr 1;omega
   have h4:(j-xs.length+1)*U.size τ<=ys.length*U.size τ:=Nat.mul_le_mul_right _ lS;rw[Nat.add_mul,Nat.one_mul] at h4;have e2:(cs++(List.range (ys.length*U.size τ)).map f).getD (j*U.size τ+k) undef=f ((j-xs.length)*U.size τ+k):=by
    have h5:¬j*U.size τ+k<cs.length:=by rw[hown.1];omega
    have h6:j*U.size τ+k-cs.length=(j-xs.length)*U.size τ+k:=by rw[hown.1];omega
    have h7:(j-xs.length)*U.size τ+k<ys.length*U.size τ:=by omega
    simp[List.getElem?_append,h5,h6,h7]
   rw[e2];exact this
end
end Go.Vm
namespace Go.Vm
open Go.RowKit
set_option linter.unusedVariables false
def dE:List Prop->Prop
 |[]=>True
 |[p]=>p
 |p::q::r=>p/\dE (q::r)
theorem bJE (p:Prop) (l:List Prop):dE (p::l)↔p/\dE l:=by
 cases l with
 |nil=>simp[dE]
 |cons q r=>rfl
theorem bJD (l:List Prop):dE l↔∀p∈l,p:=by
 induction l with
 |nil=>exact⟨fun _ p hp=>absurd hp List.not_mem_nil,fun _=>trivial⟩
 |cons p l ih=>rw[bJE,List.forall_mem_cons,ih]
section
variable {U:dH} {n:Nat} {N:Nat->Prop} {w0:Fr} {w w':World} {ρ ρ':Own} {s:ASt U} {a:Act}
theorem bI {α:Type} {b:Bool} {x:Option α} {y:α} (h:cond b x none=some y):b=true/\x=some y:=by
 cases b
 ·cases h
 ·exact⟨rfl,h⟩
theorem aLw {α:Type} {b:Bool} {x:Option α} {y:α} (h:cond b none x=some y):b=false/\x=some y:=by
 cases b
 ·exact⟨rfl,h⟩
 ·cases h
theorem bL1 {C:Cfg U} (h:RR C.E n N w0 ρ s a w) {look:Nat->Option (aV U)} (hlook:∀id ob,look id=some ob->s.objs id=some ob) {d:Nat} (hf:look d=none->s.objs d=none)
  {argTypes:Array TypeId} {ty:TypeId} {x y:aB U} {u v:Value} (hx:Rel C.E w ρ (aM N ρ w) x u) (hy:Rel C.E w ρ (aM N ρ w) y v)
  {cs:List Prop} {r:aB U} {ob:Option (Nat×aV U)} (ho:aMO C look d argTypes x y=some (cs,r,ob)) (hc:dE cs):
  ∃v' w' ρ',(Builtin.append_ argTypes ty #[u,v]).run C.P w=.ok v' w'/\RR C.E n N w0 ρ' (s.fK ob) a w'/\Rel C.E w' ρ' (aM N ρ' w') r v':=by
 unfold aMO at ho;split at ho
 ·rename_i t t' hat;have hbo:=bI ho;clear ho;obtain⟨hb,ho⟩:=hbo;obtain rfl:=Nat.eq_of_beq_eq_true hb;have hargs:argTypes=#[t,t]:=by rw[<- Array.toArray_toList (xs:=argTypes),hat]
  subst hargs;split at ho
  ·rename_i τ hτ;split at ho
   ·rename_i i hi;split at ho
    ·rename_i z hz;have hbo2:=bI ho;clear ho;obtain⟨cA,ho⟩:=hbo2;simp only[Bool.and_eq_true] at cA;have hzs:=Nat.eq_of_beq_eq_true cA.1;have hby:=Nat.le_of_ble_eq_true cA.2;split at ho
     ·rename_i ys hys;have hel:=aIb h hlook hy hys;split at ho
      ·split at ho
       ·rename_i hfree;simp only[Option.some.injEq,Prod.mk.injEq] at ho;obtain⟨rfl,rfl,rfl⟩:=ho;cases hx;have hbytes:ys.length*i.bytes<=140737488355328:=hc;have hnone:ρ d=none:=by
         have hfr:=h.oB (hf hfree);generalize ρ d=q at hfr;cases q with
         |none=>rfl
         |some p=>exact(hfr p.1 p.2 rfl).elim
        obtain⟨v',w',hrun,hR,hp⟩:=aWL (ty:=ty) h hτ hi hz hzs hby (id:=d) (xs:=[]) (cs:=[]) (World.ownsRow_nil _ _ _ _) (fun a e=>by cases e) (fun i hi=>absurd hi (by simp)) hel
         (by simpa using hbytes) 0 (.inr ⟨hnone,rfl⟩) (fun ob ho=>by rw[hf hfree] at ho;cases ho)
        exact⟨v',w',_,hrun,by simpa[ASt.fK] using hR,.osl d 0 v' (by simp[bZ]) hp⟩
       ·cases ho
      ·rename_i id g;split at ho
       ·rename_i xs hxs;simp only[Option.some.injEq,Prod.mk.injEq] at ho;obtain⟨rfl,rfl,rfl⟩:=ho;have hbytes:(xs.length+ys.length)*i.bytes<=140737488355328:=hc;unfold rowOf at hxs;simp only at hxs;split at hxs
        ·rename_i t2 g' zs hl;have hbx:=bI hxs;clear hxs;obtain⟨hbb,hxs⟩:=hbx;obtain rfl:=Nat.eq_of_beq_eq_true hbb;obtain⟨rfl,rfl⟩:=kS hxs;obtain⟨u1,cs1,h1,jL,h2,h3,h4⟩:=h.aBL (hlook _ _ hl);have hu:u1=u:=by
          cases hx with
          |osl _ _ u' hr' hp'=>
           rw[h1] at hr';simp only[Option.some.injEq,Prod.mk.injEq,true_and] at hr';exact hr'
          |oslOld _ _ g' u' v hr' hg=>
           rw[h1] at hr';simp only[Option.some.injEq,Prod.mk.injEq] at hr';omega
         subst hu;obtain⟨v',w',hrun,hR,hp⟩:=aWL (ty:=ty) h hτ hi hz hzs hby (id:=id) h2 jL h4 hel hbytes (g+1) (.inl ⟨g,h1,by omega⟩) (fun ob ho=>by rw[hlook _ _ hl] at ho;cases ho;rfl);exact⟨v',w',_,hrun,by simpa[ASt.fK] using hR,.osl id (g+1) v' (by simp[bZ]) hp⟩
        ·cases hxs
       ·cases ho
      ·cases ho
     ·cases ho
    ·cases ho
   ·cases ho
  ·cases ho
 ·cases ho
theorem aVl {E:Enc U} {st:Nat->Prop} {t:U.τ}:∀(m:Nat) (l:List (aB U)) (xs:List (U.T t)) (f:Nat->Value),xB E t m l=some xs->
  (∀k (h:k<l.length),Rel E w ρ st l[k] (f k))->xs.length=m/\m*U.size t<=l.length/\∀i (h:i<xs.length) k (hk:k<(E.enc t xs[i]).length),Rel E w ρ st (E.enc t xs[i])[k] (f (i*U.size t+k)):=by
 intro m
 induction m with
 |zero=>
  intro l xs f hd _;simp only[xB,Option.some.injEq] at hd;subst hd;exact⟨rfl,by simp,fun i h=>absurd h (by simp)⟩
 |succ m ih=>
  intro l xs f hd hl;simp only[xB] at hd;split at hd
  ·rename_i x xs' hx hxs;obtain rfl:=Option.some.inj hd;have hlen:=E.dec_len t _ _ hx;have hle:U.size t<=l.length:=by
    simp only[List.length_take] at hlen;omega
   obtain⟨h1,h2,h3⟩:=ih _ _ (fun k=>f (U.size t+k)) hxs (fun k h=>by
    have h':U.size t+k<l.length:=by simp at h;omega
    have:=hl (U.size t+k) h';simpa using this)
   refine⟨by simp[h1],?_,fun i h k hk=>?_⟩
   ·simp only[List.length_drop] at h2;rw[Nat.add_mul,Nat.one_mul];omega
   ·cases i with
    |zero=>
     simp only[List.getElem_cons_zero,Nat.zero_mul,Nat.zero_add];exact aIf hx (f:=f) (fun k h=>by
      have h':k<l.length:=by simp at h;omega
      have:=hl k h';simpa using this) k (by simpa using hk)
    |succ i=>
     have:=h3 i (by simpa using h) k (by simpa using hk);simp only[List.getElem_cons_succ];have e:(i+1)*U.size t+k=U.size t+(i*U.size t+k):=by rw[Nat.add_mul,Nat.one_mul];omega
     rw[e];exact this
  ·cases hd
theorem aNW (z:List (aB U)):∀(m k:Nat),k<m*z.length->((List.replicate m z).flatten)[k]?=z[k % z.length]?:=by
 intro m
 induction m with
 |zero=>intro k h;simp at h
 |succ m ih=>
  intro k h;simp only[List.replicate_succ,List.flatten_cons,List.getElem?_append]
  by_cases hk:k<z.length
  ·rw[if_pos hk,Nat.mod_eq_of_lt hk]
  ·rw[if_neg hk,ih (k-z.length) (by rw[Nat.add_mul,Nat.one_mul] at h;omega)];congr 1;exact(Nat.mod_eq_sub_mod (by omega)).symm
theorem aWB {C:Cfg U} (h:RR C.E n N w0 ρ s a w) {look:Nat->Option (aV U)} (hlook:∀id ob,look id=some ob->s.objs id=some ob) {d:Nat} (hf:s.objs d=none)
  {t:TypeId} {τ:U.τ} (hτ:iD C t=some τ) {z:List (aB U)} (hz:zeroCells C.P (U.ety τ)=some z) {len:Nat} (hzl:z.length=U.size τ) (hlen:len*U.size τ<=16777216)
  {parts:List (Nat×aB U)} {parts':Array (Nat×Value)} (hpl:parts.length=parts'.size)
  (hp:∀k (h:k<parts.length) (h':k<parts'.toList.length),parts[k].1=parts'.toList[k].1/\Rel C.E w ρ (aM N ρ w) parts[k].2 parts'.toList[k].2)
  {l:List (aB U)} (hl:kU look (fun i=>some (i*U.size τ,U.size τ)) ((List.replicate len z).flatten) parts=some l) {xs:List (U.T τ)} (hxs:xB C.E τ len l=some xs):
  ∃v' w' ρ',(Instr.buildSlice t len parts').run C.P w=.ok v' w'/\RR C.E n N w0 ρ' (s.obj d (.row τ 0 xs)) a w'/\Rel C.E w' ρ' (aM N ρ' w') (.osl d 0) v':=by
 obtain⟨hu,i,hi,his⟩:=mH hτ;obtain⟨zv,hzr,hzsz,hzrel⟩:=pB (E:=C.E) (w:=w) (ρ:=ρ) hz;have hpos:=C.E.pos τ
 -- the zero row
 have hbase:∃base:Array Value,base.size=((List.replicate len z).flatten).length/\(∀k (h:k<((List.replicate len z).flatten).length),Rel C.E w ρ (aM N ρ w) ((List.replicate len z).flatten)[k] (base.getD k undef))/\
   base=(Array.range (len*U.size τ)).map (fun k=>zv.cells[k % zv.cells.size]!):=by
  refine⟨_,by simp[hzl],fun k hk=>?_,rfl⟩;have hk':k<len*z.length:=by simpa using hk
  have hkm:k % z.length<z.length:=Nat.mod_lt _ (by omega);have e1:((List.replicate len z).flatten)[k]=z[k % z.length]:=by
   have:=aNW z len k hk';rw[List.getElem?_eq_getElem hk,List.getElem?_eq_getElem hkm] at this;exact Option.some.inj this
  have e2:((Array.range (len*U.size τ)).map (fun k=>zv.cells[k % zv.cells.size]!)).getD k undef=zv.cells.getD (k % z.length) undef:=by
   have h1:k<len*U.size τ:=by rw[<- hzl];exact hk'
   have h2:k % z.length<zv.cells.size:=by omega
   have h3:zv.cells[k % z.length]! =zv.cells[k % z.length]'h2:=getElem!_pos zv.cells _ h2;have h4:zv.cells[k % z.length]?=some zv.cells[k % z.length]:=Array.getElem?_eq_getElem h2;simp[h1,hzsz,h3,h4]
  rw[e1,e2];exact hzrel _ _ hkm
 obtain⟨base,hbs,hbr,hbe⟩:=hbase;obtain⟨c',hfill,hc's,hc'r⟩:=aGI (look:=look) (place':=fun i=>some (i*U.size τ,U.size τ)) (fun x v hx hs=>sG h hlook hx hs) (fun i q hq=>hq) parts parts'.toList _ l base (by simpa using hpl) hp hl hbs hbr;obtain⟨hxl,hle,hxr⟩:=aVl len l xs (fun k=>c'.getD k undef) hxs hc'r;have hll:l.length=len*U.size τ:=by
  have:∀(ps:List (Nat×aB U)) (l0 l1:List (aB U)),kU look (fun i=>some (i*U.size τ,U.size τ)) l0 ps=some l1->l1.length=l0.length:=by
   intro ps
   induction ps with
   |nil=>intro l0 l1 h;simp only[kU,Option.some.injEq] at h;rw[h]
   |cons p ps ih=>
    intro l0 l1 h;obtain⟨i,x⟩:=p;simp only[kU] at h;obtain⟨_,h⟩:=bI h;rw[ih _ _ h,aBI]
  rw[this _ _ _ hl];simp[hzl]
 refine⟨.slice (some ⟨w.heap.size,0,none⟩) len len,w.alloc (.cells c' (U.ety τ)),bZ ρ d 0 (.slice (some ⟨w.heap.size,0,none⟩) len len),?_,?_,.osl d 0 _ (by simp[bZ]) (fun a e=>by cases e)⟩
 ·have iT:¬len*i.size > 2^24:=by rw[his];simp;omega
  rw[his] at iT
  by_cases h0:len*U.size τ=0
  ·have hrow:(Array.range (len*U.size τ)).map (fun k=>(#[]:Array Value)[k % (#[]:Array Value).size]!)=base:=by
    rw[hbe,h0];simp
   simp only[Instr.buildSlice,Sem.run_bind,run_underlying hu,Result.andThen_ok,sizeOf,typeInfo,run_program,hi,Sem.run_pure,his,if_neg iT,if_pos h0,hrow,hfill,newRow,run_newObj];rfl
  ·rw[hbe] at hfill;simp only[Instr.buildSlice,Sem.run_bind,run_underlying hu,Result.andThen_ok,sizeOf,typeInfo,run_program,hi,Sem.run_pure,his,if_neg iT,if_neg h0,hzr,hfill,newRow,run_newObj];rfl
 ·refine h.newRow (fun ob ho=>by rw[hf] at ho;cases ho) (fun g u hr=>(h.oB hf g u hr).elim) (World.grownBy_alloc w _ _) ⟨?_,.inr ⟨w.heap.size,len,c',by rw[hxl],h.below.size,heap_alloc_new w _,by omega,?_,by rw[hc's,hll],?_⟩⟩ (fun b hb=>?_) (fun i hi k hk=>?_) (cs:=c'.toList)
  ·simp[hc's,hll,hxl]
  ·unfold maxLen;have:len*1<=len*U.size τ:=Nat.mul_le_mul_left _ hpos;omega
  ·rw[hxl];exact List.take_of_length_le (by simp;omega)
  ·simp only[blk,Option.some.injEq] at hb;exact .inr (by omega)
  ·have:=hxr i hi k hk;simpa using this
theorem bK4 {C:Cfg U} (h:RR C.E n N w0 ρ s a w) {look:Nat->Option (aV U)} (hlook:∀id ob,look id=some ob->s.objs id=some ob)
  {t:TypeId} {τ:U.τ} (hτ:iD C t=some τ) {z:List (aB U)} (hz:zeroCells C.P (U.ety τ)=some z) {len:Nat} (hzl:z.length=U.size τ) (hlen:len*U.size τ<=16777216)
  {parts:List (Nat×aB U)} {parts':Array (Nat×Value)} (hpl:parts.length=parts'.size)
  (hp:∀k (h:k<parts.length) (h':k<parts'.toList.length),parts[k].1=parts'.toList[k].1/\Rel C.E w ρ (aM N ρ w) parts[k].2 parts'.toList[k].2)
  {l:List (aB U)} (hl:kU look (fun i=>some (i*U.size τ,U.size τ)) ((List.replicate len z).flatten) parts=some l) {xs:List (U.T τ)} (hxs:xB C.E τ len l=some xs):
  ∃v' w',(Instr.buildSlice t len parts').run C.P w=.ok v' w'/\RR C.E n N w0 ρ s a w'/\Rel C.E w' ρ (aM N ρ w') (.sl τ xs) v':=by
 obtain⟨hu,i,hi,his⟩:=mH hτ;obtain⟨zv,hzr,hzsz,hzrel⟩:=pB (E:=C.E) (w:=w) (ρ:=ρ) hz;have hpos:=C.E.pos τ
 -- the zero row
 have hbase:∃base:Array Value,base.size=((List.replicate len z).flatten).length/\(∀k (h:k<((List.replicate len z).flatten).length),Rel C.E w ρ (aM N ρ w) ((List.replicate len z).flatten)[k] (base.getD k undef))/\
   base=(Array.range (len*U.size τ)).map (fun k=>zv.cells[k % zv.cells.size]!):=by
  refine⟨_,by simp[hzl],fun k hk=>?_,rfl⟩;have hk':k<len*z.length:=by simpa using hk
  have hkm:k % z.length<z.length:=Nat.mod_lt _ (by omega);have e1:((List.replicate len z).flatten)[k]=z[k % z.length]:=by
   have:=aNW z len k hk';rw[List.getElem?_eq_getElem hk,List.getElem?_eq_getElem hkm] at this;exact Option.some.inj this
  have e2:((Array.range (len*U.size τ)).map (fun k=>zv.cells[k % zv.cells.size]!)).getD k undef=zv.cells.getD (k % z.length) undef:=by
   have h1:k<len*U.size τ:=by rw[<- hzl];exact hk'
   have h2:k % z.length<zv.cells.size:=by omega
   have h3:zv.cells[k % z.length]! =zv.cells[k % z.length]'h2:=getElem!_pos zv.cells _ h2;have h4:zv.cells[k % z.length]?=some zv.cells[k % z.length]:=Array.getElem?_eq_getElem h2;simp[h1,hzsz,h3,h4]
  rw[e1,e2];exact hzrel _ _ hkm
 obtain⟨base,hbs,hbr,hbe⟩:=hbase;obtain⟨c',hfill,hc's,hc'r⟩:=aGI (look:=look) (place':=fun i=>some (i*U.size τ,U.size τ)) (fun x v hx hs=>sG h hlook hx hs) (fun i q hq=>hq) parts parts'.toList _ l base (by simpa using hpl) hp hl hbs hbr;obtain⟨hxl,hle,hxr⟩:=aVl len l xs (fun k=>c'.getD k undef) hxs hc'r;have hll:l.length=len*U.size τ:=by
  have:∀(ps:List (Nat×aB U)) (l0 l1:List (aB U)),kU look (fun i=>some (i*U.size τ,U.size τ)) l0 ps=some l1->l1.length=l0.length:=by
   intro ps
   induction ps with
   |nil=>intro l0 l1 h;simp only[kU,Option.some.injEq] at h;rw[h]
   |cons p ps ih=>
    intro l0 l1 h;obtain⟨i,x⟩:=p;simp only[kU] at h;obtain⟨_,h⟩:=bI h;rw[ih _ _ h,aBI]
  rw[this _ _ _ hl];simp[hzl]
 have hbel:Below w.heap.size w (w.alloc (.cells c' (U.ety τ))):=(Below.refl _ _).alloc (Nat.le_refl _) _;refine⟨.slice (some ⟨w.heap.size,0,none⟩) len len,w.alloc (.cells c' (U.ety τ)),?_,h.ext hbel,?_⟩
 ·have iT:¬len*i.size > 2^24:=by rw[his];simp;omega
  rw[his] at iT
  by_cases h0:len*U.size τ=0
  ·have hrow:(Array.range (len*U.size τ)).map (fun k=>(#[]:Array Value)[k % (#[]:Array Value).size]!)=base:=by
    rw[hbe,h0];simp
   simp only[Instr.buildSlice,Sem.run_bind,run_underlying hu,Result.andThen_ok,sizeOf,typeInfo,run_program,hi,Sem.run_pure,his,if_neg iT,if_pos h0,hrow,hfill,newRow,run_newObj];rfl
  ·rw[hbe] at hfill;simp only[Instr.buildSlice,Sem.run_bind,run_underlying hu,Result.andThen_ok,sizeOf,typeInfo,run_program,hi,Sem.run_pure,his,if_neg iT,if_neg h0,hzr,hfill,newRow,run_newObj];rfl
 ·have hst:∀b,aM N ρ w b->aM N ρ (w.alloc (.cells c' (U.ety τ))) b/\(w.alloc (.cells c' (U.ety τ))).heap[b]?=w.heap[b]?:=fun b ⟨q1,q2,q3⟩=>
   ⟨⟨Nat.lt_of_lt_of_le q1 hbel.size,q2,q3⟩,hbel.block b q1⟩
  subst hxl;refine .sl τ xs w.heap.size 0 xs.length (fun k=>c'.getD k undef) ⟨by simp,h.aJ2 (Nat.le_refl _),fun id g u hr hbl=>?_⟩ (Nat.le_refl _) (fun k hk=>?_) (fun i hi k hk=>?_)
  ·have:=(h.own hr).2 _ hbl;omega
  ·rw[Nat.zero_add,cell_of_row (w.alloc (.cells c' (U.ety τ))) w.heap.size k c' (U.ety τ) (0,0) (heap_alloc_new w _)];have:k<c'.size:=by rw[hc's,hll];exact hk
   simp[this]
  ·exact(hxr i hi k hk).mono hst (fun _ _ _ hr=>.inl hr)
theorem bEt {C:Cfg U} (h:RR C.E n N w0 ρ s a w) {d:Nat} (hf:s.objs d=none)
  {t:TypeId} {τ:U.τ} (hτ:iD C t=some τ) {z:List (aB U)} (hz:zeroCells C.P (U.ety τ)=some z) (hzl:z.length=U.size τ) {e:U.T τ} (he:C.E.dec τ z=some e)
  {i:TypeInfo} (hi:C.P.info? (U.ety τ)=some i) (hby:1<=i.bytes) {k k':IntKind} {c:Int} (h0:0<=c) (hb:c*(i.bytes:Int)<=140737488355328):
  ∃v' w' ρ',(Instr.makeSlice t (.int k c) (.int k' c)).run C.P w=.ok v' w'/\RR C.E n N w0 ρ' (s.obj d (.row τ 0 (List.replicate c.toNat e))) a w'/\Rel C.E w' ρ' (aM N ρ' w') (.osl d 0) v':=by
 obtain⟨hu,i',hi',his⟩:=mH hτ;rw[hi] at hi';obtain rfl:=Option.some.inj hi';have hpos:=C.E.pos τ;have hzz:∃zv,i.zero=some zv/\z=zv.cells.toList.map ofConst:=by
  unfold zeroCells at hz;simp only[hi] at hz;cases hzi:i.zero with
  |none=>simp only[hzi] at hz;cases hz
  |some zv=>
   simp only[hzi] at hz;exact⟨zv,rfl,(Option.some.inj hz).symm⟩
 obtain⟨zv,hzi,hze⟩:=hzz;have hzs:zv.cells.size=U.size τ:=by
  rw[<- hzl,hze];simp
 have hle:c<=c*(i.bytes:Int):=by
  have:=Int.mul_le_mul_of_nonneg_left (show (1:Int)<=i.bytes by omega) h0;omega
 have hrun:=run_make (P:=C.P) w t (U.ety τ) i zv hu hi hzi k k' c c h0 (Int.le_refl _) (by rw[Int.mul_comm];omega) (by omega);have hzrel:∀(st:Nat->Prop) j (hj:j<z.length),Rel C.E w ρ st z[j] (zv.cells.getD j undef):=by
  obtain⟨z2,_,h2,h3⟩:=pB (E:=C.E) (w:=w) (ρ:=ρ) hz;intro st j hj;subst hze;have hk':j<zv.cells.size:=by simpa using hj
  have e1:zv.cells.getD j undef=zv.cells.toList[j]'(by simpa using hk'):=by simp[hk']
  rw[e1];simp only[List.getElem_map];exact aIg _
 have hcell:∀j,j<c.toNat*U.size τ->(madeCells zv.cells (c.toNat*i.size)).getD j undef=zv.cells.getD (j % U.size τ) undef:=by
  intro j hj;have h2:j % U.size τ<zv.cells.size:=by rw[hzs];exact Nat.mod_lt _ hpos
  have h3:zv.cells[j % U.size τ]! =zv.cells[j % U.size τ]'h2:=getElem!_pos zv.cells _ h2;have h4:zv.cells[j % U.size τ]?=some zv.cells[j % U.size τ]:=Array.getElem?_eq_getElem h2;simp[madeCells,his,hj,hzs,h3,h4]
 refine⟨_,_,bZ ρ d 0 (.slice (some ⟨w.heap.size,0,none⟩) c.toNat c.toNat),hrun,?_,.osl d 0 _ (by simp[bZ]) (fun a e=>by cases e)⟩;refine h.newRow (fun ob ho=>by rw[hf] at ho;cases ho) (fun g u hr=>(h.oB hf g u hr).elim) (World.grownBy_alloc w _ _) ⟨?_,.inr ⟨w.heap.size,c.toNat,madeCells zv.cells (c.toNat*i.size),by rw[List.length_replicate],h.below.size,heap_alloc_new w _,by simp,?_,?_,?_⟩⟩ (fun b hb=>?_) (fun j hj q hq=>?_) (cs:=(madeCells zv.cells (c.toNat*i.size)).toList)
 ·simp[madeCells,his]
 ·unfold maxLen;omega
 ·simp[madeCells,his]
 ·rw[List.length_replicate];exact List.take_of_length_le (by simp[madeCells,his])
 ·simp only[blk,Option.some.injEq] at hb;exact .inr (by omega)
 ·rw[List.length_replicate] at hj;simp only[List.getElem_replicate] at hq ⊢;have hql:q<U.size τ:=by rw[C.E.enc_len] at hq;exact hq
  have hdr:=aIf (E:=C.E) (w:=w) (ρ:=ρ) (st:=aM N ρ w) he (f:=fun j=>zv.cells.getD j undef) (fun j hj=>hzrel _ j hj);have hlt:j*U.size τ+q<c.toNat*U.size τ:=by
   have:(j+1)*U.size τ<=c.toNat*U.size τ:=Nat.mul_le_mul_right _ hj;rw[Nat.add_mul,Nat.one_mul] at this;omega
  have hmod:(j*U.size τ+q) % U.size τ=q:=by
   rw[Nat.mul_comm,Nat.mul_add_mod,Nat.mod_eq_of_lt hql]
  have:=hcell _ hlt;rw[hmod] at this;rw[kB,this];exact hdr q hq
end
end Go.Vm
namespace Go.Vm
open Go.RowKit
set_option linter.unusedVariables false
section
variable {U:dH} {n:Nat} {N:Nat->Prop} {w0:Fr} {w w':World} {ρ ρ':Own} {s:ASt U} {a:Act}
def bU:Own:=fun _=>none
def dJ (N:Nat->Prop) (w:World) (b:Nat):Prop:=b<w.heap.size/\¬N b
def yS (E:Enc U) (w:World) (N:Nat->Prop) (xs:List (aB U)) (args:Array Value):Prop:=
 args.size=xs.length/\∀k (h:k<xs.length),Rel E w bU (dJ N w) xs[k] (args.getD k undef)
def jQ (E:Enc U) (base:Nat) (N:Nat->Prop) (w:World) (r:aB U) (v:Value):Prop:=
 ∃ρ:Own,Rel E w ρ (aM N ρ w) (r.sZ (fun k=>k)) v/\
  (∀k x,r.news[k]?=some x->eG E w ρ (aM N ρ w) base k x.obj)/\
  (∀nm g u,ρ nm=some (g,u)->∃x,r.news[nm.id]?=some x/\(x.1=false->∃k,nm=.ob k))/\
  ∀nm nm' g g' u u' b,ρ nm=some (g,u)->ρ nm'=some (g',u')->nm≠nm'->blk u=some b->blk u'≠some b
def zU (C:Cfg U) (f:FuncId) (m:List (aB U)->aV U->Option (List Prop×aB U×aV U)) (w0:World):Prop:=
 (∀(args:Array Value) (w:World),(callFunc f args).run C.P w=.ok (.enter f args) w)/\
 ∀(st:Nat->Prop) (ρ:Own) (w:World) (args:Array Value) (k0:Nat) (xs:List (aB U)) (ob ob':aV U) (cs:List Prop) (r:aB U),
  Below w0.heap.size w0 w->(∀b,st b->b<w.heap.size/\∀nm g u,ρ nm=some (g,u)->blk u≠some b)->
  (∀nm g u,ρ nm=some (g,u)->nm.id=k0/\(ob.simple=true->nm=.ob k0))->
  (∀nm nm' g g' u u' b,ρ nm=some (g,u)->ρ nm'=some (g',u')->nm≠nm'->blk u=some b->blk u'≠some b)->
  eG C.E w ρ st w0.heap.size k0 ob->args.size=xs.length->(∀k (h:k<xs.length),Rel C.E w ρ st xs[k] (args.getD k undef))->
  ob.closed=true->m xs ob=some (cs,r,ob')->dE cs->ob'.closed=true->(r.sU||w6 k0 r ob')=true->ownArg 0 xs=some (k0,k0)->
  Calls C.P f args w fun e w'=>∃v ρ',e=.returned v/\((r.sU=true->Rel C.E w' bU (fun _=>False) r v)/\(w6 k0 r ob'=true->Rel C.E w' ρ' (fun _=>False) r v))/\
   eG C.E w' ρ' (fun b=>(st b\/w.heap.size<=b\/∃nm g u,ρ nm=some (g,u)/\blk u=some b)/\b<w'.heap.size/\∀nm g u,ρ' nm=some (g,u)->blk u≠some b) w0.heap.size k0 ob'/\
   (∀nm g u,ρ' nm=some (g,u)->nm.id=k0/\(ob'.simple=true->nm=.ob k0))/\Chg (fun _=>False) (fun i=>i=k0) w0.heap.size ρ ρ' w w'
def bL3 (C:Cfg U):Prop:=∀f m,C.sum f=some m->(∀(args:Array Value) (w:World),(callFunc f args).run C.P w=.ok (.enter f args) w)/\
 ∀(N:Nat->Prop) (w:World) (args:Array Value) (xs:List (aB U)) (cs:List Prop) (r:aB U),C.inv w->(∀b,N b->b<w.heap.size)->yS C.E w N xs args->m xs=some (cs,r)->dE cs->
  Calls C.P f args w fun e w'=>∃v,e=.returned v/\jQ C.E w.heap.size N w' r v/\Below w.heap.size w w'
def bL4 (C:Cfg U) (w0:World):Prop:=∀f m,C.sum f=some m->(∀(args:Array Value) (w:World),(callFunc f args).run C.P w=.ok (.enter f args) w)/\
 ∀(N:Nat->Prop) (w:World) (args:Array Value) (xs:List (aB U)) (cs:List Prop) (r:aB U),Below w0.heap.size w0 w->(∀b,N b->b<w.heap.size)->yS C.E w N xs args->m xs=some (cs,r)->dE cs->
  Calls C.P f args w fun e w'=>∃v,e=.returned v/\jQ C.E w.heap.size N w' r v/\Below w.heap.size w w'
def aX (C:Cfg U):Prop:=bL3 C/\∀f m,C.eff f=some m->∀w0:World,C.inv w0->zU C f m w0
def fR (C:Cfg U) (w0:World):Prop:=bL4 C w0/\∀f m,C.eff f=some m->zU C f m w0
theorem aX.at {C:Cfg U} (h:aX C) {w0:World} (hi:C.inv w0):fR C w0:=
 ⟨fun f m hm=>⟨(h.1 f m hm).1,fun N w args xs cs r hb=>(h.1 f m hm).2 N w args xs cs r (C.invOK w0 w hi hb)⟩,fun f m hm=>h.2 f m hm w0 hi⟩
theorem Rel.pure {E:Enc U} {st st':Nat->Prop} {x:aB U} {v:Value} (hx:x.pure=true) (h:Rel E w ρ st x v):Rel E w' ρ' st' x v:=by
 cases h with
 |raw v=>exact .raw v
 |int k n=>exact .int k n
 |bool b=>exact .bool b
 |str s=>exact .str s
 |nils=>exact .nils
 |ifc0=>exact .ifc0
 |ifc1 t v=>exact .ifc1 t v
 |_=>simp[aB.pure] at hx
theorem x8 (g:Nat->aB U->aB U):∀(l:List (aB U)) (k:Nat),(gM g k l).length=l.length:=by
 intro l
 induction l with
 |nil=>intro k;rfl
 |cons c l ih=>intro k;simp[gM,ih]
theorem aR4 (g:Nat->aB U->aB U):∀(l:List (aB U)) (k i:Nat) (h:i<(gM g k l).length) (h':i<l.length),(gM g k l)[i]=g (k+((l.take i).flatMap fE).length) l[i]:=by
 intro l
 induction l with
 |nil=>intro k i h h';exact absurd h' (by simp)
 |cons c l ih=>
  intro k i h h';cases i with
  |zero=>simp[gM]
  |succ i=>
   simp only[gM,List.getElem_cons_succ,List.take_succ_cons,List.flatMap_cons,List.length_append];rw[ih (k+(fE c).length) i (by simpa[gM] using h) (by simpa using h'),Nat.add_assoc]
theorem x7 (g:Nat->aB U->aB U):∀(l:List (aB U)) (k:Nat),(gI g k l).length=l.length:=by
 intro l
 induction l with
 |nil=>intro k;rfl
 |cons c l ih=>intro k;simp[gI,ih]
theorem aR3 (g:Nat->aB U->aB U):∀(l:List (aB U)) (k i:Nat) (h:i<(gI g k l).length) (h':i<l.length),(gI g k l)[i]=kM g (k+((l.take i).flatMap eU).length) l[i]:=by
 intro l
 induction l with
 |nil=>intro k i h h';exact absurd h' (by simp)
 |cons c l ih=>
  intro k i h h';cases i with
  |zero=>simp[gI]
  |succ i=>
   simp only[gI,List.getElem_cons_succ,List.take_succ_cons,List.flatMap_cons,List.length_append];rw[ih (k+(eU c).length) i (by simpa[gI] using h) (by simpa using h'),Nat.add_assoc]
theorem aV3 {α β:Type} (f:α->List β) (l:List α) (i:Nat) (h:i<l.length) (j:Nat) (y:β) (hy:(f l[i])[j]?=some y):(l.flatMap f)[((l.take i).flatMap f).length+j]?=some y:=by
 have e:l=l.take i++(l[i]::l.drop (i+1)):=by rw[<- List.drop_eq_getElem_cons h,List.take_append_drop]
 have e2:l.flatMap f=(l.take i).flatMap f++(f l[i]++(l.drop (i+1)).flatMap f):=by
  exact(congrArg (List.flatMap f) e).trans (by rw[List.flatMap_append,List.flatMap_cons])
 rw[e2,List.getElem?_append_right (by omega),Nat.add_sub_cancel_left];have hj:j<(f l[i]).length:=(List.getElem?_eq_some_iff.1 hy).1;rw[List.getElem?_append_left hj];exact hy
def aMW (p:aB U->Prop):aB U->Prop
 | .tup l=>∀c∈l,(match c with | .agg m=>∀d∈m,p d|d=>p d)
 | .agg m=>∀d∈m,p d
 |d=>p d
theorem aB8 {E:Enc U} {ρ ρ':Own} {st st':Nat->Prop} {g g':Nat->aB U->aB U} {p:aB U->Prop} {r:aB U} {v:Value}
  (hp2:aMW p r)
  (hg:∀k c u,p c->(∀x,fE c=[x]->r.news[k]?=some x)->Rel E w ρ st (g k c) u->Rel E w' ρ' st' (g' k c) u) (h:Rel E w ρ st (aFJ g r) v):Rel E w' ρ' st' (aFJ g' r) v:=by
 have agg:∀(k:Nat) (m:List (aB U)) (v:Value),(∀d∈m,p d)->(∀j y,(m.flatMap fE)[j]?=some y->r.news[k+j]?=some y)->Rel E w ρ st (.agg (gM g k m)) v->Rel E w' ρ' st' (.agg (gM g' k m)) v:=by
  intro k m v hpm hn h;cases h with
  |agg _ vs hsz hl=>
   refine .agg _ vs (by rw[hsz,x8,x8]) (fun i hi=>?_);have hi':i<m.length:=by rw[x8] at hi;exact hi
   have h1:=hl i (by rw[x8];exact hi');rw[aR4 g m k i (by rw[x8];exact hi') hi'] at h1;rw[aR4 g' m k i hi hi'];refine hg _ _ _ (hpm _ (List.getElem_mem hi')) (fun x hc=>?_) h1;refine hn _ _ ?_;have:=aV3 fE m i hi' 0 x (by rw[hc];rfl);rw[Nat.add_zero] at this;exact this
 cases r with
 |tup l=>
  cases h with
  |tup _ vs hsz hl=>
   refine .tup _ vs (by rw[hsz,x7,x7]) (fun i hi=>?_);have hi':i<l.length:=by rw[x7] at hi;exact hi
   have h1:=hl i (by rw[x7];exact hi');rw[aR3 g l 0 i (by rw[x7];exact hi') hi',Nat.zero_add] at h1;rw[aR3 g' l 0 i hi hi',Nat.zero_add];have hpi:=hp2 _ (List.getElem_mem hi');have hn:∀j y,(eU l[i])[j]?=some y->(aB.tup l).news[((l.take i).flatMap eU).length+j]?=some y:=fun j y hy=>aV3 eU l i hi' j y hy
   generalize l[i]=c at h1 hpi hn ⊢;cases c with
   |agg m=>exact agg _ m _ hpi (fun j y hy=>hn j y hy) h1
   |_=>
    refine hg _ _ _ hpi (fun x hc=>?_) h1;have:=hn 0 x (by simp only[eU];rw[hc];rfl);rwa [Nat.add_zero] at this
 |agg m=>
  exact agg 0 m v hp2 (fun j y hy=>by rw[Nat.zero_add];exact hy) h
 |_=>
  refine hg 0 _ v hp2 (fun x hc=>?_) h;simp only[aB.news,eU];rw[hc];rfl
theorem aNA {E:Enc U} {st:Nat->Prop}:∀(d:Nat) (x:aB U) (v:Value),stays d x=true->Rel E w ρ st x v->Rel E w ρ' st x v:=by
 intro d
 induction d with
 |zero=>
  intro x v hs h;cases x<;>first|exact h.flat rfl| (simp[stays] at hs)
 |succ d ih=>
  intro x v hs h;cases x with
  |ref l off=>
   simp only[stays,List.all_eq_true] at hs;cases h with
   |ref _ _ b o f hb hc hl=>exact .ref l off b o f hb hc (fun k hk=>ih _ _ (hs _ (List.getElem_mem hk)) (hl k hk))
  |fn f l=>
   simp only[stays,List.all_eq_true] at hs;cases h with
   |fn _ _ vs hn hl=>exact .fn f l vs hn (fun k hk=>ih _ _ (hs _ (List.getElem_mem hk)) (hl k hk))
  |_=>first|exact h.flat rfl| (simp[stays] at hs)
theorem aWR {f:aB U->Option (aB U×Bool)}:∀(l ys:List (aB U)) (b:Bool),aDE f l=some (ys,b)->ys.length=l.length/\∀i (h:i<l.length) (h':i<ys.length),∃bi,f l[i]=some (ys[i],bi)/\(b=false->bi=false):=by
 intro l
 induction l with
 |nil=>
  intro ys b h;cases h;exact⟨rfl,fun i h=>absurd h (by simp)⟩
 |cons v l ih=>
  intro ys b h;simp only[aDE] at h;split at h
  ·rename_i x bx xs bs hx hxs;cases h;obtain⟨h1,h2⟩:=ih _ _ hxs;refine⟨by simp[h1],fun i hi hi'=>?_⟩;cases i with
   |zero=>exact⟨bx,hx,fun hb=>by simp only[Bool.or_eq_false_iff] at hb;exact hb.1⟩
   |succ i=>
    obtain⟨bi,h3,h4⟩:=h2 i (by simpa using hi) (by simpa using hi');exact⟨bi,h3,fun hb=>by simp only[Bool.or_eq_false_iff] at hb;exact h4 hb.2⟩
  ·cases h
theorem aXm {f:TypeId->aB U->Option (aB U×Bool)}:∀(ts:List TypeId) (l ys:List (aB U)) (b:Bool),aDO f ts l=some (ys,b)->ys.length=l.length/\∀i (h:i<l.length) (h':i<ys.length),∃t bi,f t l[i]=some (ys[i],bi)/\(b=false->bi=false):=by
 intro ts
 induction ts with
 |nil=>
  intro l ys b h;cases l with
  |nil=>
   cases h;exact⟨rfl,fun i h=>absurd h (by simp)⟩
  |cons _ _=>cases h
 |cons t ts ih=>
  intro l ys b h;cases l with
  |nil=>cases h
  |cons v l=>
   simp only[aDO] at h;split at h
   ·rename_i x bx xs bs hx hxs;cases h;obtain⟨h1,h2⟩:=ih _ _ _ hxs;refine⟨by simp[h1],fun i hi hi'=>?_⟩;cases i with
    |zero=>exact⟨t,bx,hx,fun hb=>by simp only[Bool.or_eq_false_iff] at hb;exact hb.1⟩
    |succ i=>
     obtain⟨t',bi,h3,h4⟩:=h2 i (by simpa using hi) (by simpa using hi');exact⟨t',bi,h3,fun hb=>by simp only[Bool.or_eq_false_iff] at hb;exact h4 hb.2⟩
   ·cases h
theorem aWA {C:Cfg U} (h:RR C.E n N w0 ρ s a w) {look:Nat->Option (aV U)} (hlook:∀id ob,look id=some ob->s.objs id=some ob):∀(d:Nat) (ty:TypeId)
  (x y:aB U) (own:Bool) (v:Value),Rel C.E w ρ (aM N ρ w) x v->byC C look d ty x=some (y,own)->
  Rel C.E w bU (dJ N w) y v/\(own=false->Rel C.E w bU (aM N ρ w) y v):=by
 have weak:∀{y:aB U} {v:Value},Rel C.E w bU (aM N ρ w) y v->Rel C.E w bU (dJ N w) y v:=fun h=>h.mono (fun b hb=>⟨⟨hb.1,hb.2.1⟩,rfl⟩) (fun _ _ _ hr=>by cases hr)
 have hownb:∀{nm:Name} {g:Nat} {u:Value} {b:Nat},ρ nm=some (g,u)->blk u=some b->dJ N w b:=fun hu hb=>⟨((h.own hu).2 _ hb).2,h.aB1 hu hb⟩
 have sl_out:∀{nm:Name} {g:Nat} {u:Value} {t:U.τ} {xs:List (U.T t)},ρ nm=some (g,u)->uK C.E w ρ (aM N ρ w) t xs u->Rel C.E w bU (dJ N w) (.sl t xs) u:=fun {nm g u t xs} hr h3=>by
  rcases h3 with ⟨⟨ad,rfl⟩,rfl⟩|⟨b,o,cap,f,rfl,hcap,hc,hl'⟩
  ·exact .slE t ad
  ·refine .sl t xs b o cap f (hownb hr rfl) hcap hc (fun i hi k hk=>?_);have:=hl' i hi k hk;exact(this.flat (ρ':=bU) (C.E.enc_flat t _ _ (List.getElem_mem hk)).1).mono (fun b hb=>⟨⟨hb.1,hb.2.1⟩,rfl⟩) (fun _ _ _ hr=>by cases hr)
 intro d
 induction d with
 |zero=>intro ty x y own v hx hb;cases hb
 |succ d ih=>
  intro ty x y own v hx hb;simp only[byC] at hb;split at hb
  ·split at hb
   ·rename_i id g _ t g' xs hl;obtain⟨bV,cA⟩:=bI hb;clear hb;simp only[Option.some.injEq,Prod.mk.injEq] at cA;obtain⟨rfl,rfl⟩:=cA;obtain rfl:=Nat.eq_of_beq_eq_true bV;refine⟨?_,fun e=>by cases e⟩;obtain⟨u,cs,h1,hp,h2,h3,_⟩:=h.aBL (hlook _ _ hl);have hu:u=v:=by
     cases hx with
     |osl _ _ u' hr' hp'=>
      rw[h1] at hr';simp only[Option.some.injEq,Prod.mk.injEq,true_and] at hr';exact hr'
     |oslOld _ _ g' u' v hr' hg=>
      rw[h1] at hr';simp only[Option.some.injEq,Prod.mk.injEq] at hr';omega
    subst hu;exact sl_out h1 h3
   ·rename_i id g _ t g' gm xs hl;obtain⟨bV,cA⟩:=bI hb;clear hb;simp only[Option.some.injEq,Prod.mk.injEq] at cA;obtain⟨rfl,rfl⟩:=cA;obtain rfl:=Nat.eq_of_beq_eq_true bV;refine⟨?_,fun e=>by cases e⟩;obtain⟨u,cs,h1,hp,h2,hs,hno,h3⟩:=h.objs _ _ (hlook _ _ hl);have hu:u=v:=by
     cases hx with
     |osl _ _ u' hr' hp'=>
      rw[h1] at hr';simp only[Option.some.injEq,Prod.mk.injEq,true_and] at hr';exact hr'
     |oslOld _ _ g' u' v hr' hg=>
      rw[h1] at hr';simp only[Option.some.injEq,Prod.mk.injEq] at hr';omega
    subst hu;have hel:∀i (hi:i<xs.length) k (hk:k<(C.E.enc t xs[i]).length),Rel C.E w bU (dJ N w) (C.E.enc t xs[i])[k] (cs.getD (i*U.size t+k) undef):=fun i hi k hk=>by
     obtain⟨t1,ys,v1,ds,q1,q2,q3,q4,q5,q6⟩:=h3 i hi;have iI:k=0:=by
      rw[C.E.enc_len,hs] at hk;omega
     subst iI;have e1:(C.E.enc t xs[i])[0]=.sl t1 ys:=by simp only[q1];rfl
     rw[e1,hs,Nat.mul_one,Nat.add_zero,q3];exact sl_out q2 (wY q5 q6)
    rcases wY h2 (E:=C.E) (st:=dJ N w) (ρ:=bU) hel with ⟨⟨ad,rfl⟩,rfl⟩|⟨b,o,cap,f,rfl,hcap,hc,hl'⟩
    ·exact .slE t ad
    ·exact .sl t xs b o cap f (hownb h1 rfl) hcap hc hl'
   ·cases hb
  ·split at hb
   ·rename_i id i g _ t1 ys hm;simp only[Option.some.injEq,Prod.mk.injEq] at hb;obtain⟨rfl,rfl⟩:=hb;refine⟨?_,fun e=>by cases e⟩;have hms:=wA h hlook hm;cases hx with
    |mslOld _ _ _ g' u' v hr' hg=>
     have:=(hms _ _ hr').1;omega
    |msl _ _ _ u hr'=>
     obtain⟨_,ds,hp,h2,h3⟩:=hms _ _ hr';exact sl_out hr' (wY h2 h3)
   ·cases hb
  ·split at hb
   ·simp only[Option.some.injEq,Prod.mk.injEq] at hb;obtain⟨rfl,rfl⟩:=hb;cases hx;exact⟨.jI _,fun _=>.jI _⟩
   ·cases hb
  ·split at hb
   ·rename_i id off _ l hl;split at hb
    ·rename_i ys bs hys;cases hb;obtain⟨e1,e2⟩:=aWR _ _ _ hys;refine⟨?_,fun e=>by cases e⟩;obtain⟨b,c,ty',h1,h2,h3,h4,h5⟩:=h.objs _ _ (hlook _ _ hl);cases hx with
     |ptr _ _ b' hb'=>
      rw[h1] at hb';simp only[Option.some.injEq,Prod.mk.injEq,true_and,Value.pointer.injEq,Addr.mk.injEq,and_true] at hb';subst hb';have:=Rel.ref (E:=C.E) (w:=w) (ρ:=bU) (st:=dJ N w) ys off b 0 (fun k=>c.getD k undef) (hownb h1 rfl) (fun k hk=>by
       rw[Nat.zero_add,cell_of_row w b k c ty' (0,0) h3];have:k<c.size:=by omega
       simp[this]) (fun k hk=>by
        have hk':k<l.length:=by omega
        obtain⟨bi,q1,_⟩:=e2 k hk' hk;exact(ih _ _ _ _ _ (h5 k hk') q1).1)
      simpa using this
    ·cases hb
   ·cases hb
  ·split at hb
   ·rename_i f l _ ys bs hys;cases hb;obtain⟨e1,e2⟩:=aWR _ _ _ hys;cases hx with
    |fn _ _ vs hn hl=>
     refine⟨.fn f ys vs (by rw[hn,e1]) (fun k hk=>?_),fun ho=>.fn f ys vs (by rw[hn,e1]) (fun k hk=>?_)⟩
     ·obtain⟨bi,q1,_⟩:=e2 k (by omega) hk;exact(ih _ _ _ _ _ (hl k (by omega)) q1).1
     ·obtain⟨bi,q1,q2⟩:=e2 k (by omega) hk;exact(ih _ _ _ _ _ (hl k (by omega)) q1).2 (q2 ho)
   ·cases hb
  ·rename_i l;split at hb
   ·rename_i bV;simp only[Option.some.injEq,Prod.mk.injEq] at hb;obtain⟨rfl,rfl⟩:=hb;have:Rel C.E w bU (aM N ρ w) (.agg l) v:=by
     cases hx with
     |agg _ vs hn hl=>
      refine .agg l vs hn (fun k hk=>?_);have h1:=List.all_eq_true.1 bV _ (List.getElem_mem hk);have hfl:l[k].flat=true:=by
       generalize l[k]=c at h1;cases c<;>first|exact h1|rfl
      exact(hl k hk).flat hfl
    exact⟨weak this,fun _=>this⟩
   ·split at hb
    ·rename_i ys bs hys;cases hb;obtain⟨e1,e2⟩:=aXm _ _ _ _ hys;cases hx with
     |agg _ vs hn hl=>
      refine⟨.agg ys vs (by rw[hn,e1]) (fun k hk=>?_),fun ho=>.agg ys vs (by rw[hn,e1]) (fun k hk=>?_)⟩
      ·obtain⟨t,bi,q1,_⟩:=e2 k (by omega) hk;exact(ih _ _ _ _ _ (hl k (by omega)) q1).1
      ·obtain⟨t,bi,q1,q2⟩:=e2 k (by omega) hk;exact(ih _ _ _ _ _ (hl k (by omega)) q1).2 (q2 ho)
    ·cases hb
  all_goals first
   | (simp only[Option.some.injEq,Prod.mk.injEq] at hb
      obtain⟨rfl,rfl⟩:=hb;have:=hx.flat (ρ':=bU) rfl;exact⟨weak this,fun _=>this⟩)
   | (cases hb;done)
   |skip
  ·obtain⟨bV,cA⟩:=bI hb;clear hb;simp only[Option.some.injEq,Prod.mk.injEq] at cA;obtain⟨rfl,rfl⟩:=cA;have:=aNA (ρ':=bU) 4 _ _ bV hx;exact⟨weak this,fun _=>this⟩
theorem aWJ {C:Cfg U} (h:RR C.E n N w0 ρ s a w) {look:Nat->Option (aV U)} (hlook:∀id ob,look id=some ob->s.objs id=some ob):
  ∀(ts:List TypeId) (xs ys:List (aB U)) (own:Bool) (vs:List Value),vs.length=xs.length->(∀k (h:k<xs.length),Rel C.E w ρ (aM N ρ w) xs[k] (vs.getD k undef))->tV C look ts xs=some (ys,own)->
   ys.length=xs.length/\(∀k (h:k<ys.length),Rel C.E w bU (dJ N w) ys[k] (vs.getD k undef))/\(own=false->∀k (h:k<ys.length),Rel C.E w bU (aM N ρ w) ys[k] (vs.getD k undef)):=by
 intro ts
 induction ts with
 |nil=>
  intro xs ys own vs hl hr ho;cases xs with
  |nil=>
   simp only[tV,Option.some.injEq,Prod.mk.injEq] at ho;obtain⟨rfl,rfl⟩:=ho;exact⟨rfl,fun k h=>absurd h (by simp),fun _ k h=>absurd h (by simp)⟩
  |cons x xs=>simp[tV] at ho
 |cons t ts ih=>
  intro xs ys own vs hl hr ho;cases xs with
  |nil=>simp[tV] at ho
  |cons x xs=>
   cases vs with
   |nil=>simp at hl
   |cons v vs=>
    simp only[tV] at ho;split at ho
    ·rename_i y b ys' bs hb hbs;simp only[Option.some.injEq,Prod.mk.injEq] at ho;obtain⟨rfl,rfl⟩:=ho;have h0:=hr 0 (by simp);simp only[List.getElem_cons_zero,List.getD_cons_zero] at h0;obtain⟨h1,h2⟩:=aWA h hlook 5 t x y b v h0 hb;obtain⟨h3,h4,h5⟩:=ih xs ys' bs vs (by simpa using hl) (fun k hk=>hr (k+1) (by simp;omega)) hbs;refine⟨by simp[h3],fun k hk=>?_,fun ho k hk=>?_⟩
     ·cases k with
      |zero=>simpa using h1
      |succ k=>exact h4 k (by simpa using hk)
     ·simp only[Bool.or_eq_false_iff] at ho;cases k with
      |zero=>simpa using h2 ho.1
      |succ k=>exact h5 ho.2 k (by simpa using hk)
    ·cases ho
theorem aWK {C:Cfg U} (h:RR C.E n N w0 ρ s a w) {look:Nat->Option (aV U)} (hlook:∀id ob,look id=some ob->s.objs id=some ob) (m:List (aB U)->Option (List Prop×aB U))
  (ts:List TypeId) (xs ys:List (aB U)) (own:Bool) (vs:List Value) (hl:vs.length=xs.length) (hr:∀k (h:k<xs.length),Rel C.E w ρ (aM N ρ w) xs[k] (vs.getD k undef)) (ho:aMD C look m ts xs=some (ys,own)):
   ys.length=xs.length/\(∀k (h:k<ys.length),Rel C.E w bU (dJ N w) ys[k] (vs.getD k undef))/\(own=false->∀k (h:k<ys.length),Rel C.E w bU (aM N ρ w) ys[k] (vs.getD k undef)):=by
 unfold aMD at ho;cases hb:(xs.all aNp&&(m xs).isSome) with
 |false=>
  rw[hb,cond_false] at ho;exact aWJ h hlook ts xs ys own vs hl hr ho
 |true=>
  rw[hb,cond_true] at ho;simp only[Option.some.injEq,Prod.mk.injEq] at ho;obtain⟨rfl,rfl⟩:=ho;rw[Bool.and_eq_true] at hb;have key:∀(st:Nat->Prop) k (h:k<xs.length),Rel C.E w bU st xs[k] (vs.getD k undef):=fun st k hk=>by
   have h1:=List.all_eq_true.1 hb.1 _ (List.getElem_mem hk);have h2:=hr k hk
   revert h1 h2
   generalize xs[k]=x;generalize vs.getD k undef=v;intro h1 h2;cases x<;>first
    | (cases h1;done)
    | (cases h2;exact .nils)
    | (cases h2;exact .int _ _)
  exact⟨rfl,fun k hk=>key _ k hk,fun _ k hk=>key _ k hk⟩
def Name.down (base:Nat):Name->Name
 | .ob id=>.ob (id-base)
 | .mem id i=>.mem (id-base) i
theorem Name.bIk (base:Nat) (nm:Name):(nm.down base).id=nm.id-base:=by cases nm<;>rfl
theorem Name.bIj {base:Nat} {nm nm':Name} (h:base<=nm.id) (h':base<=nm'.id) (e:nm.down base=nm'.down base):nm=nm':=by
 cases nm with
 |ob i=>
  cases nm' with
  |ob j=>
   have:=Name.ob.inj e;have h1:base<=i:=h;have h2:base<=j:=h';rw[show i=j by omega]
  |mem j k=>cases e
 |mem i l=>
  cases nm' with
  |ob j=>cases e
  |mem j k=>
   obtain⟨e1,e2⟩:=Name.mem.inj e;have h1:base<=i:=h;have h2:base<=j:=h';rw[show i=j by omega,e2]
def iZ (ρ ρr:Own) (base m:Nat):Own:=fun nm=>if base<=nm.id/\nm.id<base+m then ρr (nm.down base) else ρ nm
theorem bB8:∀(rows:List (cZ U)) (s:ASt U) (b:Nat),(mM s b rows).tmps=s.tmps:=by
 intro rows
 induction rows with
 |nil=>intro s b;rfl
 |cons r rows ih=>
  intro s b;simp only[mM];rw[ih];rfl
theorem aIo:∀(rows:List (cZ U)) (s:ASt U) (b k:Nat) (x:cZ U),rows[k]?=some x->(mM s b rows).objs (b+k)=some x.obj:=by
 have out:∀(rows:List (cZ U)) (s:ASt U) (b id:Nat),id<b->(mM s b rows).objs id=s.objs id:=by
  intro rows
  induction rows with
  |nil=>intro s b id _;rfl
  |cons r rows ih=>
   intro s b id h;simp only[mM];rw[ih _ _ _ (by omega)];show cond (Nat.beq id b) _ (s.objs id)=_;rw[fG (by omega)];rfl
 intro rows
 induction rows with
 |nil=>intro s b k x h;cases h
 |cons r rows ih=>
  intro s b k x h;simp only[mM];cases k with
  |zero=>
   simp only[List.getElem?_cons_zero,Option.some.injEq] at h;cases h;rw[out _ _ _ _ (by omega)];show cond (Nat.beq (b+0) b) _ _=_;simp
  |succ k=>
   have:=ih (s.obj b r.obj) (b+1) k x (by simpa using h);rw[show b+(k+1)=b+1+k by omega];exact this
theorem bB9:∀(rows:List (cZ U)) (s:ASt U) (b id:Nat),¬(b<=id/\id<b+rows.length)->(mM s b rows).objs id=s.objs id:=by
 intro rows
 induction rows with
 |nil=>intro s b id _;rfl
 |cons r rows ih=>
  intro s b id h;simp only[mM];simp only[List.length_cons] at h;rw[ih _ _ _ (by omega)];show cond (Nat.beq id b) _ (s.objs id)=_;rw[fG (by omega)];rfl
theorem cZ.aJZ (x:cZ U) (h:x.obj.simple=true):x.1=false:=by
 obtain⟨d,t,xs⟩:=x;cases d with
 |false=>rfl
 |true=>cases h
theorem eG.join {E:Enc U} {w w':World} {ρr ρ':Own} {st st':Nat->Prop} {base base' k k':Nat} {x:cZ U} (h:eG E w ρr st base k x.obj) (hb:base'<=base) (hw:∀b,base<=b->w'.heap[b]?=w.heap[b]?)
  (hob:ρ' (.ob k')=ρr (.ob k)) (hmem:∀i,ρ' (.mem k' i)=ρr (.mem k i))
  (hconv:∀(t:U.τ) (z:U.T t) (c:aB U) (v:Value),(x.1=false->t=x.2.1)->(x.1=true->∃y ys,E.enc x.2.1 y=[.sl t ys])->c∈E.enc t z->Rel E w ρr st c v->Rel E w' ρ' st' c v):eG E w' ρ' st' base' k' x.obj:=by
 have row:∀{u:Value} {e:TypeId} {m n:Nat} {cs:List Value},w.ownsRow base e m u n cs->w'.ownsRow base' e m u n cs:=fun h2=>by
  refine⟨h2.1,?_⟩;rcases h2.2 with hn|⟨gb,cap,cur,r1,r2,r3,rest⟩
  ·exact .inl hn
  ·exact .inr ⟨gb,cap,cur,r1,Nat.le_trans hb r2,by rw[hw gb r2];exact r3,rest⟩
 obtain⟨d,t,xs⟩:=x;cases d with
 |false=>
  obtain⟨u,cs,q1,q2,q3,q4⟩:=h;exact⟨u,cs,by rw[hob];exact q1,q2,row q3,fun i hi k hk=>hconv t _ _ _ (fun _=>rfl) (fun e=>by cases e) (List.getElem_mem hk) (q4 i hi k hk)⟩
 |true=>
  obtain⟨u,cs,q1,q2,q3,q4,q5,q6⟩:=h;refine⟨u,cs,by rw[hob];exact q1,q2,row q3,q4,fun j hj=>by rw[hmem];exact q5 j hj,fun j hj=>?_⟩;obtain⟨t1,ys,v,ds,r1,r2,r3,r4,r5,r6⟩:=q6 j hj;exact⟨t1,ys,v,ds,r1,by rw[hmem];exact r2,r3,r4,row r5,fun i hi k hk=>hconv t1 _ _ _ (fun e=>by cases e) (fun _=>⟨_,ys,r1⟩) (List.getElem_mem hk) (r6 i hi k hk)⟩
theorem RR.join {E:Enc U} (h:RR E n N w0 ρ s a w) (hb:Below w.heap.size w w') {base:Nat} {rows:List (cZ U)} {ρr:Own} {Nr:Nat->Prop}
  (hfree:∀k,k<rows.length->s.objs (base+k)=none)
  (hrow:∀(k:Nat) (x:cZ U),rows[k]?=some x->eG E w' ρr (aM Nr ρr w') w.heap.size k x.obj) (hdom:∀nm g u,ρr nm=some (g,u)->∃x,rows[nm.id]?=some x/\(x.1=false->∃k,nm=.ob k))
  (hsep:∀nm nm' g g' u u' b,ρr nm=some (g,u)->ρr nm'=some (g',u')->nm≠nm'->blk u=some b->blk u'≠some b)
  (hconv:∀(k:Nat) (x:cZ U) (t:U.τ) (z:U.T t) (c:aB U) (v:Value),rows[k]?=some x->(x.1=false->t=x.2.1)->(x.1=true->∃y ys,E.enc x.2.1 y=[.sl t ys])->c∈E.enc t z->Rel E w' ρr (aM Nr ρr w') c v->Rel E w' (iZ ρ ρr base rows.length) (aM N (iZ ρ ρr base rows.length) w') c v):
  RR E n N w0 (iZ ρ ρr base rows.length) (mM s base rows) a w':=by
 have hblk:∀nm g u b,ρr nm=some (g,u)->blk u=some b->w.heap.size<=b/\b<w'.heap.size:=fun nm g u b hk hbl=>by
  obtain⟨x,hx,hxo⟩:=hdom _ _ _ hk;have hro:=hrow _ _ hx;cases nm with
  |ob k=>
   obtain⟨g',u',q1,_,q2⟩:=hro.val;have q1':ρr (.ob k)=some (g',u'):=q1;rw[hk] at q1';simp only[Option.some.injEq,Prod.mk.injEq] at q1';obtain⟨rfl,rfl⟩:=q1';exact q2 b hbl
  |mem k i=>
   have hns:x.obj.simple=false:=by
    cases hq:x.obj.simple with
    |false=>rfl
    |true=>
     obtain⟨_,e⟩:=hxo (x.aJZ hq);cases e
   exact(hro.aMv hns hk).2 b hbl
 have hin:∀nm:Name,base<=nm.id/\nm.id<base+rows.length->iZ ρ ρr base rows.length nm=ρr (nm.down base):=fun nm hi=>by unfold iZ;rw[if_pos hi]
 have hout:∀nm:Name,¬(base<=nm.id/\nm.id<base+rows.length)->iZ ρ ρr base rows.length nm=ρ nm:=fun nm hi=>by unfold iZ;rw[if_neg hi]
 have hnone:∀nm:Name,base<=nm.id/\nm.id<base+rows.length->ρ nm=none:=fun nm hi=>by
  cases hr:ρ nm with
  |none=>rfl
  |some p=>
   obtain⟨ob,hob,_⟩:=h.dom _ p.1 p.2 hr;have:=hfree (nm.id-base) (by omega);rw[show base+(nm.id-base)=nm.id by omega,hob] at this;cases this
 have c:Chg N (fun id=>base<=id/\id<base+rows.length) w0.heap.size ρ (iZ ρ ρr base rows.length) w w':=by
  refine⟨fun nm hn=>hout nm hn,fun nm g u hd hr=>(by rw[hnone nm hd] at hr;cases hr),hb.mono h.below.size,fun b hlt _=>hb.block b hlt,fun nm g u b hd hr hbl=>?_,fun nm nm' g g' u u' b hd hd' hr hr' hne bV=>?_⟩
  ·rw[hin nm hd] at hr;exact .inr (hblk _ _ _ _ hr hbl).1
  ·rw[hin nm hd] at hr;rw[hin nm' hd'] at hr';exact hsep _ _ _ _ _ _ b hr hr' (fun e=>hne (Name.bIj hd.1 hd'.1 e)) bV
 refine h.change c (bB8 _ _ _) (fun id hn=>bB9 rows s base id hn) (fun nm g u hd hr=>?_) (fun id ob hd ho=>?_) (fun id ob hd _=>by
  have hlt:id-base<rows.length:=by omega
  have:=aIo rows s base (id-base) _ (List.getElem?_eq_getElem hlt);rw[show base+(id-base)=id by omega] at this;exact⟨_,this⟩)
 ·rw[hin nm hd] at hr;obtain⟨x,hx,hxo⟩:=hdom _ _ _ hr;rw[Name.bIk] at hx;have:=aIo rows s base (nm.id-base) _ hx;rw[show base+(nm.id-base)=nm.id by omega] at this;refine⟨_,this,fun hs=>?_⟩;obtain⟨k,e⟩:=hxo (x.aJZ hs);cases nm with
  |ob i=>exact⟨i,rfl⟩
  |mem i j=>cases e
 ·have hlt:id-base<rows.length:=by omega
  have hrk:rows[id-base]?=some rows[id-base]:=List.getElem?_eq_getElem hlt;have:=aIo rows s base (id-base) _ hrk;rw[show base+(id-base)=id by omega,ho] at this;cases this;refine(hrow _ _ hrk).join h.below.size (fun _ _=>rfl) ?_ (fun i=>?_) (fun t z c v h1 h2 h3 h4=>hconv _ _ t z c v hrk h1 h2 h3 h4)
  ·exact hin (.ob id) hd
  ·exact hin (.mem id i) hd
theorem aJX {r:aB U} (h:r.aEa=true):aMW (fun c=>w7 c=true) r:=by
 cases r with
 |tup l=>
  intro c hc;have:=List.all_eq_true.1 h c hc;cases c with
  |agg m=>exact fun d hd=>List.all_eq_true.1 this d hd
  |_=>exact this
 |agg m=>exact fun d hd=>List.all_eq_true.1 h d hd
 |_=>exact h
theorem aVU {E:Enc U} {r:aB U} (h:r.fresh E=true):aMW (fun c=>wV E c=true) r:=by
 cases r with
 |tup l=>
  intro c hc;have:=List.all_eq_true.1 h c hc;cases c with
  |agg m=>exact fun d hd=>List.all_eq_true.1 this d hd
  |_=>exact this
 |agg m=>exact fun d hd=>List.all_eq_true.1 h d hd
 |_=>exact h
theorem aVT {E:Enc U} {r:aB U} (h:r.fresh E=true):∀(k:Nat) (x:cZ U),r.news[k]?=some x->(x.1=false->E.plain x.2.1=true)/\(x.1=true->∃t1,E.inner x.2.1=some t1/\E.plain t1=true):=by
 have one:∀(c:aB U),wV E c=true->∀y∈fE c,(y.1=false->E.plain y.2.1=true)/\(y.1=true->∃t1,E.inner y.2.1=some t1/\E.plain t1=true):=by
  intro c hc y hy;cases c with
  |new t xs=>
   simp only[fE,List.mem_singleton] at hy;subst hy;exact⟨fun _=>hc,fun e=>by cases e⟩
  |newd t xs=>
   simp only[fE,List.mem_singleton] at hy;subst hy;refine⟨(fun e=>by cases e),fun _=>?_⟩;simp only[wV] at hc;split at hc
   ·rename_i t1 ht1;exact⟨t1,ht1,hc⟩
   ·cases hc
  |_=>simp[fE] at hy
 have two:∀(c:aB U),fr2 E c=true->∀y∈eU c,(y.1=false->E.plain y.2.1=true)/\(y.1=true->∃t1,E.inner y.2.1=some t1/\E.plain t1=true):=by
  intro c hc y hy;cases c with
  |agg m=>
   simp only[eU,List.mem_flatMap] at hy;obtain⟨d,hd,hy⟩:=hy;exact one d (List.all_eq_true.1 hc d hd) y hy
  |_=>
   simp only[eU] at hy;simp only[fr2] at hc;exact one _ hc y hy
 intro k x hk;have hm:=List.mem_of_getElem? hk;cases r with
 |tup l=>
  simp only[aB.news,List.mem_flatMap] at hm;obtain⟨d,hd,hy⟩:=hm;exact two d (List.all_eq_true.1 h d hd) _ hy
 |_=>
  simp only[aB.news] at hm;simp only[aB.fresh] at h;exact two _ h _ hm
theorem aVy {C:Cfg U} (hs:fR C w0) (h:RR C.E n N w0 ρ s a w) {look:Nat->Option (aV U)} (hlook:∀id ob,look id=some ob->s.objs id=some ob)
  {f:FuncId} {ts:List TypeId} {xs:List (aB U)} {args:Array Value} (hn:args.size=xs.length) (hx:∀k (h:k<xs.length),Rel C.E w ρ (aM N ρ w) xs[k] (args.getD k undef))
  {cs:List Prop} {r:aB U} (ho:tP C look f ts xs=some (cs,r)) (hc:dE cs):
  (callFunc f args).run C.P w=.ok (.enter f args) w/\Calls C.P f args w fun e w'=>∃v,e=.returned v/\∀base,(∀k,k<r.news.length->s.objs (base+k)=none)->
   ∃ρ',RR C.E n N w0 ρ' (mM s base r.news) a w'/\Rel C.E w' ρ' (aM N ρ' w') (r.sZ (base+·)) v:=by
 unfold tP at ho;split at ho
 ·rename_i m hm;split at ho
  ·rename_i ys own hys;split at ho
   ·rename_i gD r0 hr;obtain⟨bV,cA⟩:=bI ho;clear ho;simp only[Option.some.injEq,Prod.mk.injEq] at cA;obtain⟨rfl,rfl⟩:=cA;simp only[Bool.and_eq_true] at bV;obtain⟨hok,hfr⟩:=bV;obtain⟨hcall,hsum⟩:=hs.1 f m hm;refine⟨hcall args w,?_⟩;obtain⟨h1,h2,h3⟩:=aWK h hlook m ts xs ys own args.toList (by simpa using hn) (fun k hk=>by rw[kB];exact hx k hk) hys
    -- a new slice's place
    have osl_conv:∀{ρr:Own} {w':World} {Nr:Nat->Prop} {base k:Nat} {x:cZ U} {u:Value},r0.news[k]?=some x->
      (∀(k:Nat) (x:cZ U),r0.news[k]?=some x->eG C.E w' ρr (aM Nr ρr w') w.heap.size k x.obj)->Rel C.E w' ρr (aM Nr ρr w') (.osl k 0) u->
      Rel C.E w' (iZ ρ ρr base r0.news.length) (aM N (iZ ρ ρr base r0.news.length) w') (.osl (base+k) 0) u:=by
     intro ρr w' Nr base k x u hk hrow hu;have hlt:k<r0.news.length:=(List.getElem?_eq_some_iff.1 hk).1;have hj:iZ ρ ρr base r0.news.length (.ob (base+k))=ρr (.ob k):=by
      unfold iZ;rw[if_pos ⟨by show base<=base+k;omega,by show base+k<_;omega⟩];show ρr (.ob (base+k-base))=_;rw[Nat.add_sub_cancel_left]
     have wR:∃u',ρr (.ob k)=some (0,u'):=by
      have:=hrow k x hk;obtain⟨d,t,xs⟩:=x;cases d with
      |false=>
       obtain⟨u',_,q,_⟩:=this;exact⟨u',q⟩
      |true=>
       obtain⟨u',_,q,_⟩:=this;exact⟨u',q⟩
     obtain⟨u',q1⟩:=wR;cases hu with
     |osl _ _ _ q hp=>exact .osl _ 0 _ (by rw[hj];exact q) hp
     |oslOld _ _ g' u'' _ q hg=>
      rw[q1] at q;simp only[Option.some.injEq,Prod.mk.injEq] at q;omega
    have news_cases:∀c:aB U,(∃x,fE c=[x]/\∀(f:Nat->Nat) (k:Nat),fM f k c=.osl (f k) 0)\/(fE c=[]/\∀(f:Nat->Nat) (k:Nat),fM f k c=c):=fun c=>by
     cases c<;>first|exact .inl ⟨_,rfl,fun _ _=>rfl⟩|exact .inr ⟨rfl,fun _ _=>rfl⟩
    cases own with
    |false=>
     have h4:=h3 rfl;refine(hsum (fun b=>N b\/∃nm g u,ρ nm=some (g,u)/\blk u=some b) w args ys _ _ h.below (fun b hb=>?_) ⟨by rw[hn,h1],fun k hk=>?_⟩ hr hc).mono ?_
     ·rcases hb with hb|⟨id,g,u,hu,hbl⟩
      ·rcases h.nlt b hb with hb|hb
       ·exact Nat.lt_of_lt_of_le hb h.below.size
       ·exact Nat.lt_of_lt_of_le (w0.lt b hb) h.kept.1
      ·exact((h.own hu).2 b hbl).2
     ·have:=h4 k hk;rw[kB] at this;refine this.mono (fun b ⟨q1,q2,q3⟩=>⟨⟨q1,fun hq=>?_⟩,rfl⟩) (fun _ _ _ hr=>by cases hr);rcases hq with hq|⟨id,g,u,hu,hbl⟩
      ·exact q2 hq
      ·exact q3 _ _ _ hu hbl
     ·rintro e w' ⟨v,rfl,⟨ρr,f1,f2,f3,f4⟩,hbw⟩
      have hst:∀base b,aM (fun b=>N b\/∃nm g u,ρ nm=some (g,u)/\blk u=some b) ρr w' b->aM N (iZ ρ ρr base r0.news.length) w' b:=fun base b ⟨q1,q2,q3⟩=>by
       refine⟨q1,fun hq=>q2 (.inl hq),fun id g u hu hbl=>?_⟩;unfold iZ at hu;split at hu
       ·exact q3 _ _ _ hu hbl
       ·exact q2 (.inr ⟨id,g,u,hu,hbl⟩)
      have hfl:∀base (c:aB U) (u:Value),c.flat=true->Rel C.E w' ρr (aM (fun b=>N b\/∃nm g u,ρ nm=some (g,u)/\blk u=some b) ρr w') c u->Rel C.E w' (iZ ρ ρr base r0.news.length) (aM N (iZ ρ ρr base r0.news.length) w') c u:=fun base c u hc hu=>
       (hu.flat (ρ':=bU) hc).mono (fun b hb=>⟨hst base b hb,rfl⟩) (fun _ _ _ hr=>by cases hr)
      refine⟨v,rfl,fun base hfree=>⟨iZ ρ ρr base r0.news.length,?_,?_⟩⟩
      ·exact h.join hbw hfree f2 f3 f4 (fun k x t z c v _ _ _ hcm hv=>hfl base c v (C.E.enc_flat t z c hcm).1 hv)
      ·refine aB8 (p:=fun c=>w7 c=true) (aJX hok) (fun k c u hpc hnew hu=>?_) f1;rcases news_cases c with ⟨x,hcx,e⟩|⟨hcx,e⟩
       ·rw[e] at hu ⊢;exact osl_conv (hnew x hcx) f2 hu
       ·rw[e] at hu ⊢;refine hfl base c u ?_ hu;cases c<;>first|exact hpc|cases hcx
    |true=>
     have hfre:r0.fresh C.E=true:=by simpa using hfr
     refine(hsum (fun _=>False) w args ys _ _ h.below (fun b hb=>hb.elim) ⟨by rw[hn,h1],fun k hk=>?_⟩ hr hc).mono ?_
     ·have:=h2 k hk;rw[kB] at this;exact this.mono (fun b q=>⟨⟨q.1,fun hq=>hq⟩,rfl⟩) (fun _ _ _ hr=>by cases hr)
     ·rintro e w' ⟨v,rfl,⟨ρr,f1,f2,f3,f4⟩,hbw⟩
      refine⟨v,rfl,fun base hfree=>⟨iZ ρ ρr base r0.news.length,?_,?_⟩⟩
      ·refine h.join hbw hfree f2 f3 f4 (fun k x t z c v hk ht1 ht2 hcm hv=>hv.pure (C.E.plain_ok t z ?_ c hcm));obtain⟨p1,p2⟩:=aVT hfre k x hk;cases hd:x.1 with
       |false=>
        rw[ht1 hd];exact p1 hd
       |true=>
        obtain⟨t1,q1,q2⟩:=p2 hd;obtain⟨y,ys,q3⟩:=ht2 hd;obtain⟨zs,q4⟩:=C.E.inner_ok _ _ q1 y;rw[q3] at q4;simp only[List.cons.injEq,and_true,aB.sl.injEq] at q4;rw[q4.1];exact q2
      ·refine aB8 (p:=fun c=>wV C.E c=true) (aVU hfre) (fun k c u hpc hnew hu=>?_) f1;rcases news_cases c with ⟨x,hcx,e⟩|⟨hcx,e⟩
       ·rw[e] at hu ⊢;exact osl_conv (hnew x hcx) f2 hu
       ·rw[e] at hu ⊢;refine hu.pure ?_;cases c<;>first|exact hpc|cases hcx
   ·cases ho
  ·cases ho
 ·cases ho
theorem eG.aVn {E:Enc U} {base k:Nat} {st st2:Nat->Prop} {x:cZ U} {u:Value} (h:eG E w ρ st base k x.obj) (hin:∀b,base<=b->b<w.heap.size->st2 b)
  (p1:x.1=false->∀z c v,c∈E.enc x.2.1 z->Rel E w ρ st c v->Rel E w bU st2 c v) (p2:x.1=true->∀t1 y ys,E.enc x.2.1 y=[.sl t1 ys]->∀z c v,c∈E.enc t1 z->Rel E w ρ st c v->Rel E w bU st2 c v)
  (hu:Rel E w ρ st (.osl k 0) u):Rel E w bU st2 (.sl x.2.1 x.2.2) u:=by
 have hout:∀{e:TypeId} {m n:Nat} {cs:List Value} {v:Value},w.ownsRow base e m v n cs->∀b o l c,v=.slice (some ⟨b,o,none⟩) l c->st2 b:=fun h2 b o l c hv=>by
  rcases h2.2 with ⟨h0,_⟩|⟨gb,cap,cur,heq,hbase,hgb,_⟩
  ·rw[hv] at h0;cases h0
  ·rw[hv] at heq;simp only[Value.slice.injEq,Option.some.injEq,Addr.mk.injEq,and_true] at heq;obtain⟨⟨rfl,_⟩,_⟩:=heq;exact hin _ hbase (Array.getElem?_eq_some_iff.1 hgb).1
 have toSl:∀{t:U.τ} {xs:List (U.T t)} {v:Value} {cs:List Value},w.ownsRow base (U.ety t) (U.size t) v xs.length cs->(∀i (h:i<xs.length) k (hk:k<(E.enc t xs[i]).length),Rel E w bU st2 (E.enc t xs[i])[k] (cs.getD (i*U.size t+k) undef))->Rel E w bU st2 (.sl t xs) v:=fun {t xs v cs} h2 h3=>by
  rcases wY h2 h3 with ⟨⟨ad,rfl⟩,rfl⟩|⟨b,o,cap,f,rfl,hcap,hc,hl'⟩
  ·exact .slE t ad
  ·exact .sl t xs b o cap f (hout h2 _ _ _ _ rfl) hcap hc hl'
 have eqv:∀{u':Value},ρ (.ob k)=some (0,u')->u'=u:=fun {u'} q1=>by
  cases hu with
  |osl _ _ _ q hp=>
   rw[q1] at q;simpa using q
  |oslOld _ _ g' u'' _ q hg=>
   rw[q1] at q;simp only[Option.some.injEq,Prod.mk.injEq] at q;omega
 obtain⟨d,t,xs⟩:=x;cases d with
 |false=>
  obtain⟨u',cs',q1,q2,q3,q4⟩:=h;obtain rfl:=eqv q1;exact toSl q3 (fun i hi k' hk'=>p1 rfl _ _ _ (List.getElem_mem hk') (q4 i hi k' hk'))
 |true=>
  obtain⟨u',cs',q1,q2,q3,q4,q5,q6⟩:=h;obtain rfl:=eqv q1;refine toSl q3 (fun i hi k' hk'=>?_);obtain⟨t1,ys,v1,ds,r1,r2,r3,r4,r5,r6⟩:=q6 i hi;have iI:k'=0:=by
   rw[E.enc_len,q4] at hk';omega
  subst iI;have e1:(E.enc t xs[i])[0]=.sl t1 ys:=by simp only[r1];rfl
  show Rel E w bU st2 (E.enc t xs[i])[0] _;rw[e1,q4,Nat.mul_one,Nat.add_zero,r3];exact toSl r5 (fun i hi k' hk'=>p2 rfl t1 _ _ r1 _ _ _ (List.getElem_mem hk') (r6 i hi k' hk'))
theorem bJZ {C:Cfg U} (hs:fR C w0) (h:RR C.E n N w0 ρ s a w) {look:Nat->Option (aV U)} (hlook:∀id ob,look id=some ob->s.objs id=some ob)
  {f:FuncId} {ts:List TypeId} {xs:List (aB U)} {args:Array Value} (hn:args.size=xs.length) (hx:∀k (h:k<xs.length),Rel C.E w ρ (aM N ρ w) xs[k] (args.getD k undef))
  {cs:List Prop} {r:aB U} (ho:tP C look f ts xs=some (cs,r)) (hc:dE cs):
  (callFunc f args).run C.P w=.ok (.enter f args) w/\Calls C.P f args w fun e w'=>∃v,e=.returned v/\RR C.E n N w0 ρ s a w'/\Rel C.E w' ρ (aM N ρ w') r.down v:=by
 unfold tP at ho;split at ho
 ·rename_i m hm;split at ho
  ·rename_i ys own hys;split at ho
   ·rename_i gD r0 hr;obtain⟨bV,cA⟩:=bI ho;clear ho;simp only[Option.some.injEq,Prod.mk.injEq] at cA;obtain⟨rfl,rfl⟩:=cA;simp only[Bool.and_eq_true] at bV;obtain⟨hok,hfr⟩:=bV;obtain⟨hcall,hsum⟩:=hs.1 f m hm;refine⟨hcall args w,?_⟩;obtain⟨h1,h2,h3⟩:=aWK h hlook m ts xs ys own args.toList (by simpa using hn) (fun k hk=>by rw[kB];exact hx k hk) hys;have cases_:∀c:aB U,(∃x,fE c=[x]/\(∀(f:Nat->Nat) (k:Nat),fM f k c=.osl (f k) 0)/\fI c=.sl x.2.1 x.2.2)\/(fE c=[]/\(∀(f:Nat->Nat) (k:Nat),fM f k c=c)/\fI c=c):=fun c=>by
     cases c<;>first|exact .inl ⟨_,rfl,fun _ _=>rfl,rfl⟩|exact .inr ⟨rfl,fun _ _=>rfl,rfl⟩
    have hNlt:∀b,N b->b<w.heap.size:=fun b hb=>by
     rcases h.nlt b hb with hb|hb
     ·exact Nat.lt_of_lt_of_le hb h.below.size
     ·exact Nat.lt_of_lt_of_le (w0.lt b hb) h.kept.1
    have newSt:∀(w':World) (b:Nat),w.heap.size<=b->b<w'.heap.size->aM N ρ w' b:=fun w' b q1 q2=>⟨q2,fun hq=>by have:=hNlt b hq;omega,fun nm g u hu hbl=>by have:=((h.own hu).2 b hbl).2;omega⟩
    cases own with
    |false=>
     have h4:=h3 rfl;refine(hsum (fun b=>N b\/∃nm g u,ρ nm=some (g,u)/\blk u=some b) w args ys _ _ h.below (fun b hb=>?_) ⟨by rw[hn,h1],fun k hk=>?_⟩ hr hc).mono ?_
     ·rcases hb with hb|⟨id,g,u,hu,hbl⟩
      ·exact hNlt b hb
      ·exact((h.own hu).2 b hbl).2
     ·have:=h4 k hk;rw[kB] at this;refine this.mono (fun b ⟨q1,q2,q3⟩=>⟨⟨q1,fun hq=>?_⟩,rfl⟩) (fun _ _ _ hr=>by cases hr);rcases hq with hq|⟨id,g,u,hu,hbl⟩
      ·exact q2 hq
      ·exact q3 _ _ _ hu hbl
     ·rintro e w' ⟨v,rfl,⟨ρr,f1,f2,f3,f4⟩,hbw⟩
      have hst:∀b,aM (fun b=>N b\/∃nm g u,ρ nm=some (g,u)/\blk u=some b) ρr w' b->aM N ρ w' b:=fun b ⟨q1,q2,q3⟩=>
       ⟨q1,fun hq=>q2 (.inl hq),fun id g u hu hbl=>q2 (.inr ⟨id,g,u,hu,hbl⟩)⟩
      have hfl:∀(c:aB U) (u:Value),c.flat=true->Rel C.E w' ρr (aM (fun b=>N b\/∃nm g u,ρ nm=some (g,u)/\blk u=some b) ρr w') c u->Rel C.E w' bU (aM N ρ w') c u:=fun c u hc hu=>
       (hu.flat (ρ':=bU) hc).mono (fun b hb=>⟨hst b hb,rfl⟩) (fun _ _ _ hr=>by cases hr)
      refine⟨v,rfl,h.ext hbw,?_⟩;have key:Rel C.E w' bU (aM N ρ w') r0.down v:=by
       refine aB8 (p:=fun c=>w7 c=true) (aJX hok) (fun k c u hpc hnew hu=>?_) f1;show Rel C.E w' bU (aM N ρ w') (fI c) u;rcases cases_ c with ⟨x,hcx,e1,e2⟩|⟨hcx,e1,e2⟩
       ·rw[e1] at hu;rw[e2];exact(f2 k x (hnew x hcx)).aVn (newSt w') (fun _ z c v hcm hv=>hfl c v (C.E.enc_flat _ z c hcm).1 hv) (fun _ t1 _ _ _ z c v hcm hv=>hfl c v (C.E.enc_flat t1 z c hcm).1 hv) hu
       ·rw[e1] at hu;rw[e2];refine hfl c u ?_ hu;cases c<;>first|exact hpc|cases hcx
      exact key.mono (fun b hb=>⟨hb,rfl⟩) (fun _ _ _ hr=>by cases hr)
    |true=>
     have hfre:r0.fresh C.E=true:=by simpa using hfr
     refine(hsum (fun _=>False) w args ys _ _ h.below (fun b hb=>hb.elim) ⟨by rw[hn,h1],fun k hk=>?_⟩ hr hc).mono ?_
     ·have:=h2 k hk;rw[kB] at this;exact this.mono (fun b q=>⟨⟨q.1,fun hq=>hq⟩,rfl⟩) (fun _ _ _ hr=>by cases hr)
     ·rintro e w' ⟨v,rfl,⟨ρr,f1,f2,f3,f4⟩,hbw⟩
      refine⟨v,rfl,h.ext hbw,?_⟩;have key:Rel C.E w' bU (aM N ρ w') r0.down v:=by
       refine aB8 (p:=fun c=>wV C.E c=true) (aVU hfre) (fun k c u hpc hnew hu=>?_) f1;show Rel C.E w' bU (aM N ρ w') (fI c) u;rcases cases_ c with ⟨x,hcx,e1,e2⟩|⟨hcx,e1,e2⟩
       ·rw[e1] at hu;rw[e2];obtain⟨p1,p2⟩:=aVT hfre k x (hnew x hcx);refine(f2 k x (hnew x hcx)).aVn (newSt w') (fun hd z c v hcm hv=>hv.pure (C.E.plain_ok _ z (p1 hd) c hcm)) (fun hd t1 y ys hy z c v hcm hv=>hv.pure (C.E.plain_ok t1 z ?_ c hcm)) hu;obtain⟨t2,q1,q2⟩:=p2 hd;obtain⟨zs,q4⟩:=C.E.inner_ok _ _ q1 y;rw[hy] at q4;simp only[List.cons.injEq,and_true,aB.sl.injEq] at q4;rw[q4.1];exact q2
       ·rw[e1] at hu;rw[e2];refine hu.pure ?_;cases c<;>first|exact hpc|cases hcx
      exact key.mono (fun b hb=>⟨hb,rfl⟩) (fun _ _ _ hr=>by cases hr)
   ·cases ho
  ·cases ho
 ·cases ho
theorem bJ0 {C:Cfg U} (hs:fR C w0) (h:RR C.E n N w0 ρ s a w) {look:Nat->Option (aV U)} (hlook:∀id ob,look id=some ob->s.objs id=some ob) {dst:Option Nat} (hfresh:∀d,dst=some d->look d=none->s.objs d=none)
  {f:FuncId} {ts:List TypeId} {xs:List (aB U)} {args:Array Value} (hn:args.size=xs.length) (hx:∀k (h:k<xs.length),Rel C.E w ρ (aM N ρ w) xs[k] (args.getD k undef))
  {cs:List Prop} {r:aB U} {ob:Option (Nat×aV U)} (ho:aGT C look dst f ts xs=some (cs,r,ob)) (hc:dE cs):
  (callFunc f args).run C.P w=.ok (.enter f args) w/\Calls C.P f args w fun e w'=>∃v,e=.returned v/\∃ρ',RR C.E n N w0 ρ' (s.fK ob) a w'/\Rel C.E w' ρ' (aM N ρ' w') r v:=by
 unfold aGT at ho;split at ho
 ·rename_i gD r0 hr;have key:=fun hc=>aVy hs h hlook hn hx hr hc
  split at ho
  ·rename_i hnil;cases ho;obtain⟨k1,k2⟩:=key hc;refine⟨k1,k2.mono ?_⟩
   rintro e w' ⟨v,rfl,hv⟩
   obtain⟨ρ',q1,q2⟩:=hv 0 (fun k hk=>by rw[hnil] at hk;exact absurd hk (by simp));rw[hnil] at q1;exact⟨v,rfl,ρ',q1,q2⟩
  ·rename_i x hone;split at ho
   ·rename_i d;split at ho
    ·rename_i hlk;cases ho;obtain⟨k1,k2⟩:=key hc;refine⟨k1,k2.mono ?_⟩
     rintro e w' ⟨v,rfl,hv⟩
     obtain⟨ρ',q1,q2⟩:=hv d (fun k hk=>by
      rw[hone] at hk;have:k=0:=by simpa using hk
      subst this;exact hfresh d rfl hlk)
     rw[hone] at q1;exact⟨v,rfl,ρ',q1,q2⟩
    ·cases ho
   ·cases ho
  ·obtain⟨_,ho⟩:=bI ho;cases ho;obtain⟨k1,k2⟩:=bJZ hs h hlook hn hx hr hc;refine⟨k1,k2.mono ?_⟩
   rintro e w' ⟨v,rfl,q1,q2⟩
   exact⟨v,rfl,ρ,q1,q2⟩
 ·cases ho
end
end Go.Vm
