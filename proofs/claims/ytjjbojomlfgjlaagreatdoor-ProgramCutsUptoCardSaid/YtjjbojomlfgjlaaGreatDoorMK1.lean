/- Lemmas, walks and laws of this proof, part 1. Conditions: those that each names. -/
import Derived.Shelf.Strings.Builder1
import Derived.WalkKit
import Derived.Orders
import Derived.Below
set_option maxRecDepth 100000
namespace Go
abbrev QQ:=@Option.some.injEq
abbrev QJ:=@cond_false
abbrev QK:=@Prod.mk.injEq
abbrev QX:=@cond_true
abbrev QZ:=@Nat.eq_of_beq_eq_true
abbrev QV:=@Int.toNat_natCast
abbrev QW:=@Option.some.inj
abbrev QY:=@Eq.trans
abbrev QU:=@Bool.and_eq_true
abbrev QG:=@List.getD_eq_getElem?_getD
abbrev QH:=@List.length_append
abbrev QR:=@run_underlying
abbrev QP:=@Result.andThen_ok
abbrev QN:=@List.getElem_mem
abbrev QM:=@Sem.run_bind
abbrev QL:=@List.getElem?_eq_getElem
abbrev QO:=@Nat.le_of_ble_eq_true
abbrev QT:=@List.length_cons
abbrev QC:=@Bool.or_eq_false_iff
abbrev QF:=@decide_eq_false_iff_not
abbrev QE:=@List.mem_cons_of_mem
abbrev QD:=@List.length_singleton
abbrev QA:=@List.getElem?_eq_some_iff
abbrev QI:=@List.foldl_cons
abbrev JQ:=@Array.getElem?_eq_some_iff
abbrev JJ:=@List.mem_cons_self
abbrev JK:=@if_neg
abbrev JX:=@Nat.le_refl
abbrev JZ:=@List.length_nil
abbrev JV:=@if_pos
abbrev JW:=@Nat.zero_add
abbrev JY:=@Nat.mul_le_mul_right
abbrev JU:=@Sem.run_pure
abbrev JG:=@List.all_eq_true
abbrev JH:=@List.getElem?_take
abbrev JR:=@of_decide_eq_false
abbrev JP:=@Nat.add_assoc
abbrev JN:=@decide_eq_true_eq
abbrev JM:=@List.length_set
abbrev JL:=@Nat.add_zero
abbrev JO:=@List.getElem_append_left
abbrev JT:=@beq_eq_false_iff_ne
abbrev JS:=@Nat.beq_refl
abbrev JC:=@of_decide_eq_true
abbrev JF:=@Bool.not_eq_true'
abbrev JE:=@World.ownsRow_nil
abbrev JD:=@List.mem_range
abbrev JB:=@List.mem_singleton
abbrev JA:=@Array.toArray_toList
abbrev JI:=@Nat.lt_of_lt_of_le
abbrev KQ:=@List.length_take
abbrev KJ:=@List.append_nil
abbrev KK:=@List.mem_append
abbrev KX:=@List.drop_length
abbrev KZ:=@List.length_drop
abbrev KV:=@List.getElem_cons_zero
abbrev KW:=@Value.slice.injEq
abbrev KY:=@List.mem_map
abbrev KU:=@Nat.le_trans
abbrev KG:=@decide_eq_false
abbrev KH:=@List.any_eq_true
abbrev KR:=@Addr.mk.injEq
abbrev KP:=@List.append_assoc
abbrev KN:=@List.getElem?_append_left
abbrev KM:=@List.getElem?_map
abbrev KL:=@List.length_replicate
abbrev KO:=@List.length_map
abbrev KT:=@List.getElem?_drop
abbrev KS:=@decide_eq_true
abbrev KC:=@Bool.not_true
abbrev KE:=@List.length_range'
abbrev KD:=@Bool.eq_false_iff
abbrev KB:=@List.size_toArray
abbrev KA:=@Bool.true_and
abbrev KI:=@beq_iff_eq
abbrev XQ:=@List.any_eq_false
abbrev XJ:=@List.range'_succ
abbrev XK:=@List.getElem?_range
abbrev XX:=@Bool.false_or
abbrev XZ:=@Nat.not_lt_zero
abbrev XV:=@Bool.or_false
theorem XW {α:Sort _} {a b:α} (h:a=b:=by kernel_rfl):a=b:=h
theorem XY {p:Prop} (h:p:=by omega):p:=h
theorem XU {p:Prop} (h:p:=by simp):p:=h
end Go
set_option linter.unusedVariables false
namespace Go.Proofs
open Go.Shelf Go.RowKit
variable {P:Program} {ρ:Ren}
def aDB (T e:TypeId) (B b:Nat) (v:Value) (f:List Value) (w:World):Prop:=
 B<=b/\(∃q,(q=.pointer none\/q=.pointer (some ⟨b,0,none⟩))/\w.heap[b]?=some (.cells #[q,v] T (0,0)))/\w.ownsRow B e 1 v f.length f/\v.ownBlock≠some b/\(v=.slice none 0 0↔f=[])
theorem bV8 {w:World} (base:Nat) (t u ty e:TypeId) (i:TypeInfo) (ht:P.underlying t=some (.slice e)) (Z:P.underlying u=some .string) (hi:P.info? e=some i) (hz:i.zero=some (.int .u8 0)) (f:i.size=1) (J:i.bytes=1)
  (v:Value) (n:Nat) (xs:List Value) (r:w.ownsRow base e 1 v n xs) (s:ByteArray) (G:n+s.size<=140737488355328) (S:base<=w.heap.size):
  ∃V w',(Builtin.append_ #[t,u] ty #[v,.string s]).run P w=.ok V w'/\w'.ownsRow base e 1 V (n+s.size) (xs++Lib.strCells s)/\w.grownBy w' v.ownBlock/\(V=.slice none 0 0↔v=.slice none 0 0/\s.size=0)/\
   ∀k,V.ownBlock=some k->v.ownBlock=some k\/w.heap.size<=k:=by
 have hm:n+s.size<=maxLen:=by unfold maxLen;omega
 obtain⟨V,w',hr,h1,h2,h3⟩:=Lib.run_append_own_string (P:=P) w base t u ty e i ht Z hi hz f J v n xs r s hm G S;refine⟨V,w',hr,h1,h2,h3,fun k hk=>?_⟩;rcases r.2 with ⟨rfl,rfl⟩|⟨g,L,cur,rfl,_,hg,_,_,hcs,_⟩
 ·obtain⟨v2,w2,I,q,_⟩:=Lib.run_append_own_string (P:=P) w w.heap.size t u ty e i ht Z hi hz f J (.slice none 0 0) 0 [] (JE _ _ _ _) s hm G (JX _);rw[hr] at I;cases I;exact .inr (q.lt k hk).1
 ·by_cases O:n+s.size<=L
  ·have I:=Lib.run_append_room_string (P:=P) w t u ty e i ht Z hi f g n L cur hg s O XY;rw[hr] at I;cases I;exact .inl hk
  ·have I:=Lib.run_append_grow_string (P:=P) w t u ty e i (.int .u8 0) ht Z hi hz ⟨g,0,none⟩ n L xs (by rw[f];exact r.1) (r.cells (g:=g) rfl) s XY XY (by rw[J];exact growslice_fits XY XY);rw[hr] at I;cases I;simp only[Value.ownBlock,QQ] at hk;exact .inr XY
theorem bV0 {w:World} {ops:Array Oper} {rest:List Oper} {o:Oper} {a:Act} {Q:Exit->Act->World->Prop} (L:o.guard=none) (sl x:Operand) (t u:TypeId) (ho:o.op=.call {callee:=.builtin .append,args:=#[sl,x],argTypes:=#[t,u]})
  (base:Nat) (e:TypeId) (i:TypeInfo) (V:P.underlying t=some (.slice e)) (hu:P.underlying u=some .string) (hi:P.info? e=some i) (S:i.zero=some (.int .u8 0)) (r:i.size=1) (O:i.bytes=1)
  (v:Value) (n:Nat) (xs:List Value) (Z:a.eval sl=v) (J:w.ownsRow base e 1 v n xs) (s:ByteArray) (hx:a.eval x=.string s) (f:n+s.size<=140737488355328) (G:base<=w.heap.size)
  (h:∀I w',w'.ownsRow base e 1 I (n+s.size) (xs++Lib.strCells s)->w.grownBy w' v.ownBlock->(I=.slice none 0 0↔v=.slice none 0 0/\s.size=0)->(∀k,I.ownBlock=some k->v.ownBlock=some k\/w.heap.size<=k)->wpList P ops Q rest (a.put o.dst I) w'):wpList P ops Q (o::rest) a w:=by
 refine wpList_plain L fun K hK=>?_
 obtain⟨I,w',hr,h1,h2,h3,h4⟩:=bV8 (P:=P) base t u o.type e i V hu hi S r O v n xs J s f G;unfold Oper.wp execOp;simp only[ho,resolve,invoke,builtin,QM,JU,QP,List.map_toArray,List.map_cons,List.map_nil,Z,hx,hr];exact hK _ _ (h I w' h1 h2 h3 h4)
set_option maxHeartbeats 2000000 in
theorem bV1 (L:Lays.n169 P ρ) (X:Builder.Extra P ρ) (B b:Nat) (v:Value) (l:List UInt8) (w:World) (h:aDB (ρ.t 72) (ρ.t 5) B b v (Lib.byteCells l) w):
  Calls P (ρ.f 169) #[.pointer (some ⟨b,0,none⟩)] w fun e w'=>e=.returned (.string ⟨l.toArray⟩)/\Below B w w'/\w'.heap.size=w.heap.size/\∀k,k<w.heap.size->v.ownBlock≠some k->w'.heap[k]?=w.heap[k]?:=by
 obtain⟨hB,⟨q,hq,J⟩,G,hne,I⟩:=h
 by_cases h0:l=[]
 ·subst h0;obtain rfl:=I.2 rfl;clear G hne I hq hB;have hUS:=Any.unsafeString_none L X;have c1:w.drew.cell? ⟨b,1,none⟩=some (.slice none 0 0):=by
   have:w.drew.heap[b]?=some (.cells #[q,.slice none 0 0] (ρ.t 72) (0,0)):=J;rw[Lib.cell_of_heap this];rfl
  have hSD:(Builtin.unsafeSliceData_ #[(ρ.t 37)] (ρ.t 127) #[.slice none 0 0]).run P w.drew=.ok (.pointer none) w.drew:=rfl;have mixed:=L.mixed;have t72:=L.t72;have a72:=L.a72;have z72:=L.z72;have v72:=L.v72;have u72:=QR L.t72
  have t70:=L.t70;have a70:=L.a70;have z70:=L.z70;have v70:=L.v70;have u70:=QR L.t70
  have t37:=L.t37;have a37:=L.a37;have z37:=L.z37;have v37:=L.v37;have u37:=QR L.t37
  have V:=L.t127;have Z:=L.a127;have O:=L.z127;have S:=L.v127;have bEy:=QR L.t127
  have t3:=L.t3;have a3:=L.a3;have z3:=L.z3;have v3:=L.v3;have u3:=QR L.t3
  have t9:=L.t9;have a9:=L.a9;have z9:=L.z9;have v9:=L.v9;have u9:=QR L.t9
  have t5:=X.t5;have a5:=X.a5;have z5:=X.z5;have v5:=X.v5;have u5:=QR X.t5
  go_enter L.f169,Body.n169_ntmps ρ
  go_wp2
  go_region_o
  all_goals (go_wp2;go_ret;exact⟨rfl,Below.drew (Below.refl B w),rfl,fun _ _ _=>rfl⟩)
 have rO:l.length≠0:=by simpa using h0
 rw[Lib.byteCells_length] at G;obtain⟨g,u,cur,rfl,hbg,hg,hnc,hcm,hcs,htake⟩:∃g u cur,v=.slice (some ⟨g,0,none⟩) l.length u/\B<=g/\w.heap[g]?=some (.cells cur (ρ.t 5) (0,0))/\l.length<=u/\u<=maxLen/\cur.size=u*1/\cur.toList.take (l.length*1)=Lib.byteCells l:=by
  rcases G.2 with ⟨_,hz⟩|⟨g,u,cur,hv,r⟩
  ·exact absurd hz rO
  ·exact⟨g,u,cur,hv,r⟩
 have c1:w.drew.cell? ⟨b,1,none⟩=some (.slice (some ⟨g,0,none⟩) l.length u):=by
  have:w.drew.heap[b]?=some (.cells #[q,.slice (some ⟨g,0,none⟩) l.length u] (ρ.t 72) (0,0)):=J;rw[Lib.cell_of_heap this];rfl
 have hSD:(Builtin.unsafeSliceData_ #[(ρ.t 37)] (ρ.t 127) #[.slice (some ⟨g,0,none⟩) l.length u]).run P w.drew=.ok (.pointer (some ⟨g,0,none⟩)) w.drew:=
  Lib.run_unsafeSliceData_row _ _ _ _ _ _ XY
 have hUS:(Builtin.unsafeString_ #[(ρ.t 127),(ρ.t 3)] (ρ.t 9) #[.pointer (some ⟨g,0,none⟩),.int .i64 l.length]).run P w.drew=.ok (.string ⟨l.toArray⟩) (w.drew.freeze ⟨g,0,none⟩ l.length):=by
  refine Lib.run_unsafeString_row w.drew (ρ.t 127) (ρ.t 3) (ρ.t 9) (ρ.t 5) L.t127 X.cellsByte g cur.size (by have hg':w.drew.heap[g]?=some (.cells cur (ρ.t 5) (0,0)):=hg;simp[World.shape?,hg']) l h0 XY (by unfold maxLen at hcm;omega) ?_;intro j x hx;exact G.cells (g:=g) rfl j (.int .u8 x.toNat) (by simp[Lib.byteCells,hx])
 have mixed:=L.mixed;have t72:=L.t72;have a72:=L.a72;have z72:=L.z72;have v72:=L.v72;have u72:=QR L.t72
 have t70:=L.t70;have a70:=L.a70;have z70:=L.z70;have v70:=L.v70;have u70:=QR L.t70
 have t37:=L.t37;have a37:=L.a37;have z37:=L.z37;have v37:=L.v37;have u37:=QR L.t37
 have V:=L.t127;have Z:=L.a127;have O:=L.z127;have S:=L.v127;have bEy:=QR L.t127
 have t3:=L.t3;have a3:=L.a3;have z3:=L.z3;have v3:=L.v3;have u3:=QR L.t3
 have t9:=L.t9;have a9:=L.a9;have z9:=L.z9;have v9:=L.v9;have u9:=QR L.t9
 have t5:=X.t5;have a5:=X.a5;have z5:=X.z5;have v5:=X.v5;have u5:=QR X.t5
 have hfs:(w.drew.freeze ⟨g,0,none⟩ l.length).heap.size=w.heap.size:=by
  unfold World.freeze;split
  ·rfl
  ·show (w.drew.heap.modify g _).size=_;rw[Array.size_modify];rfl
 have hfz:∀k,k≠g->(w.drew.freeze ⟨g,0,none⟩ l.length).heap[k]?=w.heap[k]?:=fun k hk=>by
  unfold World.freeze;split
  ·rfl
  ·show (w.drew.heap.modify g _)[k]?=_;rw[Array.getElem?_modify,JK (fun e=>hk e.symm)];rfl
 go_enter L.f169,Body.n169_ntmps ρ
 go_wp2
 go_region_o
 all_goals (go_wp2;go_ret;exact⟨rfl,Lib.below_freeze (Below.drew (Below.refl B w)) (p:=⟨g,0,none⟩) hbg _,hfs,fun k _ hk=>hfz k (fun e=>hk (by rw[e];rfl))⟩)
end Go.Proofs
namespace Go.Vm
open Go.RowKit
set_option linter.unusedVariables false
inductive Name where
 |ob (id:Nat)
 |mem (id i:Nat)
instance:DecidableEq Name:=fun a b=>match a,b with
 | .ob i,.ob j=>if h:i=j then isTrue (h▸rfl) else isFalse (fun e=>h (Name.ob.inj e))
 | .mem i k,.mem j l=>if h:i=j/\k=l then isTrue (by rw[h.1,h.2]) else isFalse (fun e=>h (Name.mem.inj e))
 | .ob _,.mem _ _=>isFalse (fun e=>by cases e)
 | .mem _ _,.ob _=>isFalse (fun e=>by cases e)
def Name.id:Name->Nat
 | .ob i=>i
 | .mem i _=>i
instance:Coe Nat Name:=⟨.ob⟩
def Name.at (j:Nat):Name->Name
 | .ob _=>.ob j
 | .mem _ i=>.mem j i
theorem Name.qF (j:Nat) (nm:Name):(nm.at j).id=j:=by cases nm<;>rfl
theorem Name.bCN (nm:Name):nm.at nm.id=nm:=by cases nm<;>rfl
theorem Name.aL5 {j:Nat} {nm f:Name} (hi:nm.id=f.id) (h:nm.at j=f.at j):nm=f:=by
 cases nm with
 |ob a=>
  cases f with
  |ob b=>rw[show a=b from hi]
  |mem b k=>cases h
 |mem a i=>
  cases f with
  |ob b=>cases h
  |mem b k=>
   obtain⟨_,e⟩:=Name.mem.inj h;rw[show a=b from hi,e]
abbrev Own:=Name->Option (Nat×Value)
structure eW where
 τ:Type
 deq:DecidableEq τ
 T:τ->Type
 ety:τ->TypeId
 size:τ->Nat
 unsl:(t t1:τ)->List (T t1)->Option (T t)
 κ:Type:=Empty
 K:κ->Type:=fun _=>Unit
 φ:Type:=Empty
inductive aC (U:eW):Type where
 |any
 |raw (v:Value)
 |int (k:IntKind) (n:Int)
 |bool (b:Bool)
 |str (s:ByteArray)
 |nils
 |ifc (b:Bool)
 |frz (k:U.φ)
 |ptr (id off:Nat)
 |eptr (id g i off sz:Nat)
 |ref (l:List (aC U)) (off:Nat)
 |sl (t:U.τ) (xs:List (U.T t))
 |osl (id g:Nat)
 |agg (l:List (aC U))
 |tup (l:List (aC U))
 |fn (f:FuncId) (caps:List (aC U))
 |new (t:U.τ) (xs:List (U.T t))
 |newd (t:U.τ) (xs:List (U.T t))
 |msl (id i g:Nat)
 |meptr (id i g j off sz:Nat)
 |ovw (id g lo hi sz:Nat)
inductive bK (U:eW):Type where
 |cells (l:List (aC U))
 |row (t:U.τ) (g:Nat) (xs:List (U.T t))
 |rowF (t:U.τ) (g:Nat) (xs:List (U.T t)) (i m gm:Nat)
 |deep (t:U.τ) (g gm:Nat) (xs:List (U.T t))
 |deepS (t:U.τ) (g gm:Nat) (xs:List (U.T t)) (i:Nat)
 |deepF (t:U.τ) (g gm:Nat) (xs:List (U.T t)) (m gq:Nat)
 |one (t:U.τ) (g m gm:Nat)
 |gone (g gm n:Nat)
 |opq (k:U.κ) (d:U.K k)
def aC.aFC {U:eW}:aC U->Bool
 | .int _ _ | .bool _ | .str _ | .nils | .ifc _ | .frz _ | .ptr _ _ | .eptr _ _ _ _ _ | .ref _ _ | .sl _ _ | .fn _ _=>true
 | .raw v=>v.oneCell'
 | .osl _ _=>true
 | .msl _ _ _ | .meptr _ _ _ _ _ _=>true
 |_=>false
def aC.flat {U:eW}:aC U->Bool
 | .int _ _ | .bool _ | .str _ | .nils | .ifc _ | .frz _ | .raw _ | .sl _ _=>true
 |_=>false
def aC.pure {U:eW}:aC U->Bool
 | .int _ _ | .bool _ | .str _ | .nils | .ifc _ | .raw _=>true
 |_=>false
def blk:Value->Option Nat
 | .pointer (some a)=>some a.block
 | .slice (some a) _ _=>some a.block
 |_=>none
structure Enc (U:eW) where
 enc:(t:U.τ)->U.T t->List (aC U)
 dec:(t:U.τ)->List (aC U)->Option (U.T t)
 dflt:(t:U.τ)->U.T t
 enc_len:∀t x,(enc t x).length=U.size t
 enc_flat:∀t x,∀c∈enc t x,c.flat=true/\c.aFC=true
 dec_len:∀t l x,dec t l=some x->l.length=U.size t
 dec_enc:∀t l x,dec t l=some x->∀k,k<U.size t->(l.getD k .any=(enc t x).getD k .any\/(l.getD k .any=.nils/\∃t',(enc t x).getD k .any=.sl t' []))
 pos:∀t,0<U.size t
 plain:U.τ->Bool
 plain_ok:∀t x,plain t=true->∀c∈enc t x,c.pure=true
 unsl_ok:∀t t1 ys y,U.unsl t t1 ys=some y->enc t y=[.sl t1 ys]
 inner:U.τ->Option U.τ
 inner_ok:∀t t1,inner t=some t1->∀x,∃ys,enc t x=[.sl t1 ys]
 rep:(k:U.κ)->U.K k->World->Nat->Option (Nat×Value)->(Nat->Option (Nat×Value))->Prop:=fun _ _ _ _ _ _=>False
 rep_val:∀k d w base p f,rep k d w base p f->∃g u,p=some (g,u)/\u.oneCell'=true/\∀b,blk u=some b->base<=b/\b<w.heap.size:=by intros;contradiction
 rep_mem:∀k d w base p f i g u,rep k d w base p f->f i=some (g,u)->u.oneCell'=true/\∀b,blk u=some b->base<=b/\b<w.heap.size:=by intros;contradiction
 rep_mono:∀k d w w' base p f,rep k d w base p f->(∀g u b,p=some (g,u)->blk u=some b->w'.heap[b]?=w.heap[b]?)->(∀i g u b,f i=some (g,u)->blk u=some b->w'.heap[b]?=w.heap[b]?)->rep k d w' base p f:=by intros;contradiction
 frep:U.φ->World->(Nat->Prop)->Value->Prop:=fun _ _ _ _=>False
 frep_mono:∀k w w' st st' v,frep k w st v->(∀b,st b->st' b/\w'.heap[b]?=w.heap[b]?)->frep k w' st' v:=by intros;contradiction
 frep_cell:∀k w st v,frep k w st v->v.oneCell'=true:=by intros;contradiction
section
variable {U:eW} (E:Enc U)
inductive Rel (w:World) (ρ:Own) (st:Nat->Prop):aC U->Value->Prop where
 |any (v:Value):Rel w ρ st .any v
 |raw (v:Value):Rel w ρ st (.raw v) v
 |int (k:IntKind) (n:Int):Rel w ρ st (.int k n) (.int k n)
 |bool (b:Bool):Rel w ρ st (.bool b) (.bool b)
 |str (s:ByteArray):Rel w ρ st (.str s) (.string s)
 |nils:Rel w ρ st .nils (.slice none 0 0)
 |ifc0:Rel w ρ st (.ifc true) .nilIface
 |ifc1 (t:TypeId) (v:Value):Rel w ρ st (.ifc false) (.iface t v)
 |frz (k:U.φ) (v:Value) (h:E.frep k w st v):Rel w ρ st (.frz k) v
 |ptr (id off b:Nat) (h:ρ (.ob id)=some (0,.pointer (some ⟨b,0,none⟩))):Rel w ρ st (.ptr id off) (.pointer (some ⟨b,off,none⟩))
 |eptr (id g i off sz b n cap:Nat) (h:ρ (.ob id)=some (g,.slice (some ⟨b,0,none⟩) n cap)) (hi:i<n):
   Rel w ρ st (.eptr id g i off sz) (.pointer (some ⟨b,i*sz+off,none⟩))
 |eptrOld (id g i off sz g':Nat) (u v:Value) (h:ρ (.ob id)=some (g',u)) (hg:g<g'):Rel w ρ st (.eptr id g i off sz) v
 |osl (id g:Nat) (u:Value) (h:ρ (.ob id)=some (g,u)) (hp:∀a,u≠ .pointer a):Rel w ρ st (.osl id g) u
 |oslOld (id g g':Nat) (u v:Value) (h:ρ (.ob id)=some (g',u)) (hg:g<g'):Rel w ρ st (.osl id g) v
 |msl (id i g:Nat) (u:Value) (h:ρ (.mem id i)=some (g,u)):Rel w ρ st (.msl id i g) u
 |mslOld (id i g g':Nat) (u v:Value) (h:ρ (.mem id i)=some (g',u)) (hg:g<g'):Rel w ρ st (.msl id i g) v
 |meptr (id i g j off sz b n cap:Nat) (h:ρ (.mem id i)=some (g,.slice (some ⟨b,0,none⟩) n cap)) (hi:j<n):
   Rel w ρ st (.meptr id i g j off sz) (.pointer (some ⟨b,j*sz+off,none⟩))
 |meptrOld (id i g j off sz g':Nat) (u v:Value) (h:ρ (.mem id i)=some (g',u)) (hg:g<g'):Rel w ρ st (.meptr id i g j off sz) v
 |ovw (id g lo hi sz:Nat) (u:Value) (ad:Option Addr) (c:Nat) (h:ρ (.ob id)=some (g,u)) (hp:∀a,u≠ .pointer a) (hl:lo<=hi)
   (had:(ad=none/\c=0/\lo=hi)\/∃b n cap o,u=.slice (some ⟨b,0,none⟩) n cap/\hi<=n/\ad=some ⟨b,o,none⟩/\(lo<hi->o=lo*sz)/\hi-lo<=c):Rel w ρ st (.ovw id g lo hi sz) (.slice ad (hi-lo) c)
 |ovwOld (id g lo hi sz g':Nat) (u v:Value) (h:ρ (.ob id)=some (g',u)) (hg:g<g'):Rel w ρ st (.ovw id g lo hi sz) v
 |ref (l:List (aC U)) (off b o:Nat) (f:Nat->Value) (hb:st b) (hc:∀k,k<l.length->w.cell? ⟨b,o+k,none⟩=some (f k))
   (hl:∀k (h:k<l.length),Rel w ρ st l[k] (f k)):Rel w ρ st (.ref l off) (.pointer (some ⟨b,o+off,none⟩))
 |lJ (t:U.τ):Rel w ρ st (.sl t []) (.slice none 0 0)
 |sle (t:U.τ) (ad:Addr):Rel w ρ st (.sl t []) (.slice (some ad) 0 0)
 |sl (t:U.τ) (xs:List (U.T t)) (b o cap:Nat) (f:Nat->Value) (hb:st b) (hcap:xs.length<=cap)
   (hc:∀k,k<xs.length*U.size t->w.cell? ⟨b,o+k,none⟩=some (f k))
   (hl:∀i (h:i<xs.length) k (hk:k<(E.enc t xs[i]).length),Rel w ρ st (E.enc t xs[i])[k] (f (i*U.size t+k))):
   Rel w ρ st (.sl t xs) (.slice (some ⟨b,o,none⟩) xs.length cap)
 |agg (l:List (aC U)) (vs:Array Value) (hn:vs.size=l.length) (hl:∀k (h:k<l.length),Rel w ρ st l[k] (vs.getD k undef)):Rel w ρ st (.agg l) (.agg vs)
 |tup (l:List (aC U)) (vs:Array Value) (hn:vs.size=l.length) (hl:∀k (h:k<l.length),Rel w ρ st l[k] (vs.getD k undef)):Rel w ρ st (.tup l) (.tuple vs)
 |fn (f:FuncId) (caps:List (aC U)) (vs:Array Value) (hn:vs.size=caps.length) (hl:∀k (h:k<caps.length),Rel w ρ st caps[k] (vs.getD k undef)):
   Rel w ρ st (.fn f caps) (.func (.func f) #[] vs)
variable {E}
theorem Rel.slE {w:World} {ρ:Own} {st:Nat->Prop} (t:U.τ) (f:Option Addr):Rel E w ρ st (.sl t []) (.slice f 0 0):=by
 cases f
 ·exact .lJ t
 ·exact .sle t _
theorem Rel.mono {w w':World} {ρ ρ':Own} {st st':Nat->Prop}
  (V:∀b,st b->st' b/\w'.heap[b]?=w.heap[b]?)
  (S:∀nm g u,ρ nm=some (g,u)->ρ' nm=some (g,u)\/((∀a,u≠ .pointer a)/\∃G I,ρ' nm=some (G,I)/\g<G))
  {x:aC U} {v:Value} (h:Rel E w ρ st x v):Rel E w' ρ' st' x v:=by
 induction h with
 |any v=>exact .any v
 |raw v=>exact .raw v
 |int k n=>exact .int k n
 |bool b=>exact .bool b
 |str s=>exact .str s
 |nils=>exact .nils
 |ifc0=>exact .ifc0
 |ifc1 t v=>exact .ifc1 t v
 |frz k v h=>exact .frz k v (E.frep_mono _ _ _ _ _ _ h V)
 |ptr id off b h=>
  rcases S _ _ _ h with r|⟨hp,_⟩
  ·exact .ptr id off b r
  ·exact absurd rfl (hp _)
 |eptr id g i off O b n Z h hi=>
  rcases S _ _ _ h with r|⟨_,G,I,r,J⟩
  ·exact .eptr id g i off O b n Z r hi
  ·exact .eptrOld id g i off O G I _ r J
 |eptrOld id g i off O G u v h J=>
  rcases S _ _ _ h with r|⟨_,L,I,r,hg'⟩
  ·exact .eptrOld id g i off O G u _ r J
  ·exact .eptrOld id g i off O L I _ r XY
 |osl id g u h hp=>
  rcases S _ _ _ h with r|⟨_,G,I,r,J⟩
  ·exact .osl id g u r hp
  ·exact .oslOld id g G I _ r J
 |oslOld id g G u v h J=>
  rcases S _ _ _ h with r|⟨_,L,I,r,hg'⟩
  ·exact .oslOld id g G u _ r J
  ·exact .oslOld id g L I _ r XY
 |msl id i g u h=>
  rcases S _ _ _ h with r|⟨_,G,I,r,J⟩
  ·exact .msl id i g u r
  ·exact .mslOld id i g G I _ r J
 |mslOld id i g G u v h J=>
  rcases S _ _ _ h with r|⟨_,L,I,r,hg'⟩
  ·exact .mslOld id i g G u _ r J
  ·exact .mslOld id i g L I _ r XY
 |meptr id i g j off O b n Z h hi=>
  rcases S _ _ _ h with r|⟨_,G,I,r,J⟩
  ·exact .meptr id i g j off O b n Z r hi
  ·exact .meptrOld id i g j off O G I _ r J
 |meptrOld id i g j off O G u v h J=>
  rcases S _ _ _ h with r|⟨_,L,I,r,hg'⟩
  ·exact .meptrOld id i g j off O G u _ r J
  ·exact .meptrOld id i g j off O L I _ r XY
 |ovw id g lo hi O u ad c h hp hl had=>
  rcases S _ _ _ h with r|⟨_,G,I,r,J⟩
  ·exact .ovw id g lo hi O u ad c r hp hl had
  ·exact .ovwOld id g lo hi O G I _ r J
 |ovwOld id g lo hi O G u v h J=>
  rcases S _ _ _ h with r|⟨_,L,I,r,hg'⟩
  ·exact .ovwOld id g lo hi O G u _ r J
  ·exact .ovwOld id g lo hi O L I _ r XY
 |ref l off b o f hb hc hl ih=>
  exact .ref l off b o f (V b hb).1 (fun k hk=>(World.cell?_of_block (V b hb).2).trans (hc k hk)) ih
 |lJ t=>exact .lJ t
 |sle t ad=>exact .sle t ad
 |sl t xs b o Z f hb hcap hc hl ih=>
  exact .sl t xs b o Z f (V b hb).1 hcap (fun k hk=>(World.cell?_of_block (V b hb).2).trans (hc k hk)) ih
 |agg l vs hn hl ih=>exact .agg l vs hn ih
 |tup l vs hn hl ih=>exact .tup l vs hn ih
 |fn f caps vs hn hl ih=>exact .fn f caps vs hn ih
theorem Rel.flat {w:World} {ρ ρ':Own} {st:Nat->Prop} {x:aC U} {v:Value} (hx:x.flat=true) (h:Rel E w ρ st x v):Rel E w ρ' st x v:=by
 induction h with
 |any v=>exact .any v
 |raw v=>exact .raw v
 |int k n=>exact .int k n
 |bool b=>exact .bool b
 |str s=>exact .str s
 |nils=>exact .nils
 |ifc0=>exact .ifc0
 |ifc1 t v=>exact .ifc1 t v
 |frz k v h=>exact .frz k v h
 |lJ t=>exact .lJ t
 |sle t L=>exact .sle t L
 |sl t xs b o u f hb r J O I=>
  exact .sl t xs b o u f hb r J (fun i h k G=>I i h k G (E.enc_flat t _ _ (QN G)).1)
 |_=>simp[aC.flat] at hx
theorem Rel.sS {w:World} {ρ:Own} {st:Nat->Prop} {x:aC U} {v:Value} (h:Rel E w ρ st x v) (hx:x.aFC=true)
  (V:∀nm g u,ρ nm=some (g,u)->u.oneCell'=true) (hold:∀id g,x=.osl id g->∃u,ρ (.ob id)=some (g,u)) (I:∀id g i off J,x=.eptr id g i off J->∃u,ρ (.ob id)=some (g,u))
  (G:∀id i g,x=.msl id i g->∃u,ρ (.mem id i)=some (g,u)) (r:∀id i g j off J,x=.meptr id i g j off J->∃u,ρ (.mem id i)=some (g,u)):v.oneCell'=true:=by
 cases h with
 |raw v=>exact hx
 |frz k v h=>exact E.frep_cell _ _ _ _ h
 |osl id g u h hp=>exact V _ _ _ h
 |oslOld id g S u v h O=>
  obtain⟨L,f⟩:=hold _ _ rfl;rw[h] at f;simp only[QQ,QK] at f;omega
 |eptrOld id g i off J S u v h O=>
  obtain⟨L,f⟩:=I _ _ _ _ _ rfl;rw[h] at f;simp only[QQ,QK] at f;omega
 |msl id i g u h=>exact V _ _ _ h
 |mslOld id i g S u v h O=>
  obtain⟨L,f⟩:=G _ _ _ rfl;rw[h] at f;simp only[QQ,QK] at f;omega
 |meptrOld id i g j off J S u v h O=>
  obtain⟨L,f⟩:=r _ _ _ _ _ _ rfl;rw[h] at f;simp only[QQ,QK] at f;omega
 |any|agg|tup|ovwOld=>simp[aC.aFC] at hx
 |_=>rfl
end
end Go.Vm
namespace Go.Vm
open Go.RowKit
set_option linter.unusedVariables false
structure ASt (U:eW) where
 tmps:Nat->aC U
 objs:Nat->Option (bK U)
section
variable {U:eW}
def ASt.set (s:ASt U) (d:Nat) (v:aC U):ASt U:=⟨fun t=>cond (Nat.beq t d) v (s.tmps t),s.objs⟩
def ASt.obj (s:ASt U) (id:Nat) (o:bK U):ASt U:=⟨s.tmps,fun i=>cond (Nat.beq i id) (some o) (s.objs i)⟩
def ASt.put (s:ASt U):Option Tmp->aC U->ASt U
 |some d,v=>s.set d v
 |none,_=>s
def ASt.kA (s:ASt U):Option (Nat×bK U)->ASt U
 |some (id,o)=>s.obj id o
 |none=>s
def ASt.look (s:ASt U) (t:Nat):aC U:=cond (Nat.blt t 1000000) (s.tmps t) .any
def ofConst:Value->aC U
 | .int k n=>.int k n
 | .bool b=>.bool b
 | .string s=>.str s
 | .slice none 0 0=>.nils
 |v=>.raw v
def ASt.eval (s:ASt U):Operand->aC U
 | .tmp t=>s.look t
 | .const v=>ofConst v
 | .func f=>.fn f []
 | .global _=>.any
def aC.cellsOf:aC U->List (aC U)
 | .agg l=>l
 |v=>[v]
def uT (P:Program) (t:TypeId):Bool:=
 match P.underlying t with
 |some (.struct _)=>true
 |some (.array _ _)=>true
 |_=>false
def jZ (P:Program) (t:TypeId):Option Nat:=
 match P.info? t with
 |some i=>some i.size
 |none=>none
def partOf (P:Program) (t:TypeId) (l:List (aC U)) (off:Nat):Option (aC U):=
 match P.underlying t,jZ P t with
 |some _,some n=>match uT P t with
  |true=>cond (Nat.ble (off+n) l.length) (some (.agg ((l.drop off).take n))) none
  |false=>l[off]?
 |_,_=>none
def uN (E:Enc U) (look:Nat->Option (bK U)) (id i g:Nat):Option ((t1:U.τ)×List (U.T t1)):=
 match look id with
 |some (.deep t _ f xs)=>match E.enc t (xs.getD i (E.dflt t)) with
  |[.sl t1 ys]=>cond (Nat.beq g f) (some ⟨t1,ys⟩) none
  |_=>none
 |_=>none
def behind (E:Enc U) (look:Nat->Option (bK U)):aC U->Option (List (aC U)×Nat)
 | .ptr id off=>match look id with
  |some (.cells l)=>some (l,off)
  |_=>none
 | .eptr id g i off r=>match look id with
  |some (.row t u xs)=>cond (Nat.beq g u&&Nat.beq r (U.size t)) (some (E.enc t (xs.getD i (E.dflt t)),off)) none
  |_=>none
 | .ref l off=>some (l,off)
 | .meptr id i g j off r=>match uN E look id i g with
  |some ⟨f,ys⟩=>cond (Nat.beq r (U.size f)) (some (E.enc f (ys.getD j (E.dflt f)),off)) none
  |none=>none
 |_=>none
def setCells (l:List (aC U)) (off:Nat):List (aC U)->List (aC U)
 |[]=>l
 |c::f=>setCells (l.set off c) (off+1) f
def storable (look:Nat->Option (bK U)):aC U->Bool
 | .osl id g=>match look id with
  |some (.row _ f _)=>Nat.beq g f
  |some (.deep _ f _ _)=>Nat.beq g f
  |some (.deepF _ f _ _ _ _)=>Nat.beq g f
  |_=>false
 | .eptr id g _ _ _=>match look id with
  |some (.row _ f _)=>Nat.beq g f
  |_=>false
 | .msl id _ g=>match look id with
  |some (.deep _ _ r _)=>Nat.beq g r
  |_=>false
 | .meptr id _ g _ _ _=>match look id with
  |some (.deep _ _ r _)=>Nat.beq g r
  |_=>false
 |v=>v.aFC
def aFN (look:Nat->Option (bK U)):aC U->aC U->Option (Nat×bK U)
 | .eptr id g i off u,.osl m r=>match look id,look m with
  |some (.row t G xs),some (.row _ f _)=>cond (Nat.beq g G&&Nat.beq r f&&Nat.beq off 0&&Nat.beq u 1&&Nat.beq (U.size t) 1) (some (id,.rowF t g xs i m r)) none
  |_,_=>none
 |_,_=>none
def storeAt (E:Enc U) (look:Nat->Option (bK U)) (p:aC U) (cs:List (aC U)):Option (Nat×bK U):=
 cond (cs.all (storable look)) (match p with
  | .ptr id off=>match look id with
   |some (.cells l)=>cond (Nat.ble (off+cs.length) l.length) (some (id,.cells (setCells l off cs))) none
   |_=>none
  | .eptr id g i off r=>match look id with
   |some (.row t I xs)=>cond (Nat.beq g I&&Nat.beq r (U.size t)&&Nat.ble (off+cs.length) (U.size t))
     (match E.dec t (setCells (E.enc t (xs.getD i (E.dflt t))) off cs) with
      |some x=>some (id,.row t g (xs.set i x))
      |none=>none) none
   |_=>none
  | .meptr id i g j off r=>match look id with
   |some (.deep t G u xs)=>match uN E look id i g with
    |some ⟨f,ys⟩=>cond (Nat.beq r (U.size f)&&Nat.ble (off+cs.length) (U.size f))
      (match E.dec f (setCells (E.enc f (ys.getD j (E.dflt f))) off cs) with
       |some x=>match U.unsl t f (ys.set j x) with
        |some y=>some (id,.deep t G u (xs.set i y))
        |none=>none
       |none=>none) none
    |none=>none
   |_=>none
  |_=>none) none
def nY (look:Nat->Option (bK U)) (f:Nat->Option (Nat×Nat)) (cells:List (aC U)):List (Nat×aC U)->Option (List (aC U))
 |[]=>some cells
 | (i,v)::rest=>
  match f i with
  |none=>none
  |some (off,size)=>cond (v.cellsOf.all (storable look)&&Nat.beq v.cellsOf.length size&&Nat.ble (off+v.cellsOf.length) cells.length)
    (nY look f (setCells cells off v.cellsOf) rest) none
def zeroCells (P:Program) (t:TypeId):Option (List (aC U)):=
 match P.info? t with
 |some i=>match i.zero with
  |some z=>some (z.cells.toList.map ofConst)
  |none=>none
 |none=>none
def aAW (E:Enc U) (t:U.τ):Nat->List (aC U)->Option (List (U.T t))
 |0,_=>some []
 |n+1,l=>match E.dec t (l.take (U.size t)),aAW E t n (l.drop (U.size t)) with
  |some x,some xs=>some (x::xs)
  |_,_=>none
def bCK (k:IntKind) (x y:Int):Int:=k.wrap (BitVec.ofInt k.bits x&&& BitVec.ofInt k.bits y).toNat
def aPn (op:BinOp):aC U->aC U->Option (List Prop×aC U)
 | .int k a,.int f b=>match op with
  | .shl=>some ([0<=b],.int k (k.wrap (a*2^(min b.toNat k.bits))))
  | .shr=>some ([0<=b],.int k (a.fdiv (2^(min b.toNat k.bits))))
  |op=>if k=f then (match op with
   | .add=>some ([],.int k (k.wrap (a+b)))
   | .sub=>some ([],.int k (k.wrap (a-b)))
   | .mul=>some ([],.int k (k.wrap (a*b)))
   | .quo=>some ([b≠0],.int k (k.wrap (a.tdiv b)))
   | .rem=>some ([b≠0],.int k (a.tmod b))
   | .and=>some ([],.int k (bCK k a b))
   | .eql=>some ([],.bool (a==b))
   | .neq=>some ([],.bool (a !=b))
   | .lss=>some ([],.bool (decide (a<b)))
   | .leq=>some ([],.bool (decide (a<=b)))
   | .gtr=>some ([],.bool (decide (b<a)))
   | .geq=>some ([],.bool (decide (b<=a)))
   |_=>none) else none
 | .str a,.str b=>match op with
   | .add=>some ([(a.size:Int)+b.size<=9223372036854775807],.str (a++b))
   | .eql=>some ([],.bool (a==b))
   | .neq=>some ([],.bool (a !=b))
   |_=>none
 |_,_=>none
def aun (op:UnOp):aC U->Option (aC U)
 | .int k a=>match op with
  | .neg=>some (.int k (k.wrap (0-a)))
  |_=>none
 | .bool b=>match op with
  | .not=>some (.bool (!b))
  |_=>none
 |_=>none
abbrev Out (U:eW):=Option (List Prop×aC U×Option (Nat×bK U))
def val (v:aC U):Out U:=some ([],v,none)
def val? (v:Option (aC U)):Out U:=match v with
 |some v=>some ([],v,none)
 |none=>none
def bD9 (P:Program) (t:TypeId):Prop:=P.stoodInHeld t=false/\P.eqGuardType P.depth t=false/\(P.fieldsOf t).toList.all (fun f=>f.name != "_")=true
def aC.aCb:aC U->Bool
 | .fn _ []=>true
 |v=>v.flat
def aC.yP:aC U->Bool
 | .agg l=>l.all aC.aCb
 |v=>v.aCb
def eQ:List Prop->Prop
 |[]=>True
 |[p]=>p
 |p::q::r=>p/\eQ (q::r)
structure Cfg (U:eW) where
 P:Program
 E:Enc U
 elt:TypeId->Option U.τ
 sum:FuncId->Option (List (aC U)->Option (List Prop×aC U))
 eff:FuncId->Option (List (aC U)->bK U->Option (List Prop×aC U×bK U)):=fun _=>none
 plain:TypeId->Bool
 plainOK:∀t,plain t=true->bD9 P t
 deep:Bool
 inv:World->Prop
 invOK:∀w w',inv w->Below w.heap.size w w'->inv w'
 off:Nat:=0
 hb:Nat:=1000000
 dep:Nat:=0
 dem:Bool:=false
 pur:Bool:=false
 inl:FuncId->Option (Func×Code):=fun _=>none
 inlOK:∀f fn c,inl f=some (fn,c)->P.funcs[f]?=some fn/\fn.body=some c/\∀(args:Array Value) (w:World),(callFunc f args).run P w=.ok (.enter f args) w:=by intros;contradiction
 frzOf:U.φ->TypeId->Option (Int->aC U×aC U):=fun _ _=>none
 frzOK:∀k t f,frzOf k t=some f->∀(w:World) (st:Nat->Prop) (v:Value) (n:Int),E.frep k w st v->∃u b,(Instr.lookup t v (.int .i64 n) true).run P w=.ok (.tuple #[u,b]) w/\Rel E w (fun _=>none) st (f n).1 u/\Rel E w (fun _=>none) st (f n).2 b/\(f n).1.yP=true/\(f n).2.flat=true:=by intros;contradiction
 opqOf:TypeId->Option ((k:U.κ)×U.K k):=fun _=>none
 opqOK:∀t x,opqOf t=some x->∀(w:World) (base:Nat),base<=w.heap.size->∃w',(Instr.alloc t true (.tuple #[])).run P w=.ok (.pointer (some ⟨w.heap.size,0,none⟩)) w'/\Below w.heap.size w w'/\
  E.rep x.1 x.2 w' base (some (0,.pointer (some ⟨w.heap.size,0,none⟩))) (fun _=>none):=by intros;contradiction
 hook:Oper->List (aC U)->Option (List Prop×aC U):=fun _ _=>none
 hookOK:∀o xs cs r,hook o xs=some (cs,r)->eQ cs->∀(a:Act) (w:World),(∀k:Nat,∀v,xs[k]?=some (.raw v)->(o.op.operands.toList.map a.eval)[k]?=some v)->(∀k:Nat,∀kd n,xs[k]?=some (.int kd n)->(o.op.operands.toList.map a.eval)[k]?=some (.int kd n))->
  ∃u,(∀w' ρ st,Rel E w' ρ st r u)/\∀(K:Act->World->Prop) (Q:Exit->Act->World->Prop),(∀w',Below w.heap.size w w'->K (a.put o.dst u) w')->o.wp P a w K Q:=by intros;contradiction
def aGA (P:Program) (r:TypeId->aC U->aC U->Option Bool) (xs ys:List (aC U)):List Field->Option Bool
 |[]=>some true
 |f::u=>match partOf P f.type xs f.offset,partOf P f.type ys f.offset with
  |some a,some b=>match r f.type a b,aGA P r xs ys u with
   |some p,some q=>some (p&&q)
   |_,_=>none
  |_,_=>none
def aFz (P:Program) (f:TypeId->aC U->aC U->Option Bool) (e n:Nat) (xs ys:List (aC U)):List Nat->Option Bool
 |[]=>some true
 |i::r=>match partOf P e xs (i*n),partOf P e ys (i*n) with
  |some a,some b=>match f e a b,aFz P f e n xs ys r with
   |some p,some q=>some (p&&q)
   |_,_=>none
  |_,_=>none
def aeq (C:Cfg U):Nat->TypeId->aC U->aC U->Option Bool
 |0,_,_,_=>none
 |d+1,t,x,y=>match x,y with
  | .bool a,.bool b=>match C.P.underlying t with
   |some .bool=>some (a==b)
   |_=>none
  | .int k a,.int r b=>match C.P.underlying t with
   |some (.int _)=>if k=r then some (a==b) else none
   |_=>none
  | .str a,.str b=>match C.P.underlying t with
   |some .string=>some (a==b)
   |_=>none
  | .agg xs,.agg ys=>match C.P.underlying t with
   |some (.struct f)=>cond (C.plain t) (aGA C.P (aeq C d) xs ys f.toList) none
   |some (.array len e)=>match jZ C.P e with
    |some n=>aFz C.P (aeq C d) e n xs ys (List.range len)
    |none=>none
   |_=>none
  |_,_=>none
def aPm (C:Cfg U) (op:BinOp) (t:TypeId) (x y:aC U):Option (List Prop×aC U):=
 match x,y with
 | .agg xs,.agg ys=>cond (C.plain t) (match op,aeq C 40 t (.agg xs) (.agg ys) with
  | .eql,some b=>some ([],.bool b)
  | .neq,some b=>some ([],.bool !b)
  |_,_=>none) none
 | .bool a,.bool b=>match op,aeq C 1 t (.bool a) (.bool b) with
  | .eql,some b=>some ([],.bool b)
  | .neq,some b=>some ([],.bool !b)
  |_,_=>none
 |x,y=>aPn op x y
def aXz:aC U->Option Bool
 | .ifc b=>some b
 | .raw .nilIface=>some true
 | .raw (.iface _ _)=>some false
 |_=>none
def aPi (P:Program) (op:BinOp) (t:TypeId) (x:aC U) (y:Operand):Option (aC U):=
 match aXz x,y with
 |some b,.const .nilIface=>match P.underlying t with
  |some (.interface _)=>match op with
   | .eql=>some (.bool b)
   | .neq=>some (.bool !b)
   |_=>none
  |_=>none
 |_,_=>none
def aPj (P:Program) (op:BinOp) (t:TypeId) (x:aC U) (y:Operand):Option (aC U):=
 match y with
 | .const .nilIface=>aPi P op t x (.const .nilIface)
 |_=>none
def oK (C:Cfg U) (t:TypeId):Option U.τ:=
 match C.P.underlying t with
 |some (.slice e)=>match jZ C.P e,C.elt e with
  |some n,some τ=>cond (Nat.beq n (U.size τ)&&Nat.beq e (U.ety τ)) (some τ) none
  |_,_=>none
 |_=>none
def stays:Nat->aC U->Bool
 |_,.int _ _|_,.bool _|_,.str _|_,.nils|_,.raw _|_,.frz _|_,.sl _ _=>true
 |d+1,.ref l _=>l.all (stays d)
 |d+1,.fn _ l=>l.all (stays d)
 |_,_=>false
def aFy (f:aC U->Option (aC U×Bool)):List (aC U)->Option (List (aC U)×Bool)
 |[]=>some ([],false)
 |v::r=>match f v,aFy f r with
  |some (x,b),some (xs,u)=>some (x::xs,b||u)
  |_,_=>none
def aGH (f:TypeId->aC U->Option (aC U×Bool)):List TypeId->List (aC U)->Option (List (aC U)×Bool)
 |[],[]=>some ([],false)
 |t::u,v::r=>match f t v,aGH f u r with
  |some (x,b),some (xs,G)=>some (x::xs,b||G)
  |_,_=>none
 |_,_=>none
def dN (P:Program):Nat->TypeId->List TypeId
 |0,t=>[t]
 |d+1,t=>match P.underlying t with
  |some (.struct r)=>r.toList.flatMap fun f=>dN P d f.type
  |some (.array m e)=>(List.replicate m (dN P d e)).flatten
  |_=>[t]
def byC (C:Cfg U) (look:Nat->Option (bK U)):Nat->TypeId->aC U->Option (aC U×Bool)
 |0,_,_=>none
 |d+1,u,v=>match v with
  | .osl id g=>match look id with
   |some (.row t r xs)=>cond (Nat.beq g r) (some (.sl t xs,true)) none
   |some (.deep t r _ xs)=>cond (Nat.beq g r) (some (.sl t xs,true)) none
   |_=>none
  | .msl id i g=>match uN C.E look id i g with
   |some ⟨G,ys⟩=>some (.sl G ys,true)
   |none=>none
  | .nils=>match oK C u with
   |some t=>some (.sl t [],false)
   |none=>none
  | .ptr id off=>match look id with
   |some (.cells l)=>match aFy (byC C look d 0) l with
    |some (ys,_)=>some (.ref ys off,true)
    |none=>none
   |_=>none
  | .fn f l=>match aFy (byC C look d 0) l with
   |some (ys,b)=>some (.fn f ys,b)
   |none=>none
  | .agg l=>match l.all fun c=>match c with | .nils=>false|c=>c.flat with
   |true=>some (.agg l,false)
   |false=>match aGH (byC C look d) (dN C.P 20 u) l with
    |some (ys,b)=>some (.agg ys,b)
    |none=>none
  | .int k n=>some (.int k n,false)
  | .bool b=>some (.bool b,false)
  | .str s=>some (.str s,false)
  | .sl t xs=>some (.sl t xs,false)
  | .frz k=>some (.frz k,false)
  | .ref l off=>cond (stays 4 (.ref l off)) (some (.ref l off,false)) none
  | .raw v=>some (.raw v,false)
  |_=>none
def bCE (C:Cfg U) (look:Nat->Option (bK U)) (ty:TypeId) (v:aC U):Option (aC U×Bool):=byC C look 5 ty v
def yZ (C:Cfg U) (look:Nat->Option (bK U)):List TypeId->List (aC U)->Option (List (aC U)×Bool)
 |[],[]=>some ([],false)
 |t::r,v::f=>match bCE C look t v,yZ C look r f with
  |some (x,b),some (xs,u)=>some (x::xs,b||u)
  |_,_=>none
 |_,_=>none
def bCZ (E:Enc U) (d:Option TypeDesc) (look:Nat->Option (bK U)) (x:aC U):Option Int:=
 match d,x with
 |some .string,.str s=>some s.size
 |some (.slice _),.sl _ xs=>some xs.length
 |some (.slice _),.nils=>some 0
 |some (.slice _),.osl id g=>match look id with
  |some (.row _ f xs)=>cond (Nat.beq g f) (some xs.length) none
  |some (.deep _ f _ xs)=>cond (Nat.beq g f) (some xs.length) none
  |_=>none
 |some (.slice _),.msl id i g=>match uN E look id i g with
  |some ⟨_,ys⟩=>some ys.length
  |none=>none
 |some (.slice _),.ovw id g r hi _=>match look id with
  |some (.row _ f _)=>cond (Nat.beq g f) (some ((hi-r:Nat):Int)) none
  |_=>none
 |some (.array n _),_=>some n
 |_,_=>none
def aSL:List (aC U)->Option (aC U)
 |[.int k a,.int f b]=>if k=f then some (.int k (if b<a then b else a)) else none
 |[.int k a,.int f b,.int r c]=>if k=f/\k=r then some (.int k (if c<(if b<a then b else a) then c else (if b<a then b else a))) else none
 |_=>none
def sU (a b:Int):Int:=if a<b then b else a
def aSP:List (aC U)->Option (aC U)
 |[.int k a,.int f b]=>if k=f then some (.int k (if a<b then b else a)) else none
 |[.int k a,.int f b,.int r c]=>if k=f/\k=r then some (.int k (if (if a<b then b else a)<c then c else (if a<b then b else a))) else none
 |[.int .i64 a,.int .i64 b,.int .i64 c,.int .i64 d,.int .i64 e]=>some (.int .i64 (sU (sU (sU (sU a b) c) d) e))
 |_=>none
def rV (t f:U.τ) (xs:List (U.T f)):Option (List (U.T t)):=
 match U.deq f t with
 | .isTrue h=>some (h▸xs)
 | .isFalse _=>none
def rowOf (E:Enc U) (look:Nat->Option (bK U)) (t:U.τ):aC U->Option (List (U.T t))
 | .osl id g=>match look id with
  |some (.row f r ys)=>cond (Nat.beq g r) (rV t f ys) none
  |_=>none
 | .sl f ys=>rV t f ys
 | .nils=>some []
 | .msl id i g=>match uN E look id i g with
  |some ⟨f,ys⟩=>rV t f ys
  |none=>none
 | .ovw id g G hi u=>match look id with
  |some (.row f r ys)=>cond (Nat.beq g r&&Nat.beq u (U.size f)) (rV t f ((ys.take hi).drop G)) none
  |_=>none
 |_=>none
def aPo (C:Cfg U) (look:Nat->Option (bK U)) (d:Nat) (argTypes:Array TypeId) (x y:aC U):Out U:=
 match argTypes.toList with
 |[t,t']=>cond (Nat.beq t t') (match oK C t with
  |some τ=>match C.P.info? (U.ety τ) with
   |some i=>match i.zero with
    |some z=>cond (Nat.beq z.cells.size (U.size τ)&&Nat.ble 1 i.bytes) (match rowOf C.E look τ y with
     |some ys=>match x with
      | .nils=>match look d with
       |none=>some ([ys.length*i.bytes<=140737488355328],.osl d 0,some (d,.row τ 0 ys))
       |some _=>none
      | .osl id g=>match rowOf C.E look τ (.osl id g) with
       |some xs=>some ([(xs.length+ys.length)*i.bytes<=140737488355328],.osl id (g+1),some (id,.row τ (g+1) (xs++ys)))
       |none=>none
      |_=>none
     |none=>none) none
    |none=>none
   |none=>none
  |none=>none) none
 |_=>none
def aFQ (P:Program) (t:TypeId) (f:Nat):Option Nat:=
 match P.underlying t with
 |some (.struct r)=>match r[f]? with
  |some u=>match jZ P u.type with
   |some (_+1)=>some u.offset
   |_=>none
  |none=>none
 |_=>none
def aFP (P:Program):List Field->Option (List (Nat×Nat))
 |[]=>some []
 |f::u=>match jZ P f.type,aFP P u with
  |some n,some r=>some ((f.offset,n)::r)
  |_,_=>none
def placesOf (P:Program) (t:TypeId):Option (Nat->Option (Nat×Nat)):=
 match P.underlying t with
 |some (.struct f)=>match aFP P f.toList with
  |some r=>some fun i=>r[i]?
  |none=>none
 |some (.array _ e)=>match jZ P e with
  |some n=>some fun i=>some (i*n,n)
  |none=>none
 |_=>none
def aJS (C:Cfg U) (look:Nat->Option (bK U)) (t:TypeId) (x:aC U) (i:Int):Out U:=
 match C.P.underlying t with
 |some (.slice e)=>match x with
  | .sl τ xs=>cond (match jZ C.P e with|some n=>Nat.beq n (U.size τ)|none=>false)
    (some ([0<=i/\i<xs.length],.ref (C.E.enc τ (xs.getD i.toNat (C.E.dflt τ))) 0,none)) none
  | .osl id g=>match look id with
   |some (.row τ f xs)=>cond (Nat.beq g f&&(match jZ C.P e with|some n=>Nat.beq n (U.size τ)|none=>false))
     (some ([0<=i/\i<xs.length],.eptr id g i.toNat 0 (U.size τ),none)) none
   |some (.deep τ f _ xs)=>cond (Nat.beq g f&&(match jZ C.P e with|some n=>Nat.beq n (U.size τ)|none=>false))
     (some ([0<=i/\i<xs.length],.eptr id g i.toNat 0 (U.size τ),none)) none
   |_=>none
  | .msl id k g=>match uN C.E look id k g with
   |some ⟨τ,ys⟩=>cond (match jZ C.P e with|some n=>Nat.beq n (U.size τ)|none=>false)
     (some ([0<=i/\i<ys.length],.meptr id k g i.toNat 0 (U.size τ),none)) none
   |none=>none
  | .nils=>some ([False],.any,none)
  | .ovw id g r hi u=>match look id with
   |some (.row τ f _)=>cond (Nat.beq g f&&Nat.beq u (U.size τ)&&(match jZ C.P e with|some n=>Nat.beq n (U.size τ)|none=>false))
     (some ([0<=i/\i<(hi-r:Nat)],.eptr id g (r+i.toNat) 0 (U.size τ),none)) none
   |_=>none
  |_=>none
 |some (.array len e)=>match jZ C.P e with
  |some n=>match x with
   | .ptr id off=>some ([0<=i/\i<len],.ptr id (off+i.toNat*n),none)
   | .ref l off=>some ([0<=i/\i<len],.ref l (off+i.toNat*n),none)
   |_=>none
  |none=>none
 |_=>none
def aIs (P:Program) (look:Nat->Option (bK U)) (t:TypeId):aC U->Out U
 | .eptr id g i off u=>match look id with
  |some (.rowF _ r _ G m f)=>match P.underlying t,uT P t with
   |some _,false=>cond (Nat.beq g r&&Nat.beq off 0&&Nat.beq u 1) (some ([i=G],.osl m f,none)) none
   |_,_=>none
  |some (.deep _ r f _)=>match P.underlying t,uT P t with
   |some _,false=>cond (Nat.beq g r&&Nat.beq off 0&&Nat.beq u 1) (some ([],.msl id i f,none)) none
   |_,_=>none
  |_=>none
 |_=>none
def aJR (C:Cfg U) (look:Nat->Option (bK U)) (t:TypeId) (x:aC U) (i:Int):Out U:=
 match C.P.underlying t,x with
 |some (.slice e),.osl id g=>match look id with
  |some (.rowF τ f xs _ _ _)=>cond (Nat.beq g f&&(match jZ C.P e with|some n=>Nat.beq n (U.size τ)|none=>false))
    (some ([0<=i/\i<xs.length],.eptr id g i.toNat 0 (U.size τ),none)) none
  |_=>none
 |_,_=>none
def indexOf (C:Cfg U) (t:TypeId) (x:aC U) (i:Int):Out U:=
 match C.P.underlying t,x with
 |some .string,.str s=>some ([0<=i/\i<s.size],.int .u8 (s.data.toList.getD i.toNat 0).toNat,none)
 |some (.array len e),.agg l=>match jZ C.P e with
  |some n=>match partOf C.P e l (i.toNat*n) with
   |some v=>some ([0<=i/\i<len],v,none)
   |none=>none
  |none=>none
 |_,_=>none
def uD (C:Cfg U) (t:TypeId) (x:aC U) (f hi:Option (aC U)):Out U:=
 match C.P.underlying t,x with
 |some .string,.str s=>match f,hi with
  |some (.int _ l),some (.int _ h)=>some ([0<=l/\l<=h/\h<=s.size],.str (s.extract l.toNat h.toNat),none)
  |some (.int _ l),none=>some ([0<=l/\l<=s.size],.str (s.extract l.toNat s.size),none)
  |none,some (.int _ h)=>some ([0<=h/\h<=s.size],.str (s.extract 0 h.toNat),none)
  |none,none=>some ([],.str (s.extract 0 s.size),none)
  |_,_=>none
 |some (.slice e),.sl τ xs=>cond (match jZ C.P e with|some n=>Nat.beq n (U.size τ)|none=>false) (match f,hi with
  |some (.int _ l),some (.int _ h)=>some ([0<=l/\l<=h/\h<=xs.length],.sl τ ((xs.drop l.toNat).take (h.toNat-l.toNat)),none)
  |some (.int _ l),none=>some ([0<=l/\l<=xs.length],.sl τ (xs.drop l.toNat),none)
  |none,some (.int _ h)=>some ([0<=h/\h<=xs.length],.sl τ (xs.take h.toNat),none)
  |none,none=>some ([],.sl τ xs,none)
  |_,_=>none) none
 |_,_=>none
abbrev eA (U:eW):=(_:Bool)×(t:U.τ)×List (U.T t)
def eA.obj:eA U->bK U
 |⟨false,t,xs⟩=>.row t 0 xs
 |⟨true,t,xs⟩=>.deep t 0 0 xs
def iF:aC U->List (eA U)
 | .new t xs=>[⟨false,t,xs⟩]
 | .newd t xs=>[⟨true,t,xs⟩]
 |_=>[]
def gX:aC U->List (eA U)
 | .agg l=>l.flatMap iF
 |v=>iF v
def aC.news:aC U->List (eA U)
 | .tup l=>l.flatMap gX
 |v=>gX v
def jN (g:Nat->aC U->aC U):Nat->List (aC U)->List (aC U)
 |_,[]=>[]
 |k,c::l=>g k c::jN g (k+(iF c).length) l
def mJ (g:Nat->aC U->aC U) (k:Nat):aC U->aC U
 | .agg l=>.agg (jN g k l)
 |v=>g k v
def jG (g:Nat->aC U->aC U):Nat->List (aC U)->List (aC U)
 |_,[]=>[]
 |k,c::l=>mJ g k c::jG g (k+(gX c).length) l
def aIu (g:Nat->aC U->aC U):aC U->aC U
 | .tup l=>.tup (jG g 0 l)
 |v=>mJ g 0 v
def iP:aC U->aC U
 | .new t xs=>.sl t xs
 | .newd t xs=>.sl t xs
 |v=>v
def gW (f:Nat->Nat) (k:Nat):aC U->aC U
 | .new _ _=>.osl (f k) 0
 | .newd _ _=>.osl (f k) 0
 |v=>v
def aC.down (r:aC U):aC U:=aIu (fun _=>iP) r
def aC.uK (f:Nat->Nat) (r:aC U):aC U:=aIu (gW f) r
def ok1:aC U->Bool
 | .new _ _=>true
 | .newd _ _=>true
 |c=>c.flat
def ok2:aC U->Bool
 | .agg l=>l.all ok1
 |v=>ok1 v
def aC.aHy:aC U->Bool
 | .tup l=>l.all ok2
 |v=>ok2 v
def fr1 (E:Enc U):aC U->Bool
 | .new t _=>E.plain t
 | .newd t _=>match E.inner t with
  |some f=>E.plain f
  |none=>false
 |c=>c.pure
def fr2 (E:Enc U):aC U->Bool
 | .agg l=>l.all (fr1 E)
 |v=>fr1 E v
def aC.fresh (E:Enc U):aC U->Bool
 | .tup l=>l.all (fr2 E)
 |v=>fr2 E v
def aRv:aC U->Bool
 | .nils=>true
 | .int _ _=>true
 |_=>false
def aPf (C:Cfg U) (look:Nat->Option (bK U)) (m:List (aC U)->Option (List Prop×aC U)) (r:List TypeId) (f:List (aC U)):Option (List (aC U)×Bool):=
 cond (f.all aRv&&(m f).isSome) (some (f,false)) (yZ C look r f)
def yW (C:Cfg U) (look:Nat->Option (bK U)) (f:FuncId) (argTypes:List TypeId) (u:List (aC U)):Option (List Prop×aC U):=
 match C.sum f with
 |some m=>match aPf C look m argTypes u with
  |some (xs,own)=>match m xs with
   |some (G,r)=>cond (r.aHy&&(!own||r.fresh C.E)) (some (G,r)) none
   |none=>none
  |none=>none
 |none=>none
def aJo (C:Cfg U) (look:Nat->Option (bK U)) (dst:Option Nat) (f:FuncId) (argTypes:List TypeId) (G:List (aC U)):Out U:=
 match yW C look f argTypes G with
 |some (u,r)=>match r.news with
  |[]=>some (u,r.uK (0+·),none)
  |[x]=>match dst with
   |some d=>match look d with
    |none=>some (u,r.uK (d+·),some (d,x.obj))
    |some _=>none
   |none=>none
  |_=>cond C.dem (some (u,r.down,none)) none
 |none=>none
def Cfg.dm (C:Cfg U):Cfg U:={C with dem:=true}
def qM (s:ASt U) (b:Nat):List (eA U)->ASt U
 |[]=>s
 |x::l=>qM (s.obj b x.obj) (b+1) l
def aJ4 (look:Nat->Option (bK U)) (b:Nat):Nat->Bool
 |0=>true
 |m+1=>(match look (b+m) with
  |none=>true
  |some _=>false)&&aJ4 look b m
def ownArg:Nat->List (aC U)->Option (Nat×Nat)
 |_,[]=>none
 |k,.ptr id _::_=>some (k,id)
 |k,.osl id _::_=>some (k,id)
 |k,_::l=>ownArg (k+1) l
def aJc (id f:Nat):aC U->Option (aC U)
 | .ptr i off=>cond (Nat.beq i id) (some (.ptr f off)) none
 | .osl i g=>cond (Nat.beq i id) (some (.osl f g)) none
 | .agg l=>cond (l.all aC.flat) (some (.agg l)) none
 |c=>cond c.aCb (some c) none
def aCg (id f:Nat):List (aC U)->Option (List (aC U))
 |[]=>some []
 |x::l=>match aJc id f x,aCg id f l with
  |some y,some m=>some (y::m)
  |_,_=>none
def bK.closed:bK U->Bool
 | .cells l=>l.all aC.flat
 | .rowF _ _ _ _ _ _=>false
 | .deepS _ _ _ _ _ | .deepF _ _ _ _ _ _ | .one _ _ _ _=>false
 |_=>true
def yA:aC U->Bool
 | .agg l=>l.all aC.pure
 |c=>c.pure
def aC.nS:aC U->Bool
 | .tup l=>l.all yA
 |v=>yA v
def uJ (f:Nat):aC U->bK U->Bool
 | .osl k g,.row _ r _=>Nat.beq k f&&Nat.beq g r
 |_,_=>false
def aPV (id f:Nat):aC U->aC U
 | .osl k g=>cond (Nat.beq k f) (.osl id g) (.osl k g)
 |r=>r
def aPU (look:Nat->Option (bK U)) (m:List (aC U)->bK U->Option (List Prop×aC U×bK U)) (G:List (aC U)):Out U:=
 match ownArg 0 G with
 |some (u,id)=>match look id with
  |some ob=>match aCg id u G with
   |some xs=>match m xs ob with
    |some (I,r,f)=>cond (ob.closed&&f.closed&&(r.nS||uJ u r f)) (some (I,aPV id u r,some (id,f))) none
    |none=>none
   |none=>none
  |none=>none
 |none=>none
def aIl (look:Nat->Option (bK U)) (r:Nat):aC U->Out U
 | .ptr id off=>val (.ptr id (off+r))
 | .eptr id g i off f=>cond (storable look (.eptr id g i off f)) (val (.eptr id g i (off+r) f)) none
 | .ref l off=>val (.ref l (off+r))
 | .meptr id i g j off f=>cond (storable look (.meptr id i g j off f)) (val (.meptr id i g j (off+r) f)) none
 |_=>none
def aHb:List (aC U)->Option (List Value)
 |[]=>some []
 | .int k n::l=>match aHb l with
  |some f=>some (.int k n::f)
  |none=>none
 |_=>none
def aop (C:Cfg U) (o:Oper) (u:Operand->aC U) (look:Nat->Option (bK U)):Out U:=
 match o.op with
 | .move x | .assign x=>val (u x)
 | .pick c a b=>match u c,u a,u b with
  | .bool c,.bool x,.bool y=>val (.bool (cond c x y))
  | .bool c,x,y=>match c with
   |true=>val x
   |false=>val y
  |_,_,_=>none
 | .alloc t=>match o.dst with
  |some d=>match look (C.off+d) with
   |none=>match C.opqOf t with
    |some x=>some ([],.ptr (C.off+d) 0,some (C.off+d,.opq x.1 x.2))
    |none=>match zeroCells C.P t with
     |some Z=>some ([],.ptr (C.off+d) 0,some (C.off+d,.cells Z))
     |none=>none
   |some _=>none
  |_=>none
 | .box t x=>match o.dst with
  |some d=>match look (C.off+d) with
   |none=>cond ((u x).cellsOf.all (storable look)) (some ([],.ptr (C.off+d) 0,some (C.off+d,.cells (u x).cellsOf))) none
   |some _=>none
  |none=>none
 | .build t G=>match placesOf C.P t,zeroCells C.P t with
  |some pl,some z=>match nY look pl z (G.toList.map fun p=>(p.1,u p.2)) with
   |some l=>val (.agg l)
   |none=>none
  |_,_=>none
 | .buildSlice t len G=>match o.dst,oK C t with
  |some d,some τ=>match look (C.off+d),zeroCells C.P (U.ety τ) with
   |none,some z=>cond (Nat.beq z.length (U.size τ)&&Nat.ble (len*U.size τ) 16777216)
     (match nY look (fun i=>some (i*U.size τ,U.size τ)) ((List.replicate len z).flatten) (G.toList.map fun p=>(p.1,u p.2)) with
      |some l=>match aAW C.E τ len l with
       |some xs=>cond C.pur (some ([],.sl τ xs,none)) (match C.E.plain τ with
        |true=>some ([],.osl (C.off+d) 0,some (C.off+d,.row τ 0 xs))
        |false=>cond C.deep none (some ([],.sl τ xs,some (C.off+d,.row τ 1 []))))
       |none=>none
      |none=>none) none
   |_,_=>none
  |_,_=>none
 | .makeSlice t x y=>match o.dst,oK C t with
  |some d,some τ=>match look (C.off+d),zeroCells C.P (U.ety τ),C.P.info? (U.ety τ) with
   |none,some z,some i=>match C.E.dec τ z,u x,u y with
    |some e,.int _ n,.int _ m=>cond (Nat.beq z.length (U.size τ)&&Nat.ble 1 i.bytes) (match C.deep,C.E.inner τ with
     |true,some _=>none
     |_,_=>some ([0<=n/\m=n/\n*(i.bytes:Int)<=140737488355328],.osl (C.off+d) 0,some (C.off+d,.row τ 0 (List.replicate n.toNat e)))) none
    |_,_,_=>none
   |_,_,_=>none
  |_,_=>none
 | .load t a=>match behind C.E look (u a) with
  |some (l,off)=>val? (partOf C.P t l off)
  |none=>aIs C.P look t (u a)
 | .store t a x=>match jZ C.P t with
  |some n=>cond (Nat.beq (u x).cellsOf.length n) (match storeAt C.E look (u a) (u x).cellsOf with
   |some ob=>some ([],.raw undef,some ob)
   |none=>match aFN look (u a) (u x) with
    |some ob=>some ([],.raw undef,some ob)
    |none=>none) none
  |none=>none
 | .binOp op t x y _=>match aPj C.P op t (u x) y with
  |some v=>val v
  |none=>match aPm C op t (u x) (u y) with
   |some (Z,v)=>some (Z,v,none)
   |none=>none
 | .unOp op _ x=>val? (aun op (u x))
 | .fieldAddr t x f=>match aFQ C.P t f with
  |some fo=>aIl look fo (u x)
  |none=>none
 | .field t x f=>match C.P.underlying t with
  |some (.struct L)=>match L[f]?,u x with
   |some fl,.agg l=>val? (partOf C.P fl.type l fl.offset)
   |_,_=>none
  |_=>none
 | .indexAddr t x V=>match u V with
  | .int _ i=>match aJS C look t (u x) i with
   |some r=>some r
   |none=>aJR C look t (u x) i
  |_=>none
 | .index t x V=>match u V with
  | .int _ i=>indexOf C t (u x) i
  |_=>none
 | .slice t x S hi none=>match S,hi with
  |some S,some hi=>uD C t (u x) (some (u S)) (some (u hi))
  |some S,none=>uD C t (u x) (some (u S)) none
  |none,some hi=>uD C t (u x) none (some (u hi))
  |none,none=>uD C t (u x) none none
 | .convert src dst x=>match C.P.underlying src,C.P.underlying dst,u x with
  |some _,some (.int k),.int _ n=>val (.int k (k.wrap n))
  |_,_,_=>none
 | .makeInterface t x=>match C.P.underlying t,u x with
  |some (.struct _),.agg l=>match aHb l with
   |some vs=>val (.raw (.iface t (.agg vs.toArray)))
   |none=>none
  |_,_=>none
 | .lookup t m x ok=>match ok,u m,u x with
  |true,.frz k,.int .i64 n=>match C.frzOf k t with
   |some f=>val (.tup [(f n).1,(f n).2])
   |none=>none
  |_,_,_=>none
 | .extract t i=>match u t with
  | .tup l=>val? (l[i]?)
  |_=>none
 | .call c=>match c.callee with
  | .builtin .len=>match c.args.toList,c.argTypes.toList with
   |[x],[t]=>match bCZ C.E (C.P.underlying t) look (u x) with
    |some n=>val (.int .i64 n)
    |none=>none
   |_,_=>none
  | .builtin .min=>val? (aSL (c.args.toList.map u))
  | .builtin .max=>val? (aSP (c.args.toList.map u))
  | .builtin .append=>match o.dst,c.args.toList with
   |some d,[x,y]=>aPo C look (C.off+d) c.argTypes (u x) (u y)
   |_,_=>none
  | .value x=>match u x with
   | .fn f J=>match C.eff f with
    |none=>aJo C look (o.dst.map (C.off+·)) f (c.argTypes.toList++List.replicate J.length 0) (c.args.toList.map u++J)
    |some m=>aPU look m (c.args.toList.map u++J)
   |_=>none
  |_=>none
 | .makeFunc fn first I=>match fn with
  | .func f=>cond (Nat.beq first.size 0) (val (.fn f (I.toList.map u))) none
  |_=>none
 | .nilCheck x=>match u x with
  | .ptr id off=>val (.ptr id off)
  | .eptr id g i off O=>cond (storable look (.eptr id g i off O)) (val (.eptr id g i off O)) none
  | .meptr id i g j off O=>cond (storable look (.meptr id i g j off O)) (val (.meptr id i g j off O)) none
  | .ref l off=>val (.ref l off)
  |_=>none
 |_=>none
end
end Go.Vm
namespace Go.Vm
open Go.RowKit
set_option linter.unusedVariables false
section
variable {U:eW}
structure Fr where
 w0:World
 we:World
 K:Nat->Prop
 lt:∀b,K b->b<we.heap.size
 le:w0.heap.size<=we.heap.size
 pin:Nat->Option (Nat×Value)
 pinp:∀id p,pin id=some p->∃a,p.2=.pointer a
 hv:Nat->Value:=fun _=>undef
 ds:List Deferred:=[]
instance:Coe Fr World:=⟨Fr.w0⟩
def Fr.heap (F:Fr):Array Obj:=F.w0.heap
def Fr.pure (w:World):Fr:=⟨w,w,fun _=>False,fun _ h=>h.elim,JX _,fun _=>none,(fun _ _ h=>by cases h),fun _=>undef,[]⟩
def _root_.Go.Act.kY (a:Act) (F:Fr) (t:Nat):Value:=cond (Nat.blt t 1000000) (a.tmps.getD t undef) (F.hv t)
def bF (N:Nat->Prop) (ρ:Own) (w:World) (b:Nat):Prop:=
 b<w.heap.size/\¬N b/\∀nm g u,ρ nm=some (g,u)->blk u≠some b
def gE (E:Enc U) (w:World) (ρ:Own) (st:Nat->Prop) (base id:Nat):bK U->Prop
 | .cells l=>∃b c J,ρ (.ob id)=some (0,.pointer (some ⟨b,0,none⟩))/\base<=b/\w.heap[b]?=some (.cells c J (0,0))/\c.size=l.length/\
   ∀k (h:k<l.length),Rel E w ρ st l[k] (c.getD k undef)
 | .row t g xs=>∃u r,ρ (.ob id)=some (g,u)/\(∀a,u≠ .pointer a)/\w.ownsRow base (U.ety t) (U.size t) u xs.length r/\
   ∀i (h:i<xs.length) k (I:k<(E.enc t xs[i]).length),Rel E w ρ st (E.enc t xs[i])[k] (r.getD (i*U.size t+k) undef)
 | .rowF t g xs i m G=>∃u r,ρ (.ob id)=some (g,u)/\(∀a,u≠ .pointer a)/\w.ownsRow base (U.ety t) (U.size t) u xs.length r/\U.size t=1/\i<xs.length/\Rel E w ρ st (.osl m G) (r.getD i undef)/\
   ∀j (h:j<xs.length),j≠i->∀k (I:k<(E.enc t xs[j]).length),Rel E w ρ st (E.enc t xs[j])[k] (r.getD (j*U.size t+k) undef)
 | .deep t g G xs=>∃u r,ρ (.ob id)=some (g,u)/\(∀a,u≠ .pointer a)/\w.ownsRow base (U.ety t) (U.size t) u xs.length r/\U.size t=1/\(∀j,xs.length<=j->ρ (.mem id j)=none)/\
   ∀j (h:j<xs.length),∃f ys v ds,E.enc t xs[j]=[.sl f ys]/\ρ (.mem id j)=some (G,v)/\r.getD j undef=v/\(∀a,v≠ .pointer a)/\w.ownsRow base (U.ety f) (U.size f) v ys.length ds/\
    ∀i (h:i<ys.length) k (I:k<(E.enc f ys[i]).length),Rel E w ρ st (E.enc f ys[i])[k] (ds.getD (i*U.size f+k) undef)
 | .deepS t g G xs i=>∃u r,ρ (.ob id)=some (g,u)/\(∀a,u≠ .pointer a)/\w.ownsRow base (U.ety t) (U.size t) u xs.length r/\U.size t=1/\(∀j,xs.length<=j->ρ (.mem id j)=none)/\
   ∀j (h:j<xs.length),∃f ys v ds,E.enc t xs[j]=[.sl f ys]/\ρ (.mem id j)=some (G,v)/\(j≠i->r.getD j undef=v)/\(∀a,v≠ .pointer a)/\w.ownsRow base (U.ety f) (U.size f) v ys.length ds/\
    ∀q (h:q<ys.length) k (I:k<(E.enc f ys[q]).length),Rel E w ρ st (E.enc f ys[q])[k] (ds.getD (q*U.size f+k) undef)
 | .deepF t g G xs m L=>∃u r,ρ (.ob id)=some (g,u)/\(∀a,u≠ .pointer a)/\w.ownsRow base (U.ety t) (U.size t) u (xs.length+1) r/\U.size t=1/\(∀j,xs.length<=j->ρ (.mem id j)=none)/\Rel E w ρ st (.osl m L) (r.getD xs.length undef)/\
   ∀j (h:j<xs.length),∃f ys v ds,E.enc t xs[j]=[.sl f ys]/\ρ (.mem id j)=some (G,v)/\r.getD j undef=v/\(∀a,v≠ .pointer a)/\w.ownsRow base (U.ety f) (U.size f) v ys.length ds/\
    ∀q (h:q<ys.length) k (I:k<(E.enc f ys[q]).length),Rel E w ρ st (E.enc f ys[q])[k] (ds.getD (q*U.size f+k) undef)
 | .one t g m G=>∃u r,ρ (.ob id)=some (g,u)/\(∀a,u≠ .pointer a)/\w.ownsRow base (U.ety t) (U.size t) u 1 r/\U.size t=1/\Rel E w ρ st (.osl m G) (r.getD 0 undef)/\(r.getD 0 undef).oneCell'=true
 | .gone g G n=>ρ (.ob id)=some (g,.slice none 0 0)/\(∀j,j<n->ρ (.mem id j)=some (G,.slice none 0 0))/\∀j,n<=j->ρ (.mem id j)=none
 | .opq k d=>E.rep k d w base (ρ (.ob id)) (fun j=>ρ (.mem id j))
def bK.simple:bK U->Bool
 | .deep _ _ _ _ | .deepS _ _ _ _ _ | .deepF _ _ _ _ _ _ | .gone _ _ _ | .opq _ _=>false
 |_=>true
def bDa (s:ASt U) (nm:Name):Prop:=∃ob,s.objs nm.id=some ob/\(ob.simple=true->∃id,nm=.ob id)
structure RR (E:Enc U) (n:Nat) (N:Nat->Prop) (w0:Fr) (ρ:Own) (s:ASt U) (a:Act) (w:World):Prop where
 defers:a.defers=w0.ds
 size:a.tmps.size=n
 tmps:∀t,Rel E w ρ (bF N ρ w) (s.tmps t) (a.kY w0 t)
 objs:∀id ob,s.objs id=some ob->gE E w ρ (bF N ρ w) w0.heap.size id ob
 dom:∀nm g u,ρ nm=some (g,u)->bDa s nm
 sep:∀nm nm' g g' u u' b,ρ nm=some (g,u)->ρ nm'=some (g',u')->nm≠nm'->blk u=some b->blk u'≠some b
 below:Below w0.heap.size w0 w
 nlt:∀b,N b->b<w0.heap.size\/w0.K b
 kept:w0.we.heap.size<=w.heap.size/\∀b,w0.K b->w.heap[b]?=w0.we.heap[b]?
 free:∀nm g u b,ρ nm=some (g,u)->blk u=some b->¬w0.K b
 pin:∀id p,w0.pin id=some p->(∃ob,s.objs id=some ob)/\ρ (.ob id)=some p
 nle:n<=1000000
def R (E:Enc U) (n:Nat) (N:Nat->Prop) (w0:Fr) (s:ASt U) (a:Act) (w:World):Prop:=∃ρ,RR E n N w0 ρ s a w
variable {E:Enc U} {n:Nat} {N:Nat->Prop} {w0:Fr} {w w':World} {ρ ρ':Own} {s:ASt U} {a:Act}
theorem rJ {base:Nat} {e:TypeId} {m k:Nat} {u:Value} {cs:List Value} (r:w.ownsRow base e m u k cs) (hp:∀a,u≠ .pointer a):u.oneCell'=true/\∀b,blk u=some b->base<=b/\b<w.heap.size:=by
 refine⟨?_,fun G f=>?_⟩
 ·rcases r.2 with ⟨rfl,_⟩|⟨_,_,_,rfl,_⟩<;>rfl
 ·refine r.lt G ?_;rcases r.2 with ⟨rfl,_⟩|⟨_,_,_,rfl,_⟩
  ·simp[blk] at f
  ·simpa[blk,Value.ownBlock] using f
theorem gE.val {st:Nat->Prop} {base id:Nat} {ob:bK U} (h:gE E w ρ st base id ob):∃g u,ρ (.ob id)=some (g,u)/\u.oneCell'=true/\∀b,blk u=some b->base<=b/\b<w.heap.size:=by
 cases ob with
 |cells l=>
  obtain⟨b,c,O,r,f,L,_⟩:=h;refine⟨_,_,r,rfl,fun V J=>?_⟩;simp only[blk,QQ] at J;subst J;exact⟨f,(JQ.1 L).1⟩
 |row t g xs=>
  obtain⟨u,I,r,hp,f,_⟩:=h;exact⟨_,_,r,rJ f hp⟩
 |rowF t g xs i m G=>
  obtain⟨u,I,r,hp,f,_⟩:=h;exact⟨_,_,r,rJ f hp⟩
 |deep t g G xs=>
  obtain⟨u,I,r,hp,f,_⟩:=h;exact⟨_,_,r,rJ f hp⟩
 |deepS t g G xs i=>
  obtain⟨u,I,r,hp,f,_⟩:=h;exact⟨_,_,r,rJ f hp⟩
 |deepF t g G xs m S=>
  obtain⟨u,I,r,hp,f,_⟩:=h;exact⟨_,_,r,rJ f hp⟩
 |one t g m G=>
  obtain⟨u,I,r,hp,f,_⟩:=h;exact⟨_,_,r,rJ f hp⟩
 |gone g G n=>
  exact⟨_,_,h.1,rfl,fun b hb=>by cases hb⟩
 |opq k d=>exact E.rep_val _ _ _ _ _ _ h
theorem gE.aQr {st:Nat->Prop} {base id i g:Nat} {u:Value} {ob:bK U} (h:gE E w ρ st base id ob) (hob:ob.simple=false) (f:ρ (.mem id i)=some (g,u)):u.oneCell'=true/\∀b,blk u=some b->base<=b/\b<w.heap.size:=by
 cases ob with
 |deep t Z V xs=>
  obtain⟨u1,cs,h1,hp,S,O,L,J⟩:=h
  by_cases hi:i<xs.length
  ·obtain⟨t1,ys,v,ds,_,r,_,I,G,_⟩:=J i hi;rw[f] at r;simp only[QQ,QK] at r;obtain⟨rfl,rfl⟩:=r;exact rJ G I
  ·rw[L i XY] at f;cases f
 |deepS t Z V xs i0=>
  obtain⟨u1,cs,h1,hp,S,O,L,J⟩:=h
  by_cases hi:i<xs.length
  ·obtain⟨t1,ys,v,ds,_,r,_,I,G,_⟩:=J i hi;rw[f] at r;simp only[QQ,QK] at r;obtain⟨rfl,rfl⟩:=r;exact rJ G I
  ·rw[L i XY] at f;cases f
 |deepF t Z V xs m0 gq0=>
  obtain⟨u1,cs,h1,hp,S,O,L,_,J⟩:=h
  by_cases hi:i<xs.length
  ·obtain⟨t1,ys,v,ds,_,r,_,I,G,_⟩:=J i hi;rw[f] at r;simp only[QQ,QK] at r;obtain⟨rfl,rfl⟩:=r;exact rJ G I
  ·rw[L i XY] at f;cases f
 |gone Z V n=>
  obtain⟨_,S,O⟩:=h
  by_cases hi:i<n
  ·rw[S i hi] at f;cases f;exact⟨rfl,fun b hb=>by cases hb⟩
  ·rw[O i XY] at f;cases f
 |opq k d=>exact E.rep_mem _ _ _ _ _ _ i _ _ h f
 |_=>cases hob
theorem RR.own (h:RR E n N w0 ρ s a w) {nm:Name} {g:Nat} {u:Value} (G:ρ nm=some (g,u)):u.oneCell'=true/\∀b,blk u=some b->w0.heap.size<=b/\b<w.heap.size:=by
 obtain⟨ob,r,L⟩:=h.dom _ _ _ G;cases nm with
 |ob id=>
  obtain⟨Z,J,V,S,O⟩:=(h.objs _ _ r).val;have f:ρ (.ob id)=some (Z,J):=V;rw[G] at f;simp only[QQ,QK] at f;obtain⟨rfl,rfl⟩:=f;exact⟨S,O⟩
 |mem id i=>
  have I:ob.simple=false:=by
   cases hx:ob.simple with
   |false=>rfl
   |true=>
    obtain⟨_,e⟩:=L hx;cases e
  exact(h.objs _ _ r).aQr I G
theorem RR.aEG (h:RR E n N w0 ρ s a w) {nm:Name} {g:Nat} {u:Value} {b:Nat} (f:ρ nm=some (g,u)) (hb:blk u=some b):¬N b:=fun G=>by
 have I:=((h.own f).2 _ hb).1;rcases h.nlt _ G with r|r
 ·omega
 ·exact h.free _ _ _ _ f hb r
theorem RR.aRw (h:RR E n N w0 ρ s a w) {b:Nat} (hb:w.heap.size<=b):¬N b:=fun r=>by
 rcases h.nlt _ r with f|f
 ·have:=h.below.size;have u:b<w0.w0.heap.size:=f;omega
 ·have:=w0.lt b f;have:=h.kept.1;omega
theorem RR.aEI (h:RR E n N w0 ρ s a w) {id:Nat} (r:∀ob,s.objs id=some ob->ob.simple=true) (i:Nat):ρ (.mem id i)=none:=by
 cases u:ρ (.mem id i) with
 |none=>rfl
 |some p=>
  obtain⟨ob,f,G⟩:=h.dom _ p.1 p.2 u;obtain⟨_,e⟩:=G (r _ f);cases e
theorem aM1 {st:Nat->Prop} (v:Value):Rel E w ρ st (ofConst v) v:=by
 unfold ofConst;split
 ·exact .int _ _
 ·exact .bool _
 ·exact .str _
 ·exact .nils
 ·exact .raw _
theorem aBb {a:Act} {F:Fr} {t:Nat} (h:t<1000000):a.kY F t=a.tmps.getD t undef:=by
 unfold Act.kY;rw[show Nat.blt t 1000000=true from Nat.ble_eq_true_of_le h];rfl
theorem aNt {s:ASt U} {t:Nat} (h:t<1000000):s.look t=s.tmps t:=by
 unfold ASt.look;rw[show Nat.blt t 1000000=true from Nat.ble_eq_true_of_le h];rfl
theorem aNs {s:ASt U} {t:Nat} {x:aC U} (h:s.look t=x) (hx:x≠ .any):t<1000000/\s.tmps t=x:=by
 by_cases f:t<1000000
 ·rw[aNt f] at h;exact⟨f,h⟩
 ·have hb:Nat.blt t 1000000=false:=by
   cases hb:Nat.blt t 1000000
   ·rfl
   ·exact absurd (QO hb) f
  unfold ASt.look at h;rw[hb] at h;exact absurd h.symm hx
theorem RR.look (h:RR E n N w0 ρ s a w) (t:Nat):Rel E w ρ (bF N ρ w) (s.look t) (a.tmps.getD t undef):=by
 by_cases f:t<1000000
 ·rw[aNt f,<- aBb (F:=w0) f];exact h.tmps t
 ·have hb:Nat.blt t 1000000=false:=by
   cases hb:Nat.blt t 1000000
   ·rfl
   ·exact absurd (QO hb) f
  unfold ASt.look;rw[hb];exact .any _
theorem RR.eval (h:RR E n N w0 ρ s a w) (x:Operand):Rel E w ρ (bF N ρ w) (s.eval x) (a.eval x):=by
 cases x with
 |tmp t=>exact h.look t
 |const v=>exact aM1 v
 |global g=>exact .any _
 |func f=>exact .fn f [] #[] rfl (fun k r=>absurd r XU)
theorem iX {i d:Nat} (h:¬i=d):Nat.beq i d=false:=by
 cases hb:Nat.beq i d
 ·rfl
 ·exact absurd (QZ hb) h
theorem aFJ (c:Array Value) (i:Nat) (v:Value) (hi:i<c.size) (k:Nat):(c.setIfInBounds i v).getD k undef=if k=i then v else c.getD k undef:=by
 by_cases f:k=i
 ·subst f;simp[hi]
 ·rw[JK f];simp[Array.getElem?_setIfInBounds_ne (Ne.symm f)]
theorem RR.put (h:RR E n N w0 ρ s a w) (dst:Option Tmp) (G:∀d,dst=some d->d<n) {x:aC U} {v:Value} (hv:Rel E w ρ (bF N ρ w) x v):
  RR E n N w0 ρ (s.put dst x) (a.put dst v) w:=by
 cases dst with
 |none=>exact h
 |some d=>
  have f:=G d rfl;refine⟨h.defers,by simpa[Act.put] using h.size,fun t=>?_,h.objs,h.dom,h.sep,h.below,h.nlt,h.kept,h.free,h.pin,h.nle⟩;show Rel E w ρ _ (cond (Nat.beq t d) x (s.tmps t)) (cond (Nat.blt t 1000000) ((a.tmps.setIfInBounds d v).getD t undef) (w0.hv t));rw[aFJ _ _ _ (by rw[h.size];exact f)]
  by_cases r:t=d
  ·subst r;have u:=h.nle;rw[show Nat.blt t 1000000=true from Nat.ble_eq_true_of_le (JI f u)];simpa using hv
  ·rw[JK r];have:Nat.beq t d=false:=iX r;rw[this];exact h.tmps t
theorem gE.mono {st st':Nat->Prop} {base id:Nat} {ob:bK U}
  (I:∀b,st b->st' b/\w'.heap[b]?=w.heap[b]?)
  (hρ:∀nm g u,ρ nm=some (g,u)->ρ' nm=some (g,u)\/((∀a,u≠ .pointer a)/\∃g' u',ρ' nm=some (g',u')/\g<g'))
  (L:∀nm:Name,nm.id=id->ρ' nm=ρ nm) (S:∀(nm:Name) g u b,nm.id=id->ρ nm=some (g,u)->blk u=some b->w'.heap[b]?=w.heap[b]?)
  (h:gE E w ρ st base id ob):gE E w' ρ' st' base id ob:=by
 have row:∀{nm:Name} {g:Nat} {u:Value} {e:TypeId} {m k:Nat} {O:List Value},nm.id=id->ρ nm=some (g,u)->w.ownsRow base e m u k O->w'.ownsRow base e m u k O:=fun hn r G=>by
  refine⟨G.1,?_⟩;rcases G.2 with hn'|⟨g',cap,cur,rfl,hb,hg,rest⟩
  ·exact .inl hn'
  ·exact .inr ⟨g',cap,cur,rfl,hb,by rw[S _ _ _ g' hn r rfl];exact hg,rest⟩
 have f:∀{nm:Name} {p:Option (Nat×Value)},nm.id=id->ρ nm=p->ρ' nm=p:=fun hn r=>by rw[L _ hn];exact r
 cases ob with
 |cells l=>
  obtain⟨b,c,ty,r,G,Z,h4,h5⟩:=h;exact⟨b,c,ty,f rfl r,G,by rw[S _ _ _ b rfl r rfl];exact Z,h4,fun k V=>(h5 k V).mono I hρ⟩
 |row t g xs=>
  obtain⟨u,O,r,hp,G,Z⟩:=h;exact⟨u,O,f rfl r,hp,row rfl r G,fun i h k V=>(Z i h k V).mono I hρ⟩
 |rowF t g xs i m gm=>
  obtain⟨u,O,r,hp,G,hs,hi,hm,Z⟩:=h;exact⟨u,O,f rfl r,hp,row rfl r G,hs,hi,hm.mono I hρ,fun i h J k V=>(Z i h J k V).mono I hρ⟩
 |deep t g gm xs=>
  obtain⟨u,O,r,hp,G,hs,hm,Z⟩:=h;refine⟨u,O,f rfl r,hp,row rfl r G,hs,fun j J=>f rfl (hm j J),fun j J=>?_⟩;obtain⟨t1,ys,v,ds,q1,q2,q3,q4,q5,q6⟩:=Z j J;exact⟨t1,ys,v,ds,q1,f rfl q2,q3,q4,row rfl q2 q5,fun i hi k V=>(q6 i hi k V).mono I hρ⟩
 |deepS t g gm xs i=>
  obtain⟨u,O,r,hp,G,hs,hm,Z⟩:=h;refine⟨u,O,f rfl r,hp,row rfl r G,hs,fun j J=>f rfl (hm j J),fun j J=>?_⟩;obtain⟨t1,ys,v,ds,q1,q2,q3,q4,q5,q6⟩:=Z j J;exact⟨t1,ys,v,ds,q1,f rfl q2,q3,q4,row rfl q2 q5,fun i hi k V=>(q6 i hi k V).mono I hρ⟩
 |deepF t g gm xs m gq=>
  obtain⟨u,O,r,hp,G,hs,hm,ho,Z⟩:=h;refine⟨u,O,f rfl r,hp,row rfl r G,hs,fun j J=>f rfl (hm j J),ho.mono I hρ,fun j J=>?_⟩;obtain⟨t1,ys,v,ds,q1,q2,q3,q4,q5,q6⟩:=Z j J;exact⟨t1,ys,v,ds,q1,f rfl q2,q3,q4,row rfl q2 q5,fun i hi k V=>(q6 i hi k V).mono I hρ⟩
 |one t g m gm=>
  obtain⟨u,O,r,hp,G,hs,ho,hc⟩:=h;exact⟨u,O,f rfl r,hp,row rfl r G,hs,ho.mono I hρ,hc⟩
 |gone g gm n=>
  exact⟨f rfl h.1,fun j J=>f rfl (h.2.1 j J),fun j J=>f rfl (h.2.2 j J)⟩
 |opq k d=>
  show E.rep k d w' base (ρ' (.ob id)) (fun j=>ρ' (.mem id j));rw[L (.ob id) rfl,show (fun j=>ρ' (.mem id j))=fun j=>ρ (.mem id j) from funext fun j=>L (.mem id j) rfl];exact E.rep_mono _ _ _ _ _ _ _ h (fun g u b r G=>S _ g u b rfl r G) (fun i g u b r G=>S _ g u b rfl r G)
theorem RR.ext (h:RR E n N w0 ρ s a w) (hb:Below w.heap.size w w'):RR E n N w0 ρ s a w':=by
 have r:∀b,bF N ρ w b->bF N ρ w' b/\w'.heap[b]?=w.heap[b]?:=fun b ⟨L,S,O⟩=>
  ⟨⟨JI L hb.size,S,O⟩,hb.block b L⟩
 refine⟨h.defers,h.size,fun t=>(h.tmps t).mono r (fun _ _ _ f=>.inl f),fun id ob G=>?_,h.dom,h.sep,h.below.trans (hb.mono h.below.size),h.nlt,⟨KU h.kept.1 hb.size,fun b J=>?_⟩,h.free,h.pin,h.nle⟩
 ·exact(h.objs id ob G).mono r (fun _ _ _ f=>.inl f) (fun _ _=>rfl) (fun nm g u b _ f I=>hb.block b ((h.own f).2 b I).2)
 ·rw[hb.block b (JI (w0.lt b J) h.kept.1)];exact h.kept.2 b J
theorem RR.drew (h:RR E n N w0 ρ s a w):RR E n N w0 ρ s a w.drew:=
 h.ext ⟨rfl,rfl,rfl,JX _,fun _ _=>rfl⟩
structure Chg (N:Nat->Prop) (D:Nat->Prop) (base:Nat) (ρ ρ':Own) (w w':World):Prop where
 out:∀nm:Name,¬D nm.id->ρ' nm=ρ nm
 mono:∀(nm:Name) g u,D nm.id->ρ nm=some (g,u)->ρ' nm=some (g,u)\/((∀a,u≠ .pointer a)/\∃g' u',ρ' nm=some (g',u')/\g<g')
 below:Below base w w'
 same:∀b,b<w.heap.size->(∀(nm:Name) g u,D nm.id->ρ nm=some (g,u)->blk u≠some b)->w'.heap[b]?=w.heap[b]?
 new:∀(nm:Name) g u b,D nm.id->ρ' nm=some (g,u)->blk u=some b->(∃(nm':Name) (g':Nat) (u':Value),D nm'.id/\ρ nm'=some (g',u')/\blk u'=some b)\/w.heap.size<=b
 sep:∀(nm nm':Name) g g' u u' b,D nm.id->D nm'.id->ρ' nm=some (g,u)->ρ' nm'=some (g',u')->nm≠nm'->blk u=some b->blk u'≠some b
theorem Chg.aSK {D:Nat->Prop} {base:Nat} (c:Chg N D base ρ ρ' w w') (nm:Name) (g:Nat) (u:Value) (f:ρ nm=some (g,u)):ρ' nm=some (g,u)\/((∀a,u≠ .pointer a)/\∃G I,ρ' nm=some (G,I)/\g<G):=by
 by_cases r:D nm.id
 ·exact c.mono nm g u r f
 ·exact .inl (by rw[c.out nm r];exact f)
theorem Chg.aQz {D:Nat->Prop} {base:Nat} (c:Chg N D base ρ ρ' w w') (b:Nat) (hb:bF N ρ w b):bF N ρ' w' b/\w'.heap[b]?=w.heap[b]?:=by
 obtain⟨O,S,I⟩:=hb;refine⟨⟨JI O c.below.size,S,fun nm g u f r=>?_⟩,c.same b O (fun nm g u _ f=>I _ _ _ f)⟩
 by_cases L:D nm.id
 ·rcases c.new nm g u b L f r with ⟨V,g',u',_,J,G⟩|Z
  ·exact I _ _ _ J G
  ·omega
 ·rw[c.out nm L] at f;exact I _ _ _ f r
theorem Chg.rel {D:Nat->Prop} {base:Nat} (c:Chg N D base ρ ρ' w w') {x:aC U} {v:Value} (hx:Rel E w ρ (bF N ρ w) x v):Rel E w' ρ' (bF N ρ' w') x v:=
 hx.mono c.aQz c.aSK
theorem RR.change (h:RR E n N w0 ρ s a w) {s':ASt U} {D:Nat->Prop} (c:Chg N D w0.heap.size ρ ρ' w w') (ht:s'.tmps=s.tmps) (hD:∀id,¬D id->s'.objs id=s.objs id)
  (hdom:∀(nm:Name) g u,D nm.id->ρ' nm=some (g,u)->bDa s' nm)
  (hob:∀id ob,D id->s'.objs id=some ob->gE E w' ρ' (bF N ρ' w') w0.heap.size id ob) (hex:∀id ob,D id->s.objs id=some ob->∃ob',s'.objs id=some ob'):RR E n N w0 ρ' s' a w':=by
 have hsz:w0.we.heap.size<=w.heap.size:=h.kept.1;refine⟨h.defers,h.size,fun t=>by rw[ht];exact c.rel (h.tmps t),fun id ob ho=>?_,fun nm g u J=>?_,?_,h.below.trans c.below,h.nlt,⟨KU hsz c.below.size,fun b V=>?_⟩,fun nm g u b J G V=>?_,fun id u hp=>?_,h.nle⟩
 ·by_cases f:D id
  ·exact hob id ob f ho
  ·rw[hD id f] at ho;refine(h.objs id ob ho).mono c.aQz c.aSK (fun nm hn=>c.out nm (by rw[hn];exact f)) (fun nm g u b hn J G=>?_);exact c.same b ((h.own J).2 b G).2 (fun nm2 g2 u2 hd2 mR dE=>h.sep _ _ _ _ _ _ b J mR (fun e=>by subst e;rw[hn] at hd2;exact f hd2) G dE)
 ·by_cases f:D nm.id
  ·exact hdom nm g u f J
  ·rw[c.out nm f] at J;obtain⟨ob,h1,h2⟩:=h.dom _ _ _ J;exact⟨ob,by rw[hD _ f];exact h1,h2⟩
 ·intro i j gi gj ui uj b I r hij S O
  by_cases hi:D i.id
  ·by_cases hj:D j.id
   ·exact c.sep _ _ _ _ _ _ b hi hj I r hij S O
   ·rw[c.out j hj] at r;rcases c.new i gi ui b hi I S with ⟨i',g',u',hi',L,Z⟩|hge
    ·exact h.sep _ _ _ _ _ _ b L r (fun e=>by subst e;exact hj hi') Z O
    ·have:=((h.own r).2 b O).2;omega
  ·rw[c.out i hi] at I
   by_cases hj:D j.id
   ·rcases c.new j gj uj b hj r O with ⟨j',g',u',hj',L,Z⟩|hge
    ·exact h.sep _ _ _ _ _ _ b I L (fun e=>by subst e;exact hi hj') S Z
    ·have:=((h.own I).2 b S).2;omega
   ·rw[c.out j hj] at r;exact h.sep _ _ _ _ _ _ b I r hij S O
 ·rw[c.same b (JI (w0.lt b V) hsz) (fun nm g u _ J G=>h.free _ _ _ _ J G V)];exact h.kept.2 b V
 ·by_cases f:D nm.id
  ·rcases c.new nm g u b f J G with ⟨nm',g',u',_,L,hbl'⟩|hge
   ·exact h.free _ _ _ _ L hbl' V
   ·have:=w0.lt b V;omega
  ·rw[c.out nm f] at J;exact h.free _ _ _ _ J G V
 ·obtain⟨⟨ob,ho⟩,hg⟩:=h.pin id u hp
  by_cases f:D id
  ·refine⟨hex id ob f ho,?_⟩;rcases c.mono (.ob id) u.1 u.2 f hg with h1|⟨h1,_⟩
   ·exact h1
   ·obtain⟨a,ha⟩:=w0.pinp id u hp;exact absurd ha (h1 a)
  ·exact⟨⟨ob,by rw[hD id f];exact ho⟩,by rw[c.out (.ob id) f];exact hg⟩
def dU (ρ:Own) (nm:Name) (g:Nat) (u:Value):Own:=fun i=>if i=nm then some (g,u) else ρ i
theorem bBt (h:RR E n N w0 ρ s a w) (id O:Nat) (L:Value) (hs:∀ob,s.objs id=some ob->ob.simple=true)
  (hold:∀g u,ρ id=some (g,u)->(g=O/\u=L)\/((∀a,u≠ .pointer a)/\g<O))
  (hw:Below w0.heap.size w w') (J:∀b,b<w.heap.size->(∀g u,ρ id=some (g,u)->blk u≠some b)->w'.heap[b]?=w.heap[b]?)
  (V:∀b,blk L=some b->(∃g u,ρ id=some (g,u)/\blk u=some b)\/(w.heap.size<=b)):Chg N (fun i=>i=id) w0.heap.size ρ (dU ρ id O L) w w':=by
 have hno:=h.aEI hs;have S:∀(nm:Name) g u,nm.id=id->ρ nm=some (g,u)->nm=.ob id:=fun nm g u r f=>by
  cases nm with
  |ob i=>rw[show i=id from r]
  |mem i j=>
   obtain rfl:i=id:=r;rw[hno j] at f;cases f
 have G:∀(nm:Name) g u,nm.id=id->dU ρ id O L nm=some (g,u)->nm=.ob id/\g=O/\u=L:=fun nm g u r f=>by
  unfold dU at f
  by_cases he:nm=.ob id
  ·rw[JV he] at f;cases f;exact⟨he,rfl,rfl⟩
  ·rw[JK he] at f;exact absurd (S nm g u r f) he
 refine⟨fun nm r=>?_,fun nm g u r f=>?_,hw,fun b hb I=>J b hb (fun g u f=>I (.ob id) g u rfl f),fun nm g u b r f hbl=>?_,fun nm nm' g g1 u Z b r hn' f hr' I _ _=>?_⟩
 ·unfold dU;rw[JK (fun e=>r (by rw[e];rfl))]
 ·obtain rfl:=S nm g u r f;rcases hold g u f with ⟨rfl,rfl⟩|⟨hp,hg⟩
  ·exact .inl (by simp[dU])
  ·exact .inr ⟨hp,O,L,by simp[dU],hg⟩
 ·obtain⟨_,rfl,rfl⟩:=G nm g u r f;rcases V b hbl with ⟨g1,Z,h1,h2⟩|h1
  ·exact .inl ⟨.ob id,g1,Z,rfl,h1,h2⟩
  ·exact .inr h1
 ·exact absurd ((G nm g u r f).1.trans (G nm' g1 Z hn' hr').1.symm) I
theorem RR.upd (h:RR E n N w0 ρ s a w) (id r:Nat) (f:Value) (ob:bK U) (O:∀ob,s.objs id=some ob->ob.simple=true)
  (hold:∀g u,ρ id=some (g,u)->(g=r/\u=f)\/((∀a,u≠ .pointer a)/\g<r))
  (Z:Below w0.heap.size w w') (G:∀b,b<w.heap.size->(∀g u,ρ id=some (g,u)->blk u≠some b)->w'.heap[b]?=w.heap[b]?)
  (I:∀b,blk f=some b->(∃g u,ρ id=some (g,u)/\blk u=some b)\/(w.heap.size<=b))
  (J:gE E w' (dU ρ id r f) (bF N (dU ρ id r f) w') w0.heap.size id ob):RR E n N w0 (dU ρ id r f) (s.obj id ob) a w':=by
 have L:=h.aEI O;refine h.change (bBt h id r f O hold Z G I) rfl (fun i hi=>?_) (fun nm g u V S=>?_) (fun i o hi ho=>?_) (fun i o hi _=>⟨ob,by rw[hi];simp[ASt.obj]⟩)
 ·have:Nat.beq i id=false:=iX hi;simp[ASt.obj,this]
 ·refine⟨ob,by rw[V];simp[ASt.obj],fun _=>?_⟩;cases nm with
  |ob i=>exact⟨i,rfl⟩
  |mem i j=>
   obtain rfl:i=id:=V;have:dU ρ i r f (.mem i j)=ρ (.mem i j):=by unfold dU;rw[JK (fun e=>by cases e)]
   rw[this,L j] at S;cases S
 ·subst hi;have:(s.obj i ob).objs i=some ob:=by simp[ASt.obj]
  rw[this] at ho;obtain rfl:=QW ho;exact J
theorem RR.xJ (h:RR E n N w0 ρ s a w) (id G:Nat) (r:Value) (L:∀ob,s.objs id=some ob->ob.simple=true)
  (hold:∀g u,ρ id=some (g,u)->(g=G/\u=r)\/((∀a,u≠ .pointer a)/\g<G))
  (J:Below w0.heap.size w w') (f:∀b,b<w.heap.size->(∀g u,ρ id=some (g,u)->blk u≠some b)->w'.heap[b]?=w.heap[b]?)
  (I:∀b,blk r=some b->(∃g u,ρ id=some (g,u)/\blk u=some b)\/(w.heap.size<=b))
  {x:aC U} {v:Value} (hx:Rel E w ρ (bF N ρ w) x v):Rel E w' (dU ρ id G r) (bF N (dU ρ id G r) w') x v:=
 (bBt h id G r L hold J f I).rel hx
end
end Go.Vm
namespace Go.Vm
open Go.RowKit
set_option linter.unusedVariables false
section
variable {U:eW} {E:Enc U} {n:Nat} {N:Nat->Prop} {w0:Fr} {w w':World} {ρ ρ':Own} {s:ASt U} {a:Act} {P:Program}
theorem Addr.rX (b o k:Nat):(⟨b,o,none⟩:Addr).add k=⟨b,o+k,none⟩:=by
 unfold Addr.add;split
 ·simp_all
 ·rfl
theorem aCY (h:RR E n N w0 ρ s a w) {look:Nat->Option (bK U)} (f:∀id ob,look id=some ob->s.objs id=some ob) {id i g:Nat} {t1:U.τ} {ys:List (U.T t1)} (hm:uN E look id i g=some ⟨t1,ys⟩):
  (∀I u,ρ (.mem id i)=some (I,u)->I=g/\∃ds,(∀a,u≠ .pointer a)/\w.ownsRow w0.heap.size (U.ety t1) (U.size t1) u ys.length ds/\
    ∀i (h:i<ys.length) k (hk:k<(E.enc t1 ys[i]).length),Rel E w ρ (bF N ρ w) (E.enc t1 ys[i])[k] (ds.getD (i*U.size t1+k) undef)):=by
 intro I u G;unfold uN at hm;split at hm
 ·rename_i t g0 gm xs hl;obtain⟨u1,cs,h1,hp,h2,hs,L,h3⟩:=h.objs _ _ (f _ _ hl);have hi:i<xs.length:=by
   refine Classical.byContradiction fun hn=>?_
   rw[L i XY] at G;cases G
  have J:xs.getD i (E.dflt t)=xs[i]:=by simp[hi]
  rw[J] at hm;obtain⟨t2,zs,v,ds,Z,r,q3,V,S,O⟩:=h3 i hi;rw[Z] at hm;simp only at hm;cases hb:Nat.beq g gm with
  |false=>rw[hb] at hm;cases hm
  |true=>
   rw[hb] at hm;simp only[QX,QQ,Sigma.mk.injEq] at hm;obtain⟨rfl,hy⟩:=hm;obtain rfl:=eq_of_heq hy;obtain rfl:=QZ hb;rw[G] at r;simp only[QQ,QK] at r;obtain⟨rfl,rfl⟩:=r;exact⟨rfl,ds,V,S,O⟩
 ·cases hm
def At (E:Enc U) (w:World) (ρ:Own) (st:Nat->Prop) (l:List (aC U)) (b o:Nat) (f:Nat->Value):Prop:=
 ∀k (h:k<l.length),w.cell? ⟨b,o+k,none⟩=some (f k)/\Rel E w ρ st l[k] (f k)
theorem bCJ (h:RR E n N w0 ρ s a w) {look:Nat->Option (bK U)} (J:∀id ob,look id=some ob->s.objs id=some ob)
  {p:aC U} {v:Value} (hp:Rel E w ρ (bF N ρ w) p v) {l:List (aC U)} {off:Nat} (hb:behind E look p=some (l,off)):
  ∃b o f,v=.pointer (some ⟨b,o+off,none⟩)/\At E w ρ (bF N ρ w) l b o f:=by
 unfold behind at hb;split at hb
 ·split at hb
  ·rename_i id off' l' hl';simp only[QQ,QK] at hb;obtain⟨rfl,rfl⟩:=hb;obtain⟨b,c,ty,h1,Z,h3,h4,h5⟩:=h.objs _ _ (J _ _ hl');cases hp with
   |ptr _ _ b' hb'=>
    rw[h1] at hb';simp only[QQ,QK,true_and,Value.pointer.injEq,KR,and_true] at hb';subst hb';refine⟨b,0,fun k=>c.getD k undef,XU,fun k O=>⟨?_,h5 k O⟩⟩;rw[JW,cell_of_row w b k c ty (0,0) h3];have:k<c.size:=XY;simp[this]
  ·cases hb
 ·split at hb
  ·rename_i id g i off' sz _ t g' xs hl';have r:(Nat.beq g g'&&Nat.beq sz (U.size t))=true:=by
    cases hc:(Nat.beq g g'&&Nat.beq sz (U.size t))<;>rw[hc] at hb<;>simp_all
   rw[r] at hb;simp only[QX,QQ,QK] at hb;obtain⟨rfl,rfl⟩:=hb;simp only[QU] at r;obtain rfl:=QZ r.1;obtain rfl:=QZ r.2;obtain⟨u,cs,h1,hpp,Z,h3⟩:=h.objs _ _ (J _ _ hl');cases hp with
   |eptr _ _ _ _ _ b n' cap V hi=>
    rw[h1] at V;simp only[QQ,QK,true_and] at V;subst V;rcases Z.2 with ⟨h0,_⟩|⟨gb,cap',cur,S,hbase,hgb,hn,hcm,hcs,I⟩
    ·cases h0
    ·simp only[KW,QQ,KR,and_true] at S;obtain⟨rfl,rfl,rfl⟩:=S;have hxi:xs.getD i (E.dflt t)=xs[i]:=by simp[hi]
     rw[hxi];refine⟨b,i*U.size t,fun k=>cs.getD (i*U.size t+k) undef,rfl,fun k O=>?_⟩;refine⟨?_,h3 i hi k O⟩;have hk':k<U.size t:=by rw[E.enc_len] at O;exact O
     have G:i*U.size t+k<cs.length:=by
      rw[Z.1]
      calc i*U.size t+k<i*U.size t+U.size t:=XY
       _=(i+1)*U.size t:=by rw[Nat.add_mul,Nat.one_mul]
       _<=xs.length*U.size t:=JY _ hi
     rw[cell_of_row w b _ cur _ (0,0) hgb];have h6:cs[i*U.size t+k]?=cur[i*U.size t+k]?:=by
      rw[<- I,JH,JV (by rw[Z.1] at G;exact G)];simp
     rw[<- h6];simp[G]
   |eptrOld _ _ _ _ _ g' u' v V hg=>
    rw[h1] at V;simp only[QQ,QK] at V;omega
  ·cases hb
 ·simp only[QQ,QK] at hb;obtain⟨rfl,rfl⟩:=hb;cases hp with
  |ref _ _ b o f hst hc hl=>exact⟨b,o,f,rfl,fun k O=>⟨hc k O,hl k O⟩⟩
 ·rename_i id i g j off' sz;split at hb
  ·rename_i L ys hm;cases hsz:Nat.beq sz (U.size L) with
   |false=>rw[hsz] at hb;cases hb
   |true=>
    rw[hsz] at hb;simp only[QX,QQ,QK] at hb;obtain⟨rfl,rfl⟩:=hb;obtain rfl:=QZ hsz;have hmr:=aCY h J hm;cases hp with
    |meptr _ _ _ _ _ _ b n' cap V hi=>
     obtain⟨_,ds,q1,Z,h3⟩:=hmr _ _ V;rcases Z.2 with ⟨h0,_⟩|⟨gb,cap',cur,S,hbase,hgb,hn,hcm,hcs,I⟩
     ·cases h0
     ·simp only[KW,QQ,KR,and_true] at S;obtain⟨rfl,rfl,rfl⟩:=S;have hxi:ys.getD j (E.dflt L)=ys[j]:=by simp[hi]
      rw[hxi];refine⟨b,j*U.size L,fun k=>ds.getD (j*U.size L+k) undef,rfl,fun k O=>?_⟩;refine⟨?_,h3 j hi k O⟩;have hk':k<U.size L:=by rw[E.enc_len] at O;exact O
      have G:j*U.size L+k<ds.length:=by
       rw[Z.1]
       calc j*U.size L+k<j*U.size L+U.size L:=XY
        _=(j+1)*U.size L:=by rw[Nat.add_mul,Nat.one_mul]
        _<=ys.length*U.size L:=JY _ hi
      rw[cell_of_row w b _ cur _ (0,0) hgb];have h6:ds[j*U.size L+k]?=cur[j*U.size L+k]?:=by
       rw[<- I,JH,JV (by rw[Z.1] at G;exact G)];simp
      rw[<- h6];simp[G]
    |meptrOld _ _ _ _ _ _ g' u' v V hg=>
     have:=(hmr _ _ V).1;omega
  ·cases hb
 ·cases hb
theorem pR {t:TypeId} {m:Nat} (h:jZ P t=some m):∃i,P.info? t=some i/\i.size=m:=by
 unfold jZ at h;split at h
 ·rename_i i hi;exact⟨i,hi,QW h⟩
 ·cases h
theorem aJM {t:TypeId} {d:TypeDesc} (h:P.underlying t=some d):(isAgg t).run P w=.ok (uT P t) w:=by
 unfold isAgg uT;rw[h];simp only[QM,QR h,QP];cases d<;>rfl
theorem aVy {t:TypeId} {l:List (aC U)} {off:Nat} {x:aC U} {st:Nat->Prop} (hx:partOf P t l off=some x) {b o:Nat} {f:Nat->Value}
  (r:At E w ρ st l b o f):∃u,(loadVar t ⟨b,o+off,none⟩).run P w=.ok u w/\Rel E w ρ st x u:=by
 unfold partOf at hx;split at hx
 ·rename_i d m V hm;obtain⟨i,hi,rfl⟩:=pR hm;have G:=aJM (w:=w) V;split at hx
  ·rename_i hb;have J:Nat.ble (off+i.size) l.length=true:=by
    cases J:Nat.ble (off+i.size) l.length<;>rw[J] at hx<;>simp_all
   rw[J] at hx;simp only[QX,QQ] at hx;subst hx;have hle:=QO J;refine⟨.agg ((List.range i.size).map fun k=>f (off+k)).toArray,?_,?_⟩
   ·have:=run_loadCells (P:=P) w ⟨b,o+off,none⟩ i.size (fun k=>f (off+k)) (fun k S=>by
     rw[Addr.rX,JP];exact(r (off+k) XY).1)
    simp only[loadVar,QM,G,hb,QP,if_true,sizeOf,typeInfo,run_program,hi,JU,this]
   ·refine .agg _ _ (by simp;omega) (fun k S=>?_);have O:k<i.size:=by simp at S;omega
    have:=(r (off+k) XY).2;have e:((List.range i.size).map fun k=>f (off+k)).toArray.getD k undef=f (off+k):=by simp[O]
    rw[e];have Z:((l.drop off).take i.size)[k]=l[off+k]'XY:=XU;rw[Z];exact this
  ·rename_i hb;have I:off<l.length:=(QA.1 hx).1;obtain L:=(QA.1 hx).2;rw[<- L];refine⟨f off,?_,(r off I).2⟩;simp only[loadVar,QM,G,hb,QP,Bool.false_eq_true,if_false];rw[run_load,(r off I).1]
 ·cases hx
theorem aCV {t:TypeId} {l:List (aC U)} {off:Nat} {x:aC U} {st:Nat->Prop} (hx:partOf P t l off=some x) {f:Array Value} (hn:f.size=l.length)
  (O:∀k (h:k<l.length),Rel E w ρ st l[k] (f.getD k undef)):∃u,(part t f off).run P w=.ok u w/\Rel E w ρ st x u:=by
 unfold partOf at hx;split at hx
 ·rename_i d m V hm;obtain⟨i,hi,rfl⟩:=pR hm;have r:=aJM (w:=w) V;split at hx
  ·rename_i hb;have G:Nat.ble (off+i.size) l.length=true:=by
    cases G:Nat.ble (off+i.size) l.length<;>rw[G] at hx<;>simp_all
   rw[G] at hx;simp only[QX,QQ] at hx;subst hx;have hle:=QO G;refine⟨.agg (f.extract off (off+i.size)),?_,?_⟩
   ·simp only[part,QM,r,hb,QP,if_true,sizeOf,typeInfo,run_program,hi,JU]
   ·refine .agg _ _ (by simp;omega) (fun k S=>?_);have hk':k<i.size:=by simp at S;omega
    have:=O (off+k) XY;have I:k<min (off+i.size) f.size-off:=XY;have e:(f.extract off (off+i.size)).getD k undef=f.getD (off+k) undef:=by
     have Z:off+k<f.size:=XY;simp[I,Z]
    rw[e];have e2:((l.drop off).take i.size)[k]=l[off+k]'XY:=XU;rw[e2];exact this
  ·rename_i hb;have L:off<l.length:=(QA.1 hx).1;obtain J:=(QA.1 hx).2;rw[<- J];refine⟨f.getD off undef,?_,O off L⟩;have I:off<f.size:=XY;simp only[part,QM,r,hb,QP,Bool.false_eq_true,if_false];simp[I]
 ·cases hx
theorem nF (c:Array Value) (k:Nat) (d:Value):c.toList.getD k d=c.getD k d:=XU
theorem aDd (cs:List (aC U)):∀(l:List (aC U)) (off:Nat),(setCells l off cs).length=l.length:=by
 induction cs with
 |nil=>intro l off;rfl
 |cons c cs f=>intro l off;simp[setCells,f]
theorem aMQ {st:Nat->Prop} (cs:List (aC U)):∀(f:List Value) (l:List (aC U)) (off:Nat) (c:List Value),cs.length=f.length->off+cs.length<=l.length->c.length=l.length->
  (∀k (h:k<cs.length),Rel E w ρ st cs[k] (f.getD k undef))->(∀k (h:k<l.length),Rel E w ρ st l[k] (c.getD k undef))->
  ∀k (h:k<(setCells l off cs).length),Rel E w ρ st (setCells l off cs)[k] ((c.take off++f++c.drop (off+f.length)).getD k undef):=by
 induction cs with
 |nil=>
  intro f l off c r I hcl G L k J;have:f=[]:=List.eq_nil_of_length_eq_zero (by simpa using r.symm);subst this;simp only[setCells] at J ⊢;simpa using L k J
 |cons x cs O=>
  intro f l off c r I hcl G L k J;cases f with
  |nil=>simp at r
  |cons v f=>
   simp only[QT] at r I;have:=O f (l.set off x) (off+1) (c.set off v) XY (by simp;omega) (by simp[hcl]) (fun k h=>G (k+1) (by simp;omega)) (fun k h=>by
    by_cases u:off=k
    ·subst u;have Z:=G 0 XU;have:off<c.length:=XY;simpa[this] using Z
    ·have:=L k (by simpa using h);rw[List.getElem_set_ne u];simpa[List.getElem?_set_ne u] using this) k (by simpa[setCells] using J)
   simp only[setCells];have e:(c.set off v).take (off+1)++f++(c.set off v).drop (off+1+f.length)=c.take off++v::f++c.drop (off+(v::f).length):=by
    have V:(c.set off v).take (off+1)=c.take off++[v]:=by
     rw[List.take_succ_eq_append_getElem (by simp;omega)];simp[List.take_set_of_le]
    have S:(c.set off v).drop (off+1+f.length)=c.drop (off+(v::f).length):=by
     rw[List.drop_set_of_lt XY];simp only[QT];congr 1;omega
    rw[V,S];simp
   rw[e] at this;exact this
end
end Go.Vm
namespace Go.Vm
open Go.RowKit
set_option linter.unusedVariables false
section
variable {U:eW} {E:Enc U} {n:Nat} {N:Nat->Prop} {w0:Fr} {w w':World} {ρ ρ':Own} {s:ASt U} {a:Act} {P:Program}
theorem aM0 {st:Nat->Prop} {t:U.τ} {l:List (aC U)} {x:U.T t} (J:E.dec t l=some x) {f:Nat->Value} (h:∀k (r:k<l.length),Rel E w ρ st l[k] (f k)):
  ∀k (r:k<(E.enc t x).length),Rel E w ρ st (E.enc t x)[k] (f k):=by
 intro k r;have S:=E.dec_len t l x J;have I:k<U.size t:=by rw[E.enc_len] at r;exact r
 have G:=h k XY;have e1:l.getD k .any=l[k]'XY:=by
  have:k<l.length:=XY;simp[this]
 have O:(E.enc t x).getD k .any=(E.enc t x)[k]:=by simp[r]
 rcases E.dec_enc t l x J k I with u|⟨u,t',L⟩
 ·rw[e1,O] at u;rw[<- u];exact G
 ·rw[e1] at u;rw[O] at L;rw[L];rw[u] at G;generalize f k=v at G;cases G;exact .lJ t'
theorem bF8 (c f:List Value) (p off r k:Nat) (h:p+r<=c.length) (ho:off+f.length<=r) (J:k<r):
  (((c.drop p).take r).take off++f++((c.drop p).take r).drop (off+f.length))[k]?=(c.take (p+off)++f++c.drop (p+off+f.length))[p+k]?:=by
 have I:(((c.drop p).take r).take off).length=off:=by simp;omega
 have G:(c.take (p+off)).length=p+off:=by simp;omega
 simp only[KP,List.getElem?_append,I,G]
 by_cases u:k<off
 ·rw[JV u,JV (show p+k<p+off by omega)];simp only[JH,KT];rw[JV u,JV J,JV (show p+k<p+off by omega)]
 ·rw[JK u,JK (show ¬p+k<p+off by omega)];have e:p+k-(p+off)=k-off:=XY;rw[e]
  by_cases h6:k-off<f.length
  ·rw[JV h6,JV h6]
  ·rw[JK h6,JK h6];simp only[JH,KT];rw[JV XY];congr 1;omega
theorem aSO (h:RR E n N w0 ρ s a w) {look:Nat->Option (bK U)} (r:∀id ob,look id=some ob->s.objs id=some ob) {id i g j off L:Nat} (f:storable look (.meptr id i g j off L)=true):
  ∀I u,ρ (.mem id i)=some (I,u)->I=g:=fun I u G=>by
 unfold storable at f;simp only at f;split at f
 ·rename_i t Z V xs O;obtain rfl:=QZ f;obtain⟨_,_,_,_,_,_,J,S⟩:=h.objs _ _ (r _ _ O)
  by_cases hi:i<xs.length
  ·obtain⟨_,_,_,_,_,q,_⟩:=S i hi;rw[G] at q;cases q;rfl
  ·rw[J i XY] at G;cases G
 ·cases f
theorem j8 (h:RR E n N w0 ρ s a w) {look:Nat->Option (bK U)} (r:∀id ob,look id=some ob->s.objs id=some ob)
  {x:aC U} {v:Value} (hx:Rel E w ρ (bF N ρ w) x v) (G:storable look x=true):v.oneCell'=true:=by
 unfold storable at G;have O:∀id t g xs,look id=some (.row t g xs)->∃u,ρ (.ob id)=some (g,u):=fun id t g xs I=>by
  obtain⟨u,_,S,_⟩:=h.objs _ _ (r _ _ I);exact⟨u,S⟩
 have L:∀id i t g0 V xs J u,look id=some (.deep t g0 V xs)->ρ (.mem id i)=some (J,u)->J=V:=fun id i t g0 V xs J u I f=>by
  obtain⟨_,_,_,_,_,_,hno,h3⟩:=h.objs _ _ (r _ _ I)
  by_cases hi:i<xs.length
  ·obtain⟨_,_,_,_,_,q,_⟩:=h3 i hi;rw[f] at q;cases q;rfl
  ·rw[hno i XY] at f;cases f
 split at G
 ·split at G
  ·rename_i id g _ t J xs I;obtain rfl:=QZ G;exact hx.sS rfl (fun _ _ _ f=>(h.own f).1) (fun Z g1 he=>by cases he;exact O _ _ _ _ I) (fun _ _ _ _ _ he=>by cases he) (fun _ _ _ he=>by cases he) (fun _ _ _ _ _ _ he=>by cases he)
  ·rename_i id g _ t J V xs I;obtain rfl:=QZ G;obtain⟨u,_,S,_⟩:=h.objs _ _ (r _ _ I);exact hx.sS rfl (fun _ _ _ f=>(h.own f).1) (fun Z g1 he=>by cases he;exact⟨u,S⟩) (fun _ _ _ _ _ he=>by cases he) (fun _ _ _ he=>by cases he) (fun _ _ _ _ _ _ he=>by cases he)
  ·rename_i id g _ t J V xs m gq I;obtain rfl:=QZ G;obtain⟨u,_,S,_⟩:=h.objs _ _ (r _ _ I);exact hx.sS rfl (fun _ _ _ f=>(h.own f).1) (fun Z g1 he=>by cases he;exact⟨u,S⟩) (fun _ _ _ _ _ he=>by cases he) (fun _ _ _ he=>by cases he) (fun _ _ _ _ _ _ he=>by cases he)
  ·cases G
 ·split at G
  ·rename_i id g _ _ _ _ t J xs I;obtain rfl:=QZ G;exact hx.sS rfl (fun _ _ _ f=>(h.own f).1) (fun Z g1 he=>by cases he) (fun _ _ _ _ _ he=>by cases he;exact O _ _ _ _ I) (fun _ _ _ he=>by cases he) (fun _ _ _ _ _ _ he=>by cases he)
  ·cases G
 ·split at G
  ·rename_i id i g _ t g0 V xs I;obtain rfl:=QZ G;cases hx with
   |msl _ _ _ u f=>exact(h.own f).1
   |mslOld _ _ _ J u v f hg=>
    have:=L _ _ _ _ _ _ _ _ I f;omega
  ·cases G
 ·split at G
  ·rename_i id i g _ _ _ _ t g0 V xs I;obtain rfl:=QZ G;cases hx with
   |meptr _ _ _ _ _ _ _ _ _ _ _=>rfl
   |meptrOld _ _ _ _ _ _ J u v f hg=>
    have:=L _ _ _ _ _ _ _ _ I f;omega
  ·cases G
 ·rename_i S h2 h3 h4;exact hx.sS G (fun _ _ _ f=>(h.own f).1) (fun id g he=>absurd he (S id g)) (fun id g i off sz he=>absurd he (h2 id g i off sz)) (fun id i g he=>absurd he (h3 id i g)) (fun id i g j off sz he=>absurd he (h4 id i g j off sz))
theorem bBm {α:Type} {b:Bool} {x:Option α} {y:α} (h:cond b x none=some y):b=true/\x=some y:=by
 cases b
 ·cases h
 ·exact⟨rfl,h⟩
theorem cells_one {v:Value} (h:v.oneCell'=true):v.cells=#[v]:=by
 cases v<;>first|rfl|cases h
theorem bBw (h:RR E n N w0 ρ s a w) {look:Nat->Option (bK U)} (f:∀id ob,look id=some ob->s.objs id=some ob)
  {x:aC U} {v:Value} (hx:Rel E w ρ (bF N ρ w) x v) (V:x.cellsOf.all (storable look)=true):
  v.cells.size=x.cellsOf.length/\(∀k (I:k<x.cellsOf.length),Rel E w ρ (bF N ρ w) x.cellsOf[k] (v.cells.toList.getD k undef))/\∀u∈v.cells.toList,u.oneCell'=true:=by
 by_cases L:∃l,x=.agg l
 ·obtain⟨l,rfl⟩:=L;cases hx with
  |agg _ O Z hl=>
   refine⟨Z,fun k I=>?_,fun u S=>?_⟩
   ·show Rel E w ρ (bF N ρ w) l[k] (O.toList.getD k undef);rw[nF];exact hl k I
   ·obtain⟨k,I,rfl⟩:=List.mem_iff_getElem.1 S;have J:k<l.length:=by simpa[Value.cells,Z] using I
    have hr:=hl k J;have G:storable look l[k]=true:=by
     simp only[aC.cellsOf,JG] at V;exact V _ (QN J)
    have e:O.getD k undef=(Value.agg O).cells.toList[k]:=by
     have:k<O.size:=XY;simp[Value.cells,this]
    rw[<- e];exact j8 h f hr G
 ·have hc:x.cellsOf=[x]:=by
   cases x<;>first|rfl|exact absurd ⟨_,rfl⟩ L
  rw[hc] at V ⊢;have G:storable look x=true:=by simpa using V
  have r:=j8 h f hx G;rw[cells_one r];refine⟨rfl,fun k I=>?_,fun u S=>?_⟩
  ·have:k=0:=by simpa using I
   subst this;simpa using hx
  ·simp only[JB] at S;subst S;exact r
theorem aF9 {base g:Nat} (r:base<=g) (w:World) (cs:Array Value):Below base w (w.setRow g cs):=
 ⟨rfl,rfl,rfl,XU,fun k f=>setRow_other w g k cs XY⟩
theorem aRR {st:Nat->Prop} {t':U.τ} {xs:List (U.T t')} {cs:List Value} {base b n' cap i off:Nat} (h2:w.ownsRow base (U.ety t') (U.size t') (.slice (some ⟨b,0,none⟩) n' cap) xs.length cs)
  (h3:∀i (h:i<xs.length) k (G:k<(E.enc t' xs[i]).length),Rel E w ρ st (E.enc t' xs[i])[k] (cs.getD (i*U.size t'+k) undef)) (hi:i<xs.length) {y:U.T t'} {L:List (aC U)} {u:Value}
  (hle:off+L.length<=U.size t') (hy:E.dec t' (setCells (E.enc t' xs[i]) off L)=some y) {t:TypeId} {m:Nat} (hm:jZ P t=some m) (hlen:L.length=m) (hsz:u.cells.size=L.length)
  (hrel:∀k (G:k<L.length),Rel E w ρ st L[k] (u.cells.toList.getD k undef)) (hone:∀q∈u.cells.toList,q.oneCell'=true):
  n'=xs.length/\base<=b/\∃S cs',(Instr.storeAt t (.pointer (some ⟨b,i*U.size t'+off,none⟩)) u).run P w=.ok () (w.setRow b S)/\
   (w.setRow b S).ownsRow base (U.ety t') (U.size t') (.slice (some ⟨b,0,none⟩) n' cap) (xs.set i y).length cs'/\
   ∀j (h:j<(xs.set i y).length) k (G:k<(E.enc t' (xs.set i y)[j]).length),Rel E w ρ st (E.enc t' (xs.set i y)[j])[k] (cs'.getD (j*U.size t'+k) undef):=by
 obtain⟨ti,hti,htis⟩:=pR hm;have hvl:u.cells.toList.length=L.length:=by simpa using hsz
 rcases h2.2 with ⟨h0,_⟩|⟨gb,cap',cur,heq,J,hgb,hn,hcm,hcs,htake⟩
 ·cases h0
 simp only[KW,QQ,KR,and_true] at heq;obtain⟨rfl,rfl,rfl⟩:=heq;have hil:(i+1)*U.size t'<=xs.length*U.size t':=JY _ hi;have hnl:xs.length*U.size t'<=cap*U.size t':=JY _ hn;have hi1:(i+1)*U.size t'=i*U.size t'+U.size t':=by rw[Nat.add_mul,Nat.one_mul]
 have V:=run_storeCells_at P b (i*U.size t'+off) (U.ety t') u.cells.toList 0 cur w hgb (by simp only[JL];omega) hone;simp only[JL] at V;refine⟨rfl,J,(cur.toList.take (i*U.size t'+off)++u.cells.toList++cur.toList.drop (i*U.size t'+off+u.cells.toList.length)).toArray,(cur.toList.take (i*U.size t'+off)++u.cells.toList++cur.toList.drop (i*U.size t'+off+u.cells.toList.length)).take (xs.length*U.size t'),?_,?_,?_⟩
 ·simp only[Instr.storeAt,Instr.sureAddr,storeVar,sizeOf,typeInfo,QM,JU,QP,run_program,hti];have:¬(u.cells.size≠ti.size):=by simp only[ne_eq,Decidable.not_not];omega
  simp only[JK this];exact V
 ·have r:(xs.set i y).length=xs.length:=XU;refine⟨?_,.inr ⟨b,cap,_,by rw[r],J,setRow_heap w b cur _ _ (0,0) hgb,by rw[r];exact hn,hcm,?_,by rw[r]⟩⟩
  ·rw[r];simp only[KQ,QH,KZ,Array.length_toList];omega
  ·simp only[KB,QH,KQ,KZ,Array.length_toList];omega
 ·intro j hj k G;have r:(xs.set i y).length=xs.length:=XU;rw[r] at hj;have hk':k<U.size t':=by rw[E.enc_len] at G;exact G
  have hjl:(j+1)*U.size t'<=xs.length*U.size t':=JY _ hj;have hj1:(j+1)*U.size t'=j*U.size t'+U.size t':=by rw[Nat.add_mul,Nat.one_mul]
  have hget:∀q,q<xs.length*U.size t'->((cur.toList.take (i*U.size t'+off)++u.cells.toList++cur.toList.drop (i*U.size t'+off+u.cells.toList.length)).take (xs.length*U.size t')).getD q undef=
    (cur.toList.take (i*U.size t'+off)++u.cells.toList++cur.toList.drop (i*U.size t'+off+u.cells.toList.length)).getD q undef:=fun q hq=>by
   simp[hq]
  rw[hget _ XY];have Z:∀q,q<xs.length*U.size t'->cs.getD q undef=cur.toList.getD q undef:=fun q hq=>by
   rw[<- htake];simp[hq]
  by_cases hji:j=i
  ·subst hji;have I:(xs.set j y)[j]'(by simpa using hj)=y:=XU;have O:∀k (G:k<(setCells (E.enc t' xs[j]) off L).length),Rel E w ρ st (setCells (E.enc t' xs[j]) off L)[k]
     ((cur.toList.take (j*U.size t'+off)++u.cells.toList++cur.toList.drop (j*U.size t'+off+u.cells.toList.length)).getD (j*U.size t'+k) undef):=fun k G=>by
    have fC:=G;rw[aDd,E.enc_len] at fC;have:=aMQ L u.cells.toList (E.enc t' xs[j]) off ((cur.toList.drop (j*U.size t')).take (U.size t')) XY (by rw[E.enc_len];exact hle)
     (by rw[E.enc_len];simp;omega) hrel (fun k G=>by
      have hk3:k<U.size t':=by rw[E.enc_len] at G;exact G
      have:=h3 j hi k G;rw[Z _ XY] at this;simpa[JH,hk3,KT] using this) k G
    have e:(((cur.toList.drop (j*U.size t')).take (U.size t')).take off++u.cells.toList++((cur.toList.drop (j*U.size t')).take (U.size t')).drop (off+u.cells.toList.length)).getD k undef=
      (cur.toList.take (j*U.size t'+off)++u.cells.toList++cur.toList.drop (j*U.size t'+off+u.cells.toList.length)).getD (j*U.size t'+k) undef:=by
     have hcl:cur.toList.length=cap*U.size t':=by simpa using hcs
     simp only[QG];rw[bF8 cur.toList u.cells.toList (j*U.size t') off (U.size t') k XY XY fC]
    rw[e] at this;exact this
   have:=aM0 hy (f:=fun k=>(cur.toList.take (j*U.size t'+off)++u.cells.toList++cur.toList.drop (j*U.size t'+off+u.cells.toList.length)).getD (j*U.size t'+k) undef) O k (by rw[I] at G;exact G);simp only[I];exact this
  ·have I:(xs.set i y)[j]'(by simpa using hj)=xs[j]:=by
    rw[List.getElem_set_ne (Ne.symm hji)]
   have:=h3 j hj k (by rw[I] at G;exact G);rw[Z _ XY] at this;have e:(cur.toList.take (i*U.size t'+off)++u.cells.toList++cur.toList.drop (i*U.size t'+off+u.cells.toList.length)).getD (j*U.size t'+k) undef=cur.toList.getD (j*U.size t'+k) undef:=by
    simp only[QG];congr 1;have hcl:cur.toList.length=cap*U.size t':=by simpa using hcs
    simp only[KP,List.getElem?_append,KQ,hcl];rcases Nat.lt_or_gt_of_ne hji with hlt|hgt
    ·have:(j+1)*U.size t'<=i*U.size t':=JY _ hlt;rw[JV XY];rw[JH,JV XY]
    ·have:(i+1)*U.size t'<=j*U.size t':=JY _ hgt;rw[JK XY,JK XY];rw[KT];congr 1;omega
   rw[e];simp only[I];exact this
theorem bFY (h:RR E n N w0 ρ s a w) {look:Nat->Option (bK U)} (I:∀id ob,look id=some ob->s.objs id=some ob)
  {p x:aC U} {v u:Value} (hp:Rel E w ρ (bF N ρ w) p v) (hx:Rel E w ρ (bF N ρ w) x u) {id:Nat} {ob:bK U} (G:storeAt E look p x.cellsOf=some (id,ob))
  {t:TypeId} {m:Nat} (hm:jZ P t=some m) (hlen:x.cellsOf.length=m):
  ∃w' ρ',(Instr.storeAt t v u).run P w=.ok () w'/\RR E n N w0 ρ' (s.obj id ob) a w':=by
 obtain⟨ti,hti,htis⟩:=pR hm;unfold storeAt at G;have hall:x.cellsOf.all (storable look)=true:=by
  cases hc:x.cellsOf.all (storable look)<;>rw[hc] at G<;>simp_all
 rw[hall] at G;simp only[QX] at G;obtain⟨hsz,hrel,hone⟩:=bBw h I hx hall;have hvl:u.cells.toList.length=x.cellsOf.length:=by simpa using hsz
 split at G
 ·-- a variable
  rename_i f off;split at G
  ·rename_i l hl';have hc:Nat.ble (off+x.cellsOf.length) l.length=true:=by
    cases hc:Nat.ble (off+x.cellsOf.length) l.length<;>rw[hc] at G<;>simp_all
   rw[hc] at G;simp only[QX,QQ,QK] at G;obtain⟨rfl,rfl⟩:=G;have hle:=QO hc;obtain⟨b,c,ty,h1,h2,h3,h4,h5⟩:=h.objs _ _ (I _ _ hl');cases hp with
   |ptr _ _ r S=>
    rw[h1] at S;simp only[QQ,QK,true_and,Value.pointer.injEq,KR,and_true] at S;subst S;have hrun:=run_storeCells_at P b off ty u.cells.toList 0 c w h3 (by simp only[JL];omega) hone;simp only[JL] at hrun;refine⟨w.setRow b (c.toList.take off++u.cells.toList++c.toList.drop (off+u.cells.toList.length)).toArray,dU ρ f 0 (.pointer (some ⟨b,0,none⟩)),?_,?_⟩
    ·simp only[Instr.storeAt,Instr.sureAddr,storeVar,sizeOf,typeInfo,QM,JU,QP,run_program,hti];have:¬(u.cells.size≠ti.size):=by simp only[ne_eq,Decidable.not_not];omega
     simp only[JK this];exact hrun
    ·have hold:∀g L,ρ f=some (g,L)->(g=0/\L=.pointer (some ⟨b,0,none⟩))\/((∀a,L≠ .pointer a)/\g<0):=fun g L J=>by
      rw[h1] at J;simp only[QQ,QK] at J;exact .inl ⟨J.1.symm,J.2.symm⟩
     have hsame:∀r,r<w.heap.size->(∀g L,ρ f=some (g,L)->blk L≠some r)->(w.setRow b (c.toList.take off++u.cells.toList++c.toList.drop (off+u.cells.toList.length)).toArray).heap[r]?=w.heap[r]?:=fun r _ O=>
      setRow_other w b r _ (fun e=>O _ _ h1 (by simp[blk,e]))
     have hnew:∀r,blk (.pointer (some ⟨b,0,none⟩))=some r->(∃g L,ρ f=some (g,L)/\blk L=some r)\/(w.heap.size<=r):=fun r S=>.inl ⟨_,_,h1,S⟩
     have Z:∀ob,s.objs f=some ob->ob.simple=true:=fun ob ho=>by rw[I _ _ hl'] at ho;cases ho;rfl
     refine h.upd f 0 _ _ Z hold (aF9 h2 w _) hsame hnew ?_;refine⟨b,_,ty,by simp[dU],h2,setRow_heap w b c _ ty (0,0) h3,?_,fun k hk=>?_⟩
     ·simp only[KB,QH,KQ,KZ,Array.length_toList,aDd];omega
     ·have fC:=aMQ x.cellsOf u.cells.toList l off c.toList XY hle (by simpa using h4) hrel (fun k hk=>by rw[nF];exact h5 k hk) k hk;have:=h.xJ f 0 _ Z hold (aF9 h2 w _) hsame hnew fC;simpa using this
  ·cases G
 ·-- an element of an own row
  rename_i f g i off sz;split at G
  ·rename_i t' g' xs hl';have hc:(Nat.beq g g'&&Nat.beq sz (U.size t')&&Nat.ble (off+x.cellsOf.length) (U.size t'))=true:=by
    cases hc:(Nat.beq g g'&&Nat.beq sz (U.size t')&&Nat.ble (off+x.cellsOf.length) (U.size t'))<;>rw[hc] at G<;>simp_all
   rw[hc] at G;simp only[QX] at G;simp only[QU] at hc;obtain⟨⟨kH,rT⟩,rS⟩:=hc;obtain rfl:=QZ kH;obtain rfl:=QZ rT;have hle:=QO rS;split at G
   ·rename_i y hy;simp only[QQ,QK] at G;obtain⟨rfl,rfl⟩:=G;obtain⟨u1,cs,h1,hpp,h2,h3⟩:=h.objs _ _ (I _ _ hl');cases hp with
    |eptrOld _ _ _ _ _ g' L v J hg=>
     rw[h1] at J;simp only[QQ,QK] at J;omega
    |eptr _ _ _ _ _ b n' cap J hi=>
     rw[h1] at J;simp only[QQ,QK,true_and] at J;subst J;have hnx:n'=xs.length:=by
      rcases h2.2 with ⟨h0,_⟩|⟨_,_,_,heq,_⟩
      ·cases h0
      ·simp only[KW] at heq;exact heq.2.1
     have hi':i<xs.length:=XY;have hxi:xs.getD i (E.dflt t')=xs[i]:=by simp[hi']
     rw[hxi] at hy;obtain⟨_,hbase,V,cs',hrun,hown,hrl⟩:=aRR (P:=P) h2 h3 hi' hle hy hm hlen hsz hrel hone;have Z:∀ob,s.objs f=some ob->ob.simple=true:=fun ob ho=>by rw[I _ _ hl'] at ho;cases ho;rfl
     have hold:∀g1 L,ρ f=some (g1,L)->(g1=g/\L=.slice (some ⟨b,0,none⟩) n' cap)\/((∀a,L≠ .pointer a)/\g1<g):=fun g1 L J=>by
      rw[h1] at J;simp only[QQ,QK] at J;exact .inl ⟨J.1.symm,J.2.symm⟩
     have hsame:∀r,r<w.heap.size->(∀g L,ρ f=some (g,L)->blk L≠some r)->(w.setRow b V).heap[r]?=w.heap[r]?:=fun r _ O=>
      setRow_other w b r _ (fun e=>O _ _ h1 (by simp[blk,e]))
     have hnew:∀r,blk (.slice (some ⟨b,0,none⟩) n' cap)=some r->(∃g L,ρ f=some (g,L)/\blk L=some r)\/(w.heap.size<=r):=fun r S=>.inl ⟨_,_,h1,S⟩
     have hb:=aF9 hbase w V;refine⟨_,_,hrun,h.upd f g _ _ Z hold hb hsame hnew ?_⟩;exact⟨_,cs',by simp[dU],hpp,hown,fun j hj k hk=>h.xJ f g _ Z hold hb hsame hnew (hrl j hj k hk)⟩
   ·cases G
  ·cases G
 ·-- an element of a slice in an own row
  rename_i f i g j off sz;split at G
  ·rename_i t' g0 gm xs hl';split at G
   ·rename_i t1 ys hmr;have hcs:=bBm G;clear G;obtain⟨hc,G⟩:=hcs;simp only[QU] at hc;obtain⟨rT,rS⟩:=hc;obtain rfl:=QZ rT;have hle:=QO rS;split at G
    ·rename_i y hy;split at G
     ·rename_i z hz;simp only[QQ,QK] at G;obtain⟨rfl,rfl⟩:=G;have hms:=aCY h I hmr;have hgm:g=gm:=by
       unfold uN at hmr;rw[hl'] at hmr;simp only at hmr;split at hmr
       ·obtain⟨hb,_⟩:=bBm hmr;exact QZ hb
       ·cases hmr
      subst hgm;cases hp with
      |meptrOld _ _ _ _ _ _ g' L v J hg=>
       have:=(hms _ _ J).1;omega
      |meptr _ _ _ _ _ _ b n' cap J hi=>
       obtain⟨_,ds,hvp,h2,h3⟩:=hms _ _ J;have hnx:n'=ys.length:=by
        rcases h2.2 with ⟨h0,_⟩|⟨_,_,_,heq,_⟩
        ·cases h0
        ·simp only[KW] at heq;exact heq.2.1
       have hj:j<ys.length:=XY;have hyj:ys.getD j (E.dflt t1)=ys[j]:=by simp[hj]
       rw[hyj] at hy;obtain⟨_,hbase,V,ds',hrun,hown,hrl⟩:=aRR (P:=P) h2 h3 hj hle hy hm hlen hsz hrel hone;have hb:=aF9 hbase w V;have hoth:∀nm g1 u1,nm≠ .mem f i->ρ nm=some (g1,u1)->∀r,blk u1=some r->(w.setRow b V).heap[r]?=w.heap[r]?:=fun nm g1 u1 O iH r S=>
        setRow_other w b r _ (fun e=>h.sep _ _ _ _ _ _ r iH J O S (by simp[blk,e]))
       have c:Chg N (fun q=>q=f) w0.heap.size ρ ρ w (w.setRow b V):=⟨fun _ _=>rfl,fun _ _ _ _ iH=>.inl iH,hb,fun r _ O=>setRow_other w b r _ (fun e=>O _ _ _ rfl J (by simp[blk,e])),
        fun nm g1 u1 r hd iH S=>.inl ⟨nm,g1,u1,hd,iH,S⟩,fun nm nm' g1 g2 u1 u2 r _ _ iH mR O cQ=>h.sep _ _ _ _ _ _ r iH mR O cQ⟩
       refine⟨_,ρ,hrun,h.change c rfl (fun q hq=>?_) (fun nm g1 u1 hd iH=>?_) (fun q ob hq ho=>?_) (fun q ob hq _=>⟨.deep t' g0 g (xs.set i z),by rw[hq];simp[ASt.obj]⟩)⟩
       ·have:Nat.beq q f=false:=iX hq;simp[ASt.obj,this]
       ·refine⟨_,by rw[hd];simp[ASt.obj];rfl,fun e=>by cases e⟩
       ·subst hq;have:(s.obj q (.deep t' g0 g (xs.set i z))).objs q=some (.deep t' g0 g (xs.set i z)):=by simp[ASt.obj]
        rw[this] at ho;obtain rfl:=QW ho;obtain⟨u1,cs,r1,r2,r3,r4,r5,r6⟩:=h.objs _ _ (I _ _ hl');have keep:∀{nm:Name} {g1:Nat} {u1:Value} {e:TypeId} {m k:Nat} {cs:List Value},nm≠ .mem q i->ρ nm=some (g1,u1)->w.ownsRow w0.heap.size e m u1 k cs->(w.setRow b V).ownsRow w0.heap.size e m u1 k cs:=fun O iH hw=>by
         refine⟨hw.1,?_⟩;rcases hw.2 with hn'|⟨g',cap,cur,rfl,hb,hg,rest⟩
         ·exact .inl hn'
         ·exact .inr ⟨g',cap,cur,rfl,hb,by rw[hoth _ _ _ O iH g' rfl];exact hg,rest⟩
        refine⟨u1,cs,r1,r2,by rw[JM];exact keep (fun e=>by cases e) r1 r3,r4,fun k hk=>r5 k (by rw[JM] at hk;exact hk),fun k hk=>?_⟩;have hk':k<xs.length:=by rw[JM] at hk;exact hk
        obtain⟨t2,zs,v2,ds2,p1,p2,p3,p4,p5,p6⟩:=r6 k hk'
        by_cases hki:k=i
        ·subst hki;rw[J] at p2;simp only[QQ,QK,true_and] at p2;subst p2;refine⟨t1,ys.set j y,_,ds',?_,J,p3,hvp,hown,fun i hi k hk=>c.rel (hrl i hi k hk)⟩;simp only[List.getElem_set_self];exact E.unsl_ok _ _ _ _ hz
        ·have e1:(xs.set i z)[k]=xs[k]:=by rw[List.getElem_set_ne (Ne.symm hki)]
         rw[e1];exact⟨t2,zs,v2,ds2,p1,p2,p3,p4,keep (fun e=>hki (Name.mem.inj e).2) p2 p5,fun i hi k hk=>c.rel (p6 i hi k hk)⟩
     ·cases G
    ·cases G
   ·cases G
  ·cases G
 ·cases G
end
end Go.Vm
namespace Go.Vm
open Go.RowKit
set_option linter.unusedVariables false
section
variable {U:eW} {E:Enc U} {n:Nat} {N:Nat->Prop} {w0:Fr} {w w':World} {ρ ρ':Own} {s:ASt U} {a:Act} {P:Program}
theorem RR.j6 (h:RR E n N w0 ρ s a w) {id:Nat} (r:s.objs id=none):∀g u,ρ id=some (g,u)->False:=fun g u f=>by
 obtain⟨ob,ho,_⟩:=h.dom _ _ _ f;rw[show (Name.ob id).id=id from rfl,r] at ho;cases ho
theorem RR.aRx (h:RR E n N w0 ρ s a w) {id:Nat} (O:s.objs id=none) {l:List (aC U)} {c:Array Value} (ty:TypeId) (Z:c.size=l.length)
  (V:∀k (L:k<l.length),Rel E w ρ (bF N ρ w) l[k] (c.getD k undef)):
  RR E n N w0 (dU ρ id 0 (.pointer (some ⟨w.heap.size,0,none⟩))) (s.obj id (.cells l)) a (w.alloc (.cells c ty)):=by
 have I:=h.j6 O;have hold:∀g u,ρ id=some (g,u)->(g=0/\u=.pointer (some ⟨w.heap.size,0,none⟩))\/((∀a,u≠ .pointer a)/\g<0):=fun g u S=>(I g u S).elim
 have J:Below w0.heap.size w (w.alloc (.cells c ty)):=(Below.refl _ _).alloc h.below.size _;have r:∀b,b<w.heap.size->(∀g u,ρ id=some (g,u)->blk u≠some b)->(w.alloc (.cells c ty)).heap[b]?=w.heap[b]?:=fun b hb _=>heap_alloc_old w _ hb
 have G:∀b,blk (.pointer (some ⟨w.heap.size,0,none⟩))=some b->(∃g u,ρ id=some (g,u)/\blk u=some b)\/(w.heap.size<=b):=fun b hb=>by
  simp only[blk,QQ] at hb;exact .inr XY
 have f:∀ob,s.objs id=some ob->ob.simple=true:=fun ob ho=>by rw[O] at ho;cases ho
 refine h.upd id 0 _ _ f hold J r G ?_;exact⟨w.heap.size,c,ty,by simp[dU],h.below.size,heap_alloc_new w _,Z,fun k L=>h.xJ id 0 _ f hold J r G (V k L)⟩
theorem RR.newRow (h:RR E n N w0 ρ s a w) {id V:Nat} {J:Value} {t:U.τ} {xs:List (U.T t)} {cs:List Value} (f:∀ob,s.objs id=some ob->ob.simple=true)
  (hold:∀g u,ρ id=some (g,u)->(∀a,u≠ .pointer a)/\g<V) (hg:w.grownBy w' ((ρ id).bind fun p=>blk p.2))
  (L:w'.ownsRow w0.heap.size (U.ety t) (U.size t) J xs.length cs)
  (O:∀b,blk J=some b->(∃g u,ρ id=some (g,u)/\blk u=some b)\/(w.heap.size<=b))
  (hl:∀i (hi:i<xs.length) k (S:k<(E.enc t xs[i]).length),Rel E w ρ (bF N ρ w) (E.enc t xs[i])[k] (cs.getD (i*U.size t+k) undef)):
  RR E n N w0 (dU ρ id V J) (s.obj id (.row t V xs)) a w':=by
 have G:∀g u,ρ id=some (g,u)->(g=V/\u=J)\/((∀a,u≠ .pointer a)/\g<V):=fun g u I=>.inr (hold g u I)
 have Z:Below w0.heap.size w w':=(Below.refl _ _).grown hg h.below.size (fun k S=>by
  cases I:ρ id with
  |none=>rw[I] at S;cases S
  |some p=>
   rw[I] at S;exact((h.own (g:=p.1) (u:=p.2) I).2 k S).1)
 have r:∀b,b<w.heap.size->(∀g u,ρ id=some (g,u)->blk u≠some b)->w'.heap[b]?=w.heap[b]?:=fun b hb hne=>by
  refine hg.block b hb (fun e=>?_);cases I:ρ id with
  |none=>rw[I] at e;cases e
  |some p=>
   rw[I] at e;exact hne p.1 p.2 I e.symm
 have hpp:∀a,J≠ .pointer a:=fun a e=>by
  rcases L.2 with ⟨h0,_⟩|⟨_,_,_,h0,_⟩<;>rw[h0] at e<;>cases e
 refine h.upd id V J _ f G Z r O ?_;exact⟨J,cs,by simp[dU],hpp,L,fun i hi k S=>h.xJ id V J f G Z r O (hl i hi k S)⟩
theorem aB5 {t:TypeId} {l:List (aC U)} (f:zeroCells P t=some l):
  ∃z,(zeroValue t).run P w=.ok z w/\z.cells.size=l.length/\∀(st:Nat->Prop) k (G:k<l.length),Rel E w ρ st l[k] (z.cells.getD k undef):=by
 unfold zeroCells at f;split at f
 ·rename_i i hi;split at f
  ·rename_i z u;obtain rfl:=QW f;refine⟨z,by simp[zeroValue,typeInfo,hi,u],XU,fun st k G=>?_⟩;have r:k<z.cells.size:=by simpa using G
   have e:z.cells.getD k undef=z.cells.toList[k]'(by simpa using r):=by simp[r]
   rw[e];simp only[List.getElem_map];exact aM1 _
  ·cases f
 ·cases f
theorem bWB (h:RR E n N w0 ρ s a w) {id:Nat} (I:s.objs id=none) {t:TypeId} {l:List (aC U)} (u:zeroCells P t=some l):
  ∃w' ρ',(Instr.alloc t true (.tuple #[])).run P w=.ok (.pointer (some ⟨w.heap.size,0,none⟩)) w'/\RR E n N w0 ρ' (s.obj id (.cells l)) a w'/\ρ' id=some (0,.pointer (some ⟨w.heap.size,0,none⟩)):=by
 obtain⟨z,f,r,G⟩:=aB5 (E:=E) (w:=w) (ρ:=ρ) u;refine⟨w.alloc (.cells z.cells t),_,?_,h.aRx I t r (G _),by simp[dU]⟩;simp[Instr.alloc,f,newVar,newRow]
theorem bWC {C:Cfg U} (h:RR C.E n N w0 ρ s a w) {id:Nat} (O:s.objs id=none) {t:TypeId} {x:(k:U.κ)×U.K k} (hm:C.opqOf t=some x):
  ∃w' ρ',(Instr.alloc t true (.tuple #[])).run C.P w=.ok (.pointer (some ⟨w.heap.size,0,none⟩)) w'/\RR C.E n N w0 ρ' (s.obj id (.opq x.1 x.2)) a w'/\ρ' id=some (0,.pointer (some ⟨w.heap.size,0,none⟩)):=by
 obtain⟨w',I,hb,J⟩:=C.opqOK t x hm w w0.heap.size h.below.size;have G:=h.j6 O;have f:∀ob,s.objs id=some ob->ob.simple=true:=fun ob ho=>by rw[O] at ho;cases ho
 have L:=h.aEI f;refine⟨w',dU ρ id 0 (.pointer (some ⟨w.heap.size,0,none⟩)),I,?_,by simp[dU]⟩;refine h.upd id 0 _ _ f (fun g u S=>(G g u S).elim) (hb.mono h.below.size) (fun b r _=>hb.block b r) (fun b r=>?_) ?_
 ·simp only[blk,QQ] at r;exact .inr XY
 ·show C.E.rep x.1 x.2 w' w0.heap.size (dU ρ id 0 _ (.ob id)) (fun j=>dU ρ id 0 _ (.mem id j));have e1:dU ρ id 0 (.pointer (some ⟨w.heap.size,0,none⟩)) (.ob id)=some (0,.pointer (some ⟨w.heap.size,0,none⟩)):=by simp[dU]
  have V:(fun j=>dU ρ id 0 (.pointer (some ⟨w.heap.size,0,none⟩)) (.mem id j))=fun _=>none:=funext fun j=>by
   unfold dU;rw[JK (fun e=>by cases e),L j]
  rw[e1,V];exact J
theorem bVW (h:RR E n N w0 ρ s a w) {look:Nat->Option (bK U)} (f:∀id ob,look id=some ob->s.objs id=some ob) {id:Nat} (J:s.objs id=none) (t:TypeId)
  {x:aC U} {v:Value} (hx:Rel E w ρ (bF N ρ w) x v) (G:x.cellsOf.all (storable look)=true):
  ∃w' ρ',(Instr.box t v).run P w=.ok (.pointer (some ⟨w.heap.size,0,none⟩)) w'/\RR E n N w0 ρ' (s.obj id (.cells x.cellsOf)) a w'/\ρ' id=some (0,.pointer (some ⟨w.heap.size,0,none⟩)):=by
 obtain⟨u,r,_⟩:=bBw h f hx G;refine⟨w.alloc (.cells v.cells t),_,?_,h.aRx J t u (fun k I=>by have:=r k I;rw[nF] at this;exact this),by simp[dU]⟩;simp[Instr.box,newVar,newRow]
theorem bQj (f:List Value):∀(off:Nat) (cs:Array Value) (i:Nat),(f.zipIdx i).foldl (fun cs (p:Value×Nat)=>cs.setIfInBounds (off+p.2) p.1) cs=(f.zipIdx (off+i)).foldl (fun cs (p:Value×Nat)=>cs.setIfInBounds p.2 p.1) cs:=by
 induction f with
 |nil=>intro off cs i;rfl
 |cons v f r=>
  intro off cs i;simp only[List.zipIdx_cons,QI];rw[r off _ (i+1)];rfl
theorem bQi (f:List Value):∀(off:Nat) (cs:Array Value),off+f.length<=cs.size->(f.zipIdx off).foldl (fun cs (p:Value×Nat)=>cs.setIfInBounds p.2 p.1) cs=(cs.toList.take off++f++cs.toList.drop (off+f.length)).toArray:=by
 induction f with
 |nil=>
  intro off cs h;simp
 |cons v f r=>
  intro off cs h;simp only[QT] at h;simp only[List.zipIdx_cons,QI];rw[r (off+1) _ (by simp;omega)];congr 1;have I:off<cs.toList.length:=by simp;omega
  simp only[Array.toList_setIfInBounds];have G:(cs.toList.set off v).take (off+1)=cs.toList.take off++[v]:=by
   rw[List.take_succ_eq_append_getElem (by simp;omega)];simp[List.take_set_of_le]
  have u:(cs.toList.set off v).drop (off+1+f.length)=cs.toList.drop (off+(v::f).length):=by
   rw[List.drop_set_of_lt XY];simp only[QT];congr 1;omega
  rw[G,u];simp
theorem aJ8 {st:Nat->Prop} {look:Nat->Option (bK U)} (hst:∀(x:aC U) v,Rel E w ρ st x v->storable look x=true->v.oneCell'=true) {G place':Nat->Option (Nat×Nat)} (hp:∀i q,G i=some q->place' i=some q):
  ∀(f:List (Nat×aC U)) (parts':List (Nat×Value)) (l O:List (aC U)) (c:Array Value),f.length=parts'.length->
   (∀k (h:k<f.length) (h':k<parts'.length),f[k].1=parts'[k].1/\Rel E w ρ st f[k].2 parts'[k].2)->
   nY look G l f=some O->c.size=l.length->(∀k (h:k<l.length),Rel E w ρ st l[k] (c.getD k undef))->
   ∃c',Instr.fill place' c parts'=some c'/\c'.size=O.length/\∀k (h:k<O.length),Rel E w ρ st O[k] (c'.getD k undef):=by
 intro f
 induction f with
 |nil=>
  intro parts' l O c u _ I hc hl;have:parts'=[]:=List.eq_nil_of_length_eq_zero (by simpa using u.symm);subst this;simp only[nY,QQ] at I;subst I;exact⟨c,rfl,hc,hl⟩
 |cons p f ih=>
  intro parts' l O c u L I hc hl;obtain⟨i,x⟩:=p;cases parts' with
  |nil=>simp at u
  |cons p' parts'=>
   obtain⟨i',v⟩:=p';obtain⟨h1,h2⟩:=L 0 XU XU;simp only[KV] at h1 h2;subst h1;simp only[nY] at I;split at I
   ·cases I
   ·rename_i off size hpl;have r:(x.cellsOf.all (storable look)&&Nat.beq x.cellsOf.length size&&Nat.ble (off+x.cellsOf.length) l.length)=true:=by
     cases r:(x.cellsOf.all (storable look)&&Nat.beq x.cellsOf.length size&&Nat.ble (off+x.cellsOf.length) l.length)<;>rw[r] at I<;>simp_all
    rw[r] at I;simp only[QX] at I;simp only[QU] at r;obtain⟨⟨kH,rT⟩,rS⟩:=r;have hsz:=QZ rT;have hle:=QO rS
    -- the value's cells
    have hv:v.cells.size=x.cellsOf.length/\∀k (J:k<x.cellsOf.length),Rel E w ρ st x.cellsOf[k] (v.cells.toList.getD k undef):=by
     by_cases hag:∃l,x=.agg l
     ·obtain⟨la,rfl⟩:=hag;cases h2 with
      |agg _ vs hn hla=>
       refine⟨hn,fun k J=>?_⟩;show Rel E w ρ st la[k] (vs.toList.getD k undef);rw[nF];exact hla k J
     ·have hcc:x.cellsOf=[x]:=by
       cases x<;>first|rfl|exact absurd ⟨_,rfl⟩ hag
      have Z:storable look x=true:=by rw[hcc] at kH;simpa using kH
      have S:v.oneCell'=true:=hst x v h2 Z;rw[hcc,cells_one S];refine⟨rfl,fun k J=>?_⟩;have:k=0:=by simpa using J
      subst this;simpa using h2
    have hcs:∀k (h:k<(setCells l off x.cellsOf).length),Rel E w ρ st (setCells l off x.cellsOf)[k] ((c.toList.take off++v.cells.toList++c.toList.drop (off+v.cells.toList.length)).getD k undef):=
     aMQ x.cellsOf v.cells.toList l off c.toList (by simp[hv.1]) hle (by simpa using hc) hv.2 (fun k J=>by rw[nF];exact hl k J)
    have hvl:v.cells.toList.length=x.cellsOf.length:=by simpa using hv.1
    obtain⟨c',hc',hsz',V⟩:=ih parts' (setCells l off x.cellsOf) O (c.toList.take off++v.cells.toList++c.toList.drop (off+v.cells.toList.length)).toArray (by simpa using u)
     (fun k h h'=>L (k+1) (by simp;omega) (by simp;omega)) I
     (by simp only[KB,QH,KQ,KZ,Array.length_toList,aDd];omega) (fun k J=>by simpa using hcs k J)
    refine⟨c',?_,hsz',V⟩;simp only[Instr.fill,hp _ _ hpl];have h3:¬(v.cells.size≠size\/off+v.cells.size > c.size):=XY;have h4:(decide (v.cells.size≠size)||decide (off+v.cells.size > c.size))=false:=by simpa using h3
    rw[JK (by simpa using h3)];have e:v.cells.zipIdx.foldl (fun cs (p:Value×Nat)=>cs.setIfInBounds (off+p.2) p.1) c=(c.toList.take off++v.cells.toList++c.toList.drop (off+v.cells.toList.length)).toArray:=by
     rw[<- Array.foldl_toList,Array.toList_zipIdx,bQj,JL,bQi _ _ _ XY]
    rw[<- hc',<- e]
end
end Go.Vm
namespace Go.Vm
open Go.RowKit
set_option linter.unusedVariables false
section
variable {U:eW} {n:Nat} {N:Nat->Prop} {w0:Fr} {w w':World} {ρ ρ':Own} {s:ASt U} {a:Act}
theorem aCA {C:Cfg U} {t:TypeId} {τ:U.τ} (h:oK C t=some τ):
  C.P.underlying t=some (.slice (U.ety τ))/\∃i,C.P.info? (U.ety τ)=some i/\i.size=U.size τ:=by
 unfold oK at h;split at h
 ·rename_i e he;split at h
  ·rename_i m r hm u;have f:(Nat.beq m (U.size r)&&Nat.beq e (U.ety r))=true:=by
    cases f:(Nat.beq m (U.size r)&&Nat.beq e (U.ety r))<;>rw[f] at h<;>simp_all
   rw[f] at h;simp only[QX,QQ] at h;subst h;simp only[QU] at f;obtain rfl:=QZ f.1;obtain rfl:=QZ f.2;exact⟨he,pR hm⟩
  ·cases h
 ·cases h
theorem tC {t f:U.τ} {xs:List (U.T f)} {ys:List (U.T t)} (h:rV t f xs=some ys):∃e:f=t,e▸xs=ys:=by
 unfold rV at h;split at h
 ·rename_i e _;exact⟨e,QW h⟩
 ·cases h
def aCy (E:Enc U) (w:World) (ρ:Own) (st:Nat->Prop) (t:U.τ) (xs:List (U.T t)) (v:Value):Prop:=
 ((∃u,v=.slice u 0 0)/\xs=[])\/∃(b o r:Nat) (f:Nat->Value),v=.slice (some ⟨b,o,none⟩) xs.length r/\xs.length<=r/\
  (∀j,j<xs.length*U.size t->w.cell? ⟨b,o+j,none⟩=some (f j))/\
  ∀i (h:i<xs.length) k (G:k<(E.enc t xs[i]).length),Rel E w ρ st (E.enc t xs[i])[k] (f (i*U.size t+k))
theorem aAU {E:Enc U} {st:Nat->Prop} {base:Nat} {t:U.τ} {xs:List (U.T t)} {u:Value} {cs:List Value} (S:w.ownsRow base (U.ety t) (U.size t) u xs.length cs)
  (Z:∀i (h:i<xs.length) k (hk:k<(E.enc t xs[i]).length),Rel E w ρ st (E.enc t xs[i])[k] (cs.getD (i*U.size t+k) undef)):aCy E w ρ st t xs u:=by
 rcases S.2 with ⟨h0,r⟩|⟨V,J,cur,I,L,G,r,hcm,hcs,f⟩
 ·exact .inl ⟨⟨_,h0⟩,List.eq_nil_of_length_eq_zero r⟩
 ·refine .inr ⟨V,0,J,fun j=>cs.getD j undef,I,r,fun j O=>?_,Z⟩;rw[JW,cell_of_row w V j cur _ (0,0) G];have h6:cs[j]?=cur[j]?:=by
   rw[<- f,JH,JV O];simp
  have:j<cs.length:=by rw[S.1];exact O
  rw[<- h6];simp[this]
theorem RR.aDf {E:Enc U} (h:RR E n N w0 ρ s a w) {id:Nat} {t:U.τ} {g:Nat} {xs:List (U.T t)} (ho:s.objs id=some (.row t g xs)):
  ∃u f,ρ id=some (g,u)/\(∀a,u≠ .pointer a)/\w.ownsRow w0.heap.size (U.ety t) (U.size t) u xs.length f/\aCy E w ρ (bF N ρ w) t xs u/\
   ∀i (h:i<xs.length) k (J:k<(E.enc t xs[i]).length),Rel E w ρ (bF N ρ w) (E.enc t xs[i])[k] (f.getD (i*U.size t+k) undef):=by
 obtain⟨u,f,I,hp,G,r⟩:=h.objs _ _ ho;exact⟨u,f,I,hp,G,aAU G r,r⟩
theorem bSJ {E:Enc U} {st:Nat->Prop} {base:Nat} {r:U.τ} {I:List (U.T r)} {u:Value} {cs:List Value} (h2:w.ownsRow base (U.ety r) (U.size r) u I.length cs)
  (h3:∀i (h:i<I.length) k (hk:k<(E.enc r I[i]).length),Rel E w ρ st (E.enc r I[i])[k] (cs.getD (i*U.size r+k) undef)) {f hi c:Nat} {ad:Option Addr} (hle:f<=hi)
  (had:(ad=none/\c=0/\f=hi)\/∃b n V o,u=.slice (some ⟨b,0,none⟩) n V/\hi<=n/\ad=some ⟨b,o,none⟩/\(f<hi->o=f*U.size r)/\hi-f<=c):
  aCy E w ρ st r ((I.take hi).drop f) (.slice ad (hi-f) c):=by
 rcases had with ⟨rfl,rfl,rfl⟩|⟨b,n',V,o,rfl,hn,rfl,ho,Z⟩
 ·refine .inl ⟨⟨none,by rw[Nat.sub_self]⟩,?_⟩;exact List.drop_eq_nil_of_le (by rw[KQ];omega)
 ·rcases h2.2 with ⟨h0,_⟩|⟨gb,cap',cur,S,hbase,hgb,hnn,hcm,hcs,J⟩
  ·cases h0
  simp only[KW,QQ,KR,and_true] at S;obtain⟨rfl,rfl,rfl⟩:=S;have G:((I.take hi).drop f).length=hi-f:=by rw[KZ,KQ];omega
  refine .inr ⟨b,o,c,fun k=>cs.getD (f*U.size r+k) undef,by rw[G],by rw[G];exact Z,fun j hj=>?_,fun i O k hk=>?_⟩
  ·rw[G] at hj;have hlt:f<hi:=by
    refine Classical.byContradiction fun hn=>?_
    rw[show hi-f=0 by omega,Nat.zero_mul] at hj;omega
   rw[ho hlt,cell_of_row w b _ cur _ (0,0) hgb];have L:f*U.size r+j<I.length*U.size r:=by
    have h4:(f+(hi-f))*U.size r<=I.length*U.size r:=JY _ XY;rw[Nat.add_mul] at h4;omega
   have h6:cs[f*U.size r+j]?=cur[f*U.size r+j]?:=by
    rw[<- J,JH,JV L];simp
   have:f*U.size r+j<cs.length:=by rw[h2.1];exact L
   rw[<- h6];simp[this]
  ·rw[G] at O;have e:((I.take hi).drop f)[i]'(by rw[G];exact O)=I[f+i]'XY:=XU;show Rel E w ρ st _ (cs.getD (f*U.size r+(i*U.size r+k)) undef);rw[show f*U.size r+(i*U.size r+k)=(f+i)*U.size r+k by rw[Nat.add_mul,JP]];simp only[e];exact h3 (f+i) XY k (by rw[e] at hk;exact hk)
theorem bIU {E:Enc U} (h:RR E n N w0 ρ s a w) {look:Nat->Option (bK U)} (I:∀id ob,look id=some ob->s.objs id=some ob) {t:U.τ}
  {x:aC U} {v:Value} (hx:Rel E w ρ (bF N ρ w) x v) {ys:List (U.T t)} (G:rowOf E look t x=some ys):aCy E w ρ (bF N ρ w) t ys v:=by
 unfold rowOf at G;split at G
 ·split at G
  ·rename_i id g _ O L zs S;have J:Nat.beq g L=true:=by cases J:Nat.beq g L<;>rw[J] at G<;>simp_all
   rw[J] at G;simp only[QX] at G;obtain rfl:=QZ J;obtain⟨rfl,rfl⟩:=tC G;obtain⟨u,cs,Z,hp,h2,V,_⟩:=h.aDf (I _ _ S);cases hx with
   |osl _ _ u' r hp'=>
    rw[Z] at r;simp only[QQ,QK,true_and] at r;subst r;exact V
   |oslOld _ _ L u' v r hg=>
    rw[Z] at r;simp only[QQ,QK] at r;omega
  ·cases G
 ·rename_i O zs;obtain⟨rfl,rfl⟩:=tC G;cases hx with
  |lJ _=>exact .inl ⟨⟨_,rfl⟩,rfl⟩
  |sle _ ad=>exact .inl ⟨⟨_,rfl⟩,rfl⟩
  |sl _ _ b o cap f hb hcap J S=>exact .inr ⟨b,o,cap,f,rfl,hcap,J,S⟩
 ·obtain rfl:=QW G;cases hx;exact .inl ⟨⟨_,rfl⟩,rfl⟩
 ·split at G
  ·rename_i O zs hm;obtain⟨rfl,rfl⟩:=tC G;have hms:=aCY h I hm;cases hx with
   |mslOld _ _ _ L u' v r hg=>
    have:=(hms _ _ r).1;omega
   |msl _ _ _ u r=>
    obtain⟨_,ds,hp,h2,V⟩:=hms _ _ r;exact aAU h2 V
  ·cases G
 ·rename_i id g lo hi sz;split at G
  ·rename_i O L zs S;have J:(Nat.beq g L&&Nat.beq sz (U.size O))=true:=by cases J:(Nat.beq g L&&Nat.beq sz (U.size O))<;>rw[J] at G<;>simp_all
   rw[J] at G;simp only[QX] at G;simp only[QU] at J;obtain rfl:=QZ J.1;obtain rfl:=QZ J.2;obtain⟨rfl,rfl⟩:=tC G;obtain⟨u,cs,Z,hp,h2,_,V⟩:=h.aDf (I _ _ S);cases hx with
   |ovwOld _ _ _ _ _ L u' v r hg=>
    rw[Z] at r;simp only[QQ,QK] at r;omega
   |ovw _ _ _ _ _ u' ad c r _ hle had=>
    rw[Z] at r;simp only[QQ,QK,true_and] at r;subst r;exact bSJ h2 V hle had
  ·cases G
 ·cases G
theorem bKH (w:World) (row:Option Nat):w.grownBy w row:=⟨rfl,rfl,rfl,JX _,fun _ _ _=>rfl⟩
theorem pT {u:Value} (h:∀a,u≠ .pointer a):u.ownBlock=blk u:=by
 cases u<;>first|rfl|skip
 ·exact absurd rfl (h _)
 ·rename_i o _ _;cases o<;>rfl
def aPx (w:World) (m size:Nat) (f:Nat->Value) (y:Value):Prop:=
 ((∃u,y=.slice u 0 0)/\m=0)\/∃(b o r:Nat),y=.slice (some ⟨b,o,none⟩) m r/\m<=r/\∀j,j<m*size->w.cell? ⟨b,o+j,none⟩=some (f j)/\(f j).oneCell'=true
theorem bCT {P:Program} {base:Nat} {t ty e:TypeId} (hu:P.underlying t=some (.slice e)) {i:TypeInfo} (hi:P.info? e=some i) {z:Value} (hz:i.zero=some z) {size:Nat} (O:i.size=size)
  (hzs:z.cells.size=size) (hpos:0<size) (hby:1<=i.bytes) {u y:Value} {n m:Nat} {cs:List Value} (G:w.ownsRow base e size u n cs) (hpu:∀a,u≠ .pointer a) {f:Nat->Value}
  (hy:aPx w m size f y) (J:(n+m)*i.bytes<=140737488355328) (L:base<=w.heap.size):
  ∃v' w',(Builtin.append_ #[t,t] ty #[u,y]).run P w=.ok v' w'/\w'.ownsRow base e size v' (n+m) (cs++(List.range (m*size)).map f)/\w.grownBy w' u.ownBlock/\(∀p,v'≠ .pointer p)/\
   ∀b,blk v'=some b->blk u=some b\/w.heap.size<=b:=by
 have hle:n+m<=maxLen:=by
  have:(n+m)*1<=(n+m)*i.bytes:=Nat.mul_le_mul_left _ hby;unfold maxLen;omega
 rcases hy with ⟨⟨ad,rfl⟩,rfl⟩|⟨b,o,V,rfl,hcap,hc⟩
 ·refine⟨u,w,?_,by simpa using G,bKH _ _,hpu,fun b hb=>.inl hb⟩;rcases G.2 with ⟨rfl,_⟩|⟨gb,V,cur,rfl,L,hgb,hn,_⟩
  ·cases ad<;>simp[Builtin.append_,QR hu,sizeOf,typeInfo,hi,Builtin.lenOf,Builtin.firstCells,loadCells,loadCellsFrom]
  ·cases ad<;>simp[Builtin.append_,QR hu,sizeOf,typeInfo,hi,Builtin.lenOf,Builtin.firstCells,hn,storeCells,loadCells,loadCellsFrom]
 ·have S:((List.range (m*size)).map f).length=m*size:=XU;have Z:∀x∈(List.range (m*size)).map f,x.oneCell'=true:=fun x hx=>by
   obtain⟨j,hj,rfl⟩:=KY.1 hx;exact(hc j (by simpa using hj)).2
  have I:∀j x,((List.range (m*size)).map f)[j]?=some x->w.cell? ((⟨b,o,none⟩:Addr).add j)=some x:=fun j x hx=>by
   have hj:j<m*size:=by
    have:=(QA.1 hx).1;simpa using this
   rw[Addr.rX,(hc j hj).1];have:=(QA.1 hx).2;simp at this;rw[this]
  obtain⟨v',w',r,hown',hgrow,hnil⟩:=run_append_own (P:=P) w base t ty e i z size i.bytes hu hi hz O rfl hzs hpos u n cs G
   ⟨b,o,none⟩ m V ((List.range (m*size)).map f) S I Z hle J L
  have hpv:∀p,v'≠ .pointer p:=fun p e=>by
   rcases hown'.2 with ⟨h0,_⟩|⟨_,_,_,h0,_⟩<;>rw[h0] at e<;>cases e
  refine⟨v',w',r,hown',hgrow,hpv,fun b' hb'=>?_⟩;rcases G.2 with ⟨rfl,hx0⟩|⟨gb,cap',cur,rfl,L,hgb,hn,hcm,hcs,htake⟩
  ·refine .inr ?_;subst hx0;have hcs0:cs=[]:=List.eq_nil_of_length_eq_zero (by rw[G.1];simp);subst hcs0;obtain⟨v2,w2,hrun2,hown2,_⟩:=run_append_own (P:=P) w w.heap.size t ty e i z size i.bytes hu hi hz O rfl hzs hpos (.slice none 0 0) 0 [] (JE _ _ _ _)
    ⟨b,o,none⟩ m V ((List.range (m*size)).map f) S I Z (by simpa using hle) (by simpa using J) (JX _)
   rw[hrun2] at r;simp only[Result.ok.injEq] at r;obtain⟨rfl,rfl⟩:=r;exact(hown2.lt b' (by rw[pT hpv];exact hb')).1
  ·by_cases hroom:n+m<=cap'
   ·have hr:=run_append_room (P:=P) w t ty e i hu hi gb n cap' cur hgb ⟨b,o,none⟩ m V ((List.range (m*size)).map f) (by rw[S,O]) I Z hroom (by
     rw[S,hcs,O,<- Nat.add_mul];exact JY _ hroom)
    rw[hr] at r;simp only[Result.ok.injEq] at r;obtain⟨rfl,_⟩:=r;exact .inl hb'
   ·have hr:=run_append_grow (P:=P) w t ty e i z hu hi hz ⟨gb,0,none⟩ n cap' cs (by rw[G.1,O]) (G.cells (g:=gb) rfl) ⟨b,o,none⟩ m V
     ((List.range (m*size)).map f) (by rw[S,O]) I XY (by unfold maxLen at hle;omega) (growslice_fits XY J)
    rw[hr] at r;simp only[Result.ok.injEq] at r;obtain⟨rfl,_⟩:=r;simp only[blk,QQ] at hb';exact .inr XY
theorem bCU {C:Cfg U} (h:RR C.E n N w0 ρ s a w) {t ty:TypeId} {τ:U.τ} (hτ:oK C t=some τ) {i:TypeInfo} (hi:C.P.info? (U.ety τ)=some i) {z:Value} (hz:i.zero=some z)
  (hzs:z.cells.size=U.size τ) (hby:1<=i.bytes) {id:Nat} {u y:Value} {xs ys:List (U.T τ)} {cs:List Value}
  (G:w.ownsRow w0.heap.size (U.ety τ) (U.size τ) u xs.length cs) (Z:∀a,u≠ .pointer a)
  (hxs:∀i (h:i<xs.length) k (L:k<(C.E.enc τ xs[i]).length),Rel C.E w ρ (bF N ρ w) (C.E.enc τ xs[i])[k] (cs.getD (i*U.size τ+k) undef))
  (hy:aCy C.E w ρ (bF N ρ w) τ ys y) (O:(xs.length+ys.length)*i.bytes<=140737488355328) (g':Nat)
  (hid:(∃g,ρ id=some (g,u)/\g<g')\/(ρ id=none/\u=.slice none 0 0)) (hsimp:∀ob,s.objs id=some ob->ob.simple=true):
  ∃v' w',(Builtin.append_ #[t,t] ty #[u,y]).run C.P w=.ok v' w'/\RR C.E n N w0 (dU ρ id g' v') (s.obj id (.row τ g' (xs++ys))) a w'/\∀p,v'≠ .pointer p:=by
 obtain⟨hu,i',hi',his⟩:=aCA hτ;rw[hi] at hi';obtain rfl:=QW hi';have hold:∀g u',ρ id=some (g,u')->(∀a,u'≠ .pointer a)/\g<g':=fun g u' hr=>by
  rcases hid with ⟨g0,J,V⟩|⟨J,_⟩
  ·rw[hr] at J;simp only[QQ,QK] at J;obtain⟨rfl,rfl⟩:=J;exact⟨Z,V⟩
  ·rw[J] at hr;cases hr
 have hgr:∀w',w.grownBy w' u.ownBlock->w.grownBy w' ((ρ id).bind fun p=>blk p.2):=fun w' V=>by
  refine⟨V.os,V.tape,V.output,V.size,fun k L hne=>V.block k L (fun e=>?_)⟩;rcases hid with ⟨g0,J,_⟩|⟨J,rfl⟩
  ·apply hne;rw[J,e,pT Z];rfl
  ·cases e
 have hsz:=C.E.pos τ;obtain⟨f,hc,hl⟩:∃f,aPx w ys.length (U.size τ) f y/\∀i (h:i<ys.length) k (L:k<(C.E.enc τ ys[i]).length),Rel C.E w ρ (bF N ρ w) (C.E.enc τ ys[i])[k] (f (i*U.size τ+k)):=by
  rcases hy with ⟨⟨ad,rfl⟩,rfl⟩|⟨b,o,cap,f,rfl,hcap,hc,hl⟩
  ·exact⟨fun _=>undef,.inl ⟨⟨ad,rfl⟩,rfl⟩,fun i hi=>absurd hi XU⟩
  ·refine⟨f,.inr ⟨b,o,cap,rfl,hcap,fun j hj=>⟨hc j hj,?_⟩⟩,hl⟩;have hq:j / U.size τ<ys.length:=Nat.div_lt_of_lt_mul (by rw[Nat.mul_comm];exact hj);have hm:j % U.size τ<(C.E.enc τ ys[j / U.size τ]).length:=by rw[C.E.enc_len];exact Nat.mod_lt _ hsz
   have:=hl (j / U.size τ) hq (j % U.size τ) hm;have e:j / U.size τ*U.size τ+j % U.size τ=j:=by rw[Nat.mul_comm];exact Nat.div_add_mod _ _
   rw[e] at this;obtain⟨r,hcell⟩:=C.E.enc_flat τ _ _ (QN hm);refine this.sS hcell (fun _ _ _ hr=>(h.own hr).1) (fun id g he=>?_) (fun id g i off sz he=>?_) (fun id i g he=>?_) (fun id i g j off sz he=>?_)
   ·rw[he] at r;cases r
   ·rw[he] at r;cases r
   ·rw[he] at r;cases r
   ·rw[he] at r;cases r
 obtain⟨v',w',hrun,hown',hgrow,hpv,hblk⟩:=bCT (P:=C.P) (ty:=ty) hu hi hz his hzs hsz hby G Z hc O h.below.size;refine⟨v',w',hrun,?_,hpv⟩;have S:(xs++ys).length=xs.length+ys.length:=XU;refine h.newRow hsimp hold (hgr w' hgrow) (by rw[S];exact hown') (fun b' I=>?_) (fun j hj k L=>?_)
 ·rcases hblk b' I with I|I
  ·rcases hid with ⟨g0,J,_⟩|⟨J,rfl⟩
   ·exact .inl ⟨_,_,J,I⟩
   ·cases I
  ·exact .inr I
 ·have hk':k<U.size τ:=by rw[C.E.enc_len] at L;exact L
  by_cases hjx:j<xs.length
  ·have e:(xs++ys)[j]=xs[j]:=JO hjx;have hin:j*U.size τ+k<cs.length:=by
    rw[G.1];have:(j+1)*U.size τ<=xs.length*U.size τ:=JY _ hjx;rw[Nat.add_mul,Nat.one_mul] at this;omega
   have:=hxs j hjx k (by rw[e] at L;exact L);simp only[e];simpa[List.getElem?_append,hin] using this
  ·have sZ:j-xs.length<ys.length:=by rw[S] at hj;omega
   have e:(xs++ys)[j]=ys[j-xs.length]:=List.getElem_append_right XY;have:=hl (j-xs.length) sZ k (by rw[e] at L;exact L);simp only[e];have hjm:j*U.size τ=xs.length*U.size τ+(j-xs.length)*U.size τ:=by
    rw[<- Nat.add_mul];congr 1;omega
   have h4:(j-xs.length+1)*U.size τ<=ys.length*U.size τ:=JY _ sZ;rw[Nat.add_mul,Nat.one_mul] at h4;have e2:(cs++(List.range (ys.length*U.size τ)).map f).getD (j*U.size τ+k) undef=f ((j-xs.length)*U.size τ+k):=by
    have h5:¬j*U.size τ+k<cs.length:=by rw[G.1];omega
    have h6:j*U.size τ+k-cs.length=(j-xs.length)*U.size τ+k:=by rw[G.1];omega
    have h7:(j-xs.length)*U.size τ+k<ys.length*U.size τ:=XY;simp[List.getElem?_append,h5,h6,h7]
   rw[e2];exact this
end
end Go.Vm
namespace Go.Vm
open Go.RowKit
set_option linter.unusedVariables false
theorem bT0 (p:Prop) (l:List Prop):eQ (p::l)↔p/\eQ l:=by
 cases l with
 |nil=>simp[eQ]
 |cons q r=>rfl
theorem bTZ (l:List Prop):eQ l↔∀p∈l,p:=by
 induction l with
 |nil=>exact⟨fun _ p hp=>absurd hp List.not_mem_nil,fun _=>trivial⟩
 |cons p l f=>rw[bT0,List.forall_mem_cons,f]
section
variable {U:eW} {n:Nat} {N:Nat->Prop} {w0:Fr} {w w':World} {ρ ρ':Own} {s:ASt U} {a:Act}
theorem cM {α:Type} {b:Bool} {x:Option α} {y:α} (h:cond b x none=some y):b=true/\x=some y:=by
 cases b
 ·cases h
 ·exact⟨rfl,h⟩
theorem bT1 {α:Type} {b:Bool} {x:Option α} {y:α} (h:cond b none x=some y):b=false/\x=some y:=by
 cases b
 ·exact⟨rfl,h⟩
 ·cases h
theorem bWR {C:Cfg U} (h:RR C.E n N w0 ρ s a w) {look:Nat->Option (bK U)} (I:∀id ob,look id=some ob->s.objs id=some ob) {d:Nat} (hf:look d=none->s.objs d=none)
  {argTypes:Array TypeId} {ty:TypeId} {x y:aC U} {u v:Value} (hx:Rel C.E w ρ (bF N ρ w) x u) (hy:Rel C.E w ρ (bF N ρ w) y v)
  {cs:List Prop} {r:aC U} {ob:Option (Nat×bK U)} (ho:aPo C look d argTypes x y=some (cs,r,ob)) (hc:eQ cs):
  ∃S w' ρ',(Builtin.append_ argTypes ty #[u,v]).run C.P w=.ok S w'/\RR C.E n N w0 ρ' (s.kA ob) a w'/\Rel C.E w' ρ' (bF N ρ' w') r S:=by
 unfold aPo at ho;split at ho
 ·rename_i t t' hat;have hbo:=cM ho;clear ho;obtain⟨hb,ho⟩:=hbo;obtain rfl:=QZ hb;have Z:argTypes=#[t,t]:=by rw[<- JA (xs:=argTypes),hat]
  subst Z;split at ho
  ·rename_i τ hτ;split at ho
   ·rename_i i hi;split at ho
    ·rename_i z hz;have hbo2:=cM ho;clear ho;obtain⟨dE,ho⟩:=hbo2;simp only[QU] at dE;have hzs:=QZ dE.1;have hby:=QO dE.2;split at ho
     ·rename_i ys hys;have hel:=bIU h I hy hys;split at ho
      ·split at ho
       ·rename_i O;simp only[QQ,QK] at ho;obtain⟨rfl,rfl,rfl⟩:=ho;cases hx;have f:ys.length*i.bytes<=140737488355328:=hc;have V:ρ d=none:=by
         have hfr:=h.j6 (hf O);generalize ρ d=q at hfr;cases q with
         |none=>rfl
         |some p=>exact(hfr p.1 p.2 rfl).elim
        obtain⟨S,w',L,hR,hp⟩:=bCU (ty:=ty) h hτ hi hz hzs hby (id:=d) (xs:=[]) (cs:=[]) (JE _ _ _ _) (fun a e=>by cases e) (fun i hi=>absurd hi XU) hel
         (by simpa using f) 0 (.inr ⟨V,rfl⟩) (fun ob ho=>by rw[hf O] at ho;cases ho)
        exact⟨S,w',_,L,by simpa[ASt.kA] using hR,.osl d 0 S (by simp[dU]) hp⟩
       ·cases ho
      ·rename_i id g;split at ho
       ·rename_i xs G;simp only[QQ,QK] at ho;obtain⟨rfl,rfl,rfl⟩:=ho;have f:(xs.length+ys.length)*i.bytes<=140737488355328:=hc;unfold rowOf at G;simp only at G;split at G
        ·rename_i t2 g' zs hl;have hbx:=cM G;clear G;obtain⟨hbb,G⟩:=hbx;obtain rfl:=QZ hbb;obtain⟨rfl,rfl⟩:=tC G;obtain⟨u1,cs1,h1,uV,h2,h3,h4⟩:=h.aDf (I _ _ hl);have hu:u1=u:=by
          cases hx with
          |osl _ _ u' J hp'=>
           rw[h1] at J;simp only[QQ,QK,true_and] at J;exact J
          |oslOld _ _ g' u' v J hg=>
           rw[h1] at J;simp only[QQ,QK] at J;omega
         subst hu;obtain⟨S,w',L,hR,hp⟩:=bCU (ty:=ty) h hτ hi hz hzs hby (id:=id) h2 uV h4 hel f (g+1) (.inl ⟨g,h1,XY⟩) (fun ob ho=>by rw[I _ _ hl] at ho;cases ho;rfl);exact⟨S,w',_,L,by simpa[ASt.kA] using hR,.osl id (g+1) S (by simp[dU]) hp⟩
        ·cases G
       ·cases ho
      ·cases ho
     ·cases ho
    ·cases ho
   ·cases ho
  ·cases ho
 ·cases ho
theorem bBi {E:Enc U} {st:Nat->Prop} {t:U.τ}:∀(m:Nat) (l:List (aC U)) (xs:List (U.T t)) (f:Nat->Value),aAW E t m l=some xs->
  (∀k (h:k<l.length),Rel E w ρ st l[k] (f k))->xs.length=m/\m*U.size t<=l.length/\∀i (h:i<xs.length) k (G:k<(E.enc t xs[i]).length),Rel E w ρ st (E.enc t xs[i])[k] (f (i*U.size t+k)):=by
 intro m
 induction m with
 |zero=>
  intro l xs f r _;simp only[aAW,QQ] at r;subst r;exact⟨rfl,XU,fun i h=>absurd h XU⟩
 |succ m O=>
  intro l xs f r L;simp only[aAW] at r;split at r
  ·rename_i x xs' hx J;obtain rfl:=QW r;have u:=E.dec_len t _ _ hx;have hle:U.size t<=l.length:=by
    simp only[KQ] at u;omega
   obtain⟨Z,V,S⟩:=O _ _ (fun k=>f (U.size t+k)) J (fun k h=>by
    have I:U.size t+k<l.length:=by simp at h;omega
    have:=L (U.size t+k) I;simpa using this)
   refine⟨by simp[Z],?_,fun i h k G=>?_⟩
   ·simp only[KZ] at V;rw[Nat.add_mul,Nat.one_mul];omega
   ·cases i with
    |zero=>
     simp only[KV,Nat.zero_mul,JW];exact aM0 hx (f:=f) (fun k h=>by
      have I:k<l.length:=by simp at h;omega
      have:=L k I;simpa using this) k (by simpa using G)
    |succ i=>
     have:=S i (by simpa using h) k (by simpa using G);simp only[List.getElem_cons_succ];have e:(i+1)*U.size t+k=U.size t+(i*U.size t+k):=by rw[Nat.add_mul,Nat.one_mul];omega
     rw[e];exact this
  ·cases r
theorem aRZ (z:List (aC U)):∀(m k:Nat),k<m*z.length->((List.replicate m z).flatten)[k]?=z[k % z.length]?:=by
 intro m
 induction m with
 |zero=>intro k h;simp at h
 |succ m r=>
  intro k h;simp only[List.replicate_succ,List.flatten_cons,List.getElem?_append]
  by_cases f:k<z.length
  ·rw[JV f,Nat.mod_eq_of_lt f]
  ·rw[JK f,r (k-z.length) (by rw[Nat.add_mul,Nat.one_mul] at h;omega)];congr 1;exact(Nat.mod_eq_sub_mod XY).symm
theorem bCG {C:Cfg U} (h:RR C.E n N w0 ρ s a w) {look:Nat->Option (bK U)} (V:∀id ob,look id=some ob->s.objs id=some ob) {d:Nat} (hf:s.objs d=none)
  {t:TypeId} {τ:U.τ} (hτ:oK C t=some τ) {z:List (aC U)} (hz:zeroCells C.P (U.ety τ)=some z) {len:Nat} (L:z.length=U.size τ) (hlen:len*U.size τ<=16777216)
  {f:List (Nat×aC U)} {parts':Array (Nat×Value)} (hpl:f.length=parts'.size)
  (hp:∀k (h:k<f.length) (h':k<parts'.toList.length),f[k].1=parts'.toList[k].1/\Rel C.E w ρ (bF N ρ w) f[k].2 parts'.toList[k].2)
  {l:List (aC U)} (hl:nY look (fun i=>some (i*U.size τ,U.size τ)) ((List.replicate len z).flatten) f=some l) {xs:List (U.T τ)} (hxs:aAW C.E τ len l=some xs):
  ∃v' w' ρ',(Instr.buildSlice t len parts').run C.P w=.ok v' w'/\RR C.E n N w0 ρ' (s.obj d (.row τ 0 xs)) a w'/\Rel C.E w' ρ' (bF N ρ' w') (.osl d 0) v':=by
 obtain⟨hu,i,hi,I⟩:=aCA hτ;obtain⟨G,hzr,hzsz,S⟩:=aB5 (E:=C.E) (w:=w) (ρ:=ρ) hz;have hpos:=C.E.pos τ
 -- the zero row
 have Z:∃base:Array Value,base.size=((List.replicate len z).flatten).length/\(∀k (h:k<((List.replicate len z).flatten).length),Rel C.E w ρ (bF N ρ w) ((List.replicate len z).flatten)[k] (base.getD k undef))/\
   base=(Array.range (len*U.size τ)).map (fun k=>G.cells[k % G.cells.size]!):=by
  refine⟨_,by simp[L],fun k hk=>?_,rfl⟩;have hk':k<len*z.length:=by simpa using hk
  have hkm:k % z.length<z.length:=Nat.mod_lt _ XY;have e1:((List.replicate len z).flatten)[k]=z[k % z.length]:=by
   have:=aRZ z len k hk';rw[QL hk,QL hkm] at this;exact QW this
  have e2:((Array.range (len*U.size τ)).map (fun k=>G.cells[k % G.cells.size]!)).getD k undef=G.cells.getD (k % z.length) undef:=by
   have h1:k<len*U.size τ:=by rw[<- L];exact hk'
   have h2:k % z.length<G.cells.size:=XY;have h3:G.cells[k % z.length]! =G.cells[k % z.length]'h2:=getElem!_pos G.cells _ h2;have h4:G.cells[k % z.length]?=some G.cells[k % z.length]:=Array.getElem?_eq_getElem h2;simp[h1,hzsz,h3,h4]
  rw[e1,e2];exact S _ _ hkm
 obtain⟨base,hbs,hbr,hbe⟩:=Z;obtain⟨c',r,J,hc'r⟩:=aJ8 (look:=look) (place':=fun i=>some (i*U.size τ,U.size τ)) (fun x v hx hs=>j8 h V hx hs) (fun i q hq=>hq) f parts'.toList _ l base (by simpa using hpl) hp hl hbs hbr;obtain⟨O,hle,hxr⟩:=bBi len l xs (fun k=>c'.getD k undef) hxs hc'r;have hll:l.length=len*U.size τ:=by
  have:∀(ps:List (Nat×aC U)) (l0 l1:List (aC U)),nY look (fun i=>some (i*U.size τ,U.size τ)) l0 ps=some l1->l1.length=l0.length:=by
   intro ps
   induction ps with
   |nil=>intro l0 l1 h;simp only[nY,QQ] at h;rw[h]
   |cons p ps ih=>
    intro l0 l1 h;obtain⟨i,x⟩:=p;simp only[nY] at h;obtain⟨_,h⟩:=cM h;rw[ih _ _ h,aDd]
  rw[this _ _ _ hl];simp[L]
 refine⟨.slice (some ⟨w.heap.size,0,none⟩) len len,w.alloc (.cells c' (U.ety τ)),dU ρ d 0 (.slice (some ⟨w.heap.size,0,none⟩) len len),?_,?_,.osl d 0 _ (by simp[dU]) (fun a e=>by cases e)⟩
 ·have tA:¬len*i.size > 2^24:=by rw[I];simp;omega
  rw[I] at tA
  by_cases h0:len*U.size τ=0
  ·have hrow:(Array.range (len*U.size τ)).map (fun k=>(#[]:Array Value)[k % (#[]:Array Value).size]!)=base:=by
    rw[hbe,h0];simp
   simp only[Instr.buildSlice,QM,QR hu,QP,sizeOf,typeInfo,run_program,hi,JU,I,JK tA,JV h0,hrow,r,newRow,run_newObj];rfl
  ·rw[hbe] at r;simp only[Instr.buildSlice,QM,QR hu,QP,sizeOf,typeInfo,run_program,hi,JU,I,JK tA,JK h0,hzr,r,newRow,run_newObj];rfl
 ·refine h.newRow (fun ob ho=>by rw[hf] at ho;cases ho) (fun g u hr=>(h.j6 hf g u hr).elim) (World.grownBy_alloc w _ _) ⟨?_,.inr ⟨w.heap.size,len,c',by rw[O],h.below.size,heap_alloc_new w _,XY,?_,by rw[J,hll],?_⟩⟩ (fun b hb=>?_) (fun i hi k hk=>?_) (cs:=c'.toList)
  ·simp[J,hll,O]
  ·unfold maxLen;have:len*1<=len*U.size τ:=Nat.mul_le_mul_left _ hpos;omega
  ·rw[O];exact List.take_of_length_le (by simp;omega)
  ·simp only[blk,QQ] at hb;exact .inr XY
  ·have:=hxr i hi k hk;simpa using this
theorem bVQ {C:Cfg U} (h:RR C.E n N w0 ρ s a w) {look:Nat->Option (bK U)} (V:∀id ob,look id=some ob->s.objs id=some ob)
  {t:TypeId} {τ:U.τ} (hτ:oK C t=some τ) {z:List (aC U)} (hz:zeroCells C.P (U.ety τ)=some z) {len:Nat} (O:z.length=U.size τ) (hlen:len*U.size τ<=16777216)
  {f:List (Nat×aC U)} {parts':Array (Nat×Value)} (hpl:f.length=parts'.size)
  (hp:∀k (h:k<f.length) (h':k<parts'.toList.length),f[k].1=parts'.toList[k].1/\Rel C.E w ρ (bF N ρ w) f[k].2 parts'.toList[k].2)
  {l:List (aC U)} (hl:nY look (fun i=>some (i*U.size τ,U.size τ)) ((List.replicate len z).flatten) f=some l) {xs:List (U.T τ)} (hxs:aAW C.E τ len l=some xs):
  ∃v' w',(Instr.buildSlice t len parts').run C.P w=.ok v' w'/\RR C.E n N w0 ρ s a w'/\Rel C.E w' ρ (bF N ρ w') (.sl τ xs) v':=by
 obtain⟨hu,i,hi,L⟩:=aCA hτ;obtain⟨G,hzr,hzsz,S⟩:=aB5 (E:=C.E) (w:=w) (ρ:=ρ) hz;have hpos:=C.E.pos τ
 -- the zero row
 have Z:∃base:Array Value,base.size=((List.replicate len z).flatten).length/\(∀k (h:k<((List.replicate len z).flatten).length),Rel C.E w ρ (bF N ρ w) ((List.replicate len z).flatten)[k] (base.getD k undef))/\
   base=(Array.range (len*U.size τ)).map (fun k=>G.cells[k % G.cells.size]!):=by
  refine⟨_,by simp[O],fun k hk=>?_,rfl⟩;have hk':k<len*z.length:=by simpa using hk
  have hkm:k % z.length<z.length:=Nat.mod_lt _ XY;have e1:((List.replicate len z).flatten)[k]=z[k % z.length]:=by
   have:=aRZ z len k hk';rw[QL hk,QL hkm] at this;exact QW this
  have e2:((Array.range (len*U.size τ)).map (fun k=>G.cells[k % G.cells.size]!)).getD k undef=G.cells.getD (k % z.length) undef:=by
   have h1:k<len*U.size τ:=by rw[<- O];exact hk'
   have h2:k % z.length<G.cells.size:=XY;have h3:G.cells[k % z.length]! =G.cells[k % z.length]'h2:=getElem!_pos G.cells _ h2;have h4:G.cells[k % z.length]?=some G.cells[k % z.length]:=Array.getElem?_eq_getElem h2;simp[h1,hzsz,h3,h4]
  rw[e1,e2];exact S _ _ hkm
 obtain⟨base,hbs,hbr,hbe⟩:=Z;obtain⟨J,r,hc's,hc'r⟩:=aJ8 (look:=look) (place':=fun i=>some (i*U.size τ,U.size τ)) (fun x v hx hs=>j8 h V hx hs) (fun i q hq=>hq) f parts'.toList _ l base (by simpa using hpl) hp hl hbs hbr;obtain⟨hxl,hle,hxr⟩:=bBi len l xs (fun k=>J.getD k undef) hxs hc'r;have hll:l.length=len*U.size τ:=by
  have:∀(ps:List (Nat×aC U)) (l0 l1:List (aC U)),nY look (fun i=>some (i*U.size τ,U.size τ)) l0 ps=some l1->l1.length=l0.length:=by
   intro ps
   induction ps with
   |nil=>intro l0 l1 h;simp only[nY,QQ] at h;rw[h]
   |cons p ps ih=>
    intro l0 l1 h;obtain⟨i,x⟩:=p;simp only[nY] at h;obtain⟨_,h⟩:=cM h;rw[ih _ _ h,aDd]
  rw[this _ _ _ hl];simp[O]
 have I:Below w.heap.size w (w.alloc (.cells J (U.ety τ))):=(Below.refl _ _).alloc (JX _) _;refine⟨.slice (some ⟨w.heap.size,0,none⟩) len len,w.alloc (.cells J (U.ety τ)),?_,h.ext I,?_⟩
 ·have tA:¬len*i.size > 2^24:=by rw[L];simp;omega
  rw[L] at tA
  by_cases h0:len*U.size τ=0
  ·have hrow:(Array.range (len*U.size τ)).map (fun k=>(#[]:Array Value)[k % (#[]:Array Value).size]!)=base:=by
    rw[hbe,h0];simp
   simp only[Instr.buildSlice,QM,QR hu,QP,sizeOf,typeInfo,run_program,hi,JU,L,JK tA,JV h0,hrow,r,newRow,run_newObj];rfl
  ·rw[hbe] at r;simp only[Instr.buildSlice,QM,QR hu,QP,sizeOf,typeInfo,run_program,hi,JU,L,JK tA,JK h0,hzr,r,newRow,run_newObj];rfl
 ·have hst:∀b,bF N ρ w b->bF N ρ (w.alloc (.cells J (U.ety τ))) b/\(w.alloc (.cells J (U.ety τ))).heap[b]?=w.heap[b]?:=fun b ⟨q1,q2,q3⟩=>
   ⟨⟨JI q1 I.size,q2,q3⟩,I.block b q1⟩
  subst hxl;refine .sl τ xs w.heap.size 0 xs.length (fun k=>J.getD k undef) ⟨XU,h.aRw (JX _),fun id g u hr hbl=>?_⟩ (JX _) (fun k hk=>?_) (fun i hi k hk=>?_)
  ·have:=(h.own hr).2 _ hbl;omega
  ·rw[JW,cell_of_row (w.alloc (.cells J (U.ety τ))) w.heap.size k J (U.ety τ) (0,0) (heap_alloc_new w _)];have:k<J.size:=by rw[hc's,hll];exact hk
   simp[this]
  ·exact(hxr i hi k hk).mono hst (fun _ _ _ hr=>.inl hr)
theorem bN9 {C:Cfg U} (h:RR C.E n N w0 ρ s a w) {d:Nat} (hf:s.objs d=none)
  {t:TypeId} {τ:U.τ} (hτ:oK C t=some τ) {z:List (aC U)} (L:zeroCells C.P (U.ety τ)=some z) (hzl:z.length=U.size τ) {e:U.T τ} (he:C.E.dec τ z=some e)
  {i:TypeInfo} (hi:C.P.info? (U.ety τ)=some i) (hby:1<=i.bytes) {k k':IntKind} {c:Int} (h0:0<=c) (hb:c*(i.bytes:Int)<=140737488355328):
  ∃v' w' ρ',(Instr.makeSlice t (.int k c) (.int k' c)).run C.P w=.ok v' w'/\RR C.E n N w0 ρ' (s.obj d (.row τ 0 (List.replicate c.toNat e))) a w'/\Rel C.E w' ρ' (bF N ρ' w') (.osl d 0) v':=by
 obtain⟨hu,i',hi',J⟩:=aCA hτ;rw[hi] at hi';obtain rfl:=QW hi';have hpos:=C.E.pos τ;have hzz:∃r,i.zero=some r/\z=r.cells.toList.map ofConst:=by
  unfold zeroCells at L;simp only[hi] at L;cases I:i.zero with
  |none=>simp only[I] at L;cases L
  |some r=>
   simp only[I] at L;exact⟨r,rfl,(QW L).symm⟩
 obtain⟨r,I,Z⟩:=hzz;have V:r.cells.size=U.size τ:=by
  rw[<- hzl,Z];simp
 have hle:c<=c*(i.bytes:Int):=by
  have:=Int.mul_le_mul_of_nonneg_left (show (1:Int)<=i.bytes by omega) h0;omega
 have hrun:=run_make (P:=C.P) w t (U.ety τ) i r hu hi I k k' c c h0 (Int.le_refl _) (by rw[Int.mul_comm];omega) XY;have O:∀(st:Nat->Prop) j (G:j<z.length),Rel C.E w ρ st z[j] (r.cells.getD j undef):=by
  obtain⟨z2,_,h2,h3⟩:=aB5 (E:=C.E) (w:=w) (ρ:=ρ) L;intro st j G;subst Z;have hk':j<r.cells.size:=by simpa using G
  have e1:r.cells.getD j undef=r.cells.toList[j]'(by simpa using hk'):=by simp[hk']
  rw[e1];simp only[List.getElem_map];exact aM1 _
 have S:∀j,j<c.toNat*U.size τ->(madeCells r.cells (c.toNat*i.size)).getD j undef=r.cells.getD (j % U.size τ) undef:=by
  intro j G;have h2:j % U.size τ<r.cells.size:=by rw[V];exact Nat.mod_lt _ hpos
  have h3:r.cells[j % U.size τ]! =r.cells[j % U.size τ]'h2:=getElem!_pos r.cells _ h2;have h4:r.cells[j % U.size τ]?=some r.cells[j % U.size τ]:=Array.getElem?_eq_getElem h2;simp[madeCells,J,G,V,h3,h4]
 refine⟨_,_,dU ρ d 0 (.slice (some ⟨w.heap.size,0,none⟩) c.toNat c.toNat),hrun,?_,.osl d 0 _ (by simp[dU]) (fun a e=>by cases e)⟩;refine h.newRow (fun ob ho=>by rw[hf] at ho;cases ho) (fun g u hr=>(h.j6 hf g u hr).elim) (World.grownBy_alloc w _ _) ⟨?_,.inr ⟨w.heap.size,c.toNat,madeCells r.cells (c.toNat*i.size),by rw[KL],h.below.size,heap_alloc_new w _,XU,?_,?_,?_⟩⟩ (fun b hb=>?_) (fun j G q hq=>?_) (cs:=(madeCells r.cells (c.toNat*i.size)).toList)
 ·simp[madeCells,J]
 ·unfold maxLen;omega
 ·simp[madeCells,J]
 ·rw[KL];exact List.take_of_length_le (by simp[madeCells,J])
 ·simp only[blk,QQ] at hb;exact .inr XY
 ·rw[KL] at G;simp only[List.getElem_replicate] at hq ⊢;have hql:q<U.size τ:=by rw[C.E.enc_len] at hq;exact hq
  have hdr:=aM0 (E:=C.E) (w:=w) (ρ:=ρ) (st:=bF N ρ w) he (f:=fun j=>r.cells.getD j undef) (fun j G=>O _ j G);have hlt:j*U.size τ+q<c.toNat*U.size τ:=by
   have:(j+1)*U.size τ<=c.toNat*U.size τ:=JY _ G;rw[Nat.add_mul,Nat.one_mul] at this;omega
  have hmod:(j*U.size τ+q) % U.size τ=q:=by
   rw[Nat.mul_comm,Nat.mul_add_mod,Nat.mod_eq_of_lt hql]
  have:=S _ hlt;rw[hmod] at this;rw[nF,this];exact hdr q hq
end
end Go.Vm
namespace Go.Vm
open Go.RowKit
set_option linter.unusedVariables false
section
variable {U:eW} {n:Nat} {N:Nat->Prop} {w0:Fr} {w w':World} {ρ ρ':Own} {s:ASt U} {a:Act}
def cW:Own:=fun _=>none
def fB (N:Nat->Prop) (w:World) (b:Nat):Prop:=b<w.heap.size/\¬N b
def aAr (E:Enc U) (w:World) (N:Nat->Prop) (xs:List (aC U)) (args:Array Value):Prop:=
 args.size=xs.length/\∀k (h:k<xs.length),Rel E w cW (fB N w) xs[k] (args.getD k undef)
def mY (E:Enc U) (base:Nat) (N:Nat->Prop) (w:World) (r:aC U) (v:Value):Prop:=
 ∃ρ:Own,Rel E w ρ (bF N ρ w) (r.uK (fun k=>k)) v/\
  (∀k x,r.news[k]?=some x->gE E w ρ (bF N ρ w) base k x.obj)/\
  (∀nm g u,ρ nm=some (g,u)->∃x,r.news[nm.id]?=some x/\(x.1=false->∃k,nm=.ob k))/\
  ∀nm f g I u G b,ρ nm=some (g,u)->ρ f=some (I,G)->nm≠f->blk u=some b->blk G≠some b
def vI (C:Cfg U) (f:FuncId) (m:List (aC U)->bK U->Option (List Prop×aC U×bK U)) (w0:World):Prop:=
 (∀(G:Array Value) (w:World),(callFunc f G).run C.P w=.ok (.enter f G) w)/\
 ∀(st:Nat->Prop) (ρ:Own) (w:World) (G:Array Value) (J:Nat) (xs:List (aC U)) (ob I:bK U) (S:List Prop) (r:aC U),
  Below w0.heap.size w0 w->(∀b,st b->b<w.heap.size/\∀nm g u,ρ nm=some (g,u)->blk u≠some b)->
  (∀nm g u,ρ nm=some (g,u)->nm.id=J/\(ob.simple=true->nm=.ob J))->
  (∀nm L g V u O b,ρ nm=some (g,u)->ρ L=some (V,O)->nm≠L->blk u=some b->blk O≠some b)->
  gE C.E w ρ st w0.heap.size J ob->G.size=xs.length->(∀k (h:k<xs.length),Rel C.E w ρ st xs[k] (G.getD k undef))->
  ob.closed=true->m xs ob=some (S,r,I)->eQ S->I.closed=true->(r.nS||uJ J r I)=true->ownArg 0 xs=some (J,J)->
  Calls C.P f G w fun e w'=>∃v ρ',e=.returned v/\((r.nS=true->Rel C.E w' cW (fun _=>False) r v)/\(uJ J r I=true->Rel C.E w' ρ' (fun _=>False) r v))/\
   gE C.E w' ρ' (fun b=>(st b\/w.heap.size<=b\/∃nm g u,ρ nm=some (g,u)/\blk u=some b)/\b<w'.heap.size/\∀nm g u,ρ' nm=some (g,u)->blk u≠some b) w0.heap.size J I/\
   (∀nm g u,ρ' nm=some (g,u)->nm.id=J/\(I.simple=true->nm=.ob J))/\Chg (fun _=>False) (fun i=>i=J) w0.heap.size ρ ρ' w w'
def bWU (C:Cfg U):Prop:=∀f m,C.sum f=some m->(∀(u:Array Value) (w:World),(callFunc f u).run C.P w=.ok (.enter f u) w)/\
 ∀(N:Nat->Prop) (w:World) (u:Array Value) (xs:List (aC U)) (G:List Prop) (r:aC U),C.inv w->(∀b,N b->b<w.heap.size)->aAr C.E w N xs u->m xs=some (G,r)->eQ G->
  Calls C.P f u w fun e w'=>∃v,e=.returned v/\mY C.E w.heap.size N w' r v/\Below w.heap.size w w'
def bWV (C:Cfg U) (w0:World):Prop:=∀f m,C.sum f=some m->(∀(u:Array Value) (w:World),(callFunc f u).run C.P w=.ok (.enter f u) w)/\
 ∀(N:Nat->Prop) (w:World) (u:Array Value) (xs:List (aC U)) (G:List Prop) (r:aC U),Below w0.heap.size w0 w->(∀b,N b->b<w.heap.size)->aAr C.E w N xs u->m xs=some (G,r)->eQ G->
  Calls C.P f u w fun e w'=>∃v,e=.returned v/\mY C.E w.heap.size N w' r v/\Below w.heap.size w w'
def aW (C:Cfg U):Prop:=bWU C/\∀f m,C.eff f=some m->∀w0:World,C.inv w0->vI C f m w0
def jC (C:Cfg U) (w0:World):Prop:=bWV C w0/\∀f m,C.eff f=some m->vI C f m w0
theorem aW.at {C:Cfg U} (h:aW C) {w0:World} (hi:C.inv w0):jC C w0:=
 ⟨fun f m hm=>⟨(h.1 f m hm).1,fun N w u xs G r hb=>(h.1 f m hm).2 N w u xs G r (C.invOK w0 w hi hb)⟩,fun f m hm=>h.2 f m hm w0 hi⟩
theorem Rel.pure {E:Enc U} {st st':Nat->Prop} {x:aC U} {v:Value} (hx:x.pure=true) (h:Rel E w ρ st x v):Rel E w' ρ' st' x v:=by
 cases h with
 |raw v=>exact .raw v
 |int k n=>exact .int k n
 |bool b=>exact .bool b
 |str s=>exact .str s
 |nils=>exact .nils
 |ifc0=>exact .ifc0
 |ifc1 t v=>exact .ifc1 t v
 |_=>simp[aC.pure] at hx
theorem aC0 (g:Nat->aC U->aC U):∀(l:List (aC U)) (k:Nat),(jN g k l).length=l.length:=by
 intro l
 induction l with
 |nil=>intro k;rfl
 |cons c l f=>intro k;simp[jN,f]
theorem aWA (g:Nat->aC U->aC U):∀(l:List (aC U)) (k i:Nat) (h:i<(jN g k l).length) (f:i<l.length),(jN g k l)[i]=g (k+((l.take i).flatMap iF).length) l[i]:=by
 intro l
 induction l with
 |nil=>intro k i h f;exact absurd f XU
 |cons c l r=>
  intro k i h f;cases i with
  |zero=>simp[jN]
  |succ i=>
   simp only[jN,List.getElem_cons_succ,List.take_succ_cons,List.flatMap_cons,QH];rw[r (k+(iF c).length) i (by simpa[jN] using h) (by simpa using f),JP]
theorem aCZ (g:Nat->aC U->aC U):∀(l:List (aC U)) (k:Nat),(jG g k l).length=l.length:=by
 intro l
 induction l with
 |nil=>intro k;rfl
 |cons c l f=>intro k;simp[jG,f]
theorem aVz (g:Nat->aC U->aC U):∀(l:List (aC U)) (k i:Nat) (h:i<(jG g k l).length) (f:i<l.length),(jG g k l)[i]=mJ g (k+((l.take i).flatMap gX).length) l[i]:=by
 intro l
 induction l with
 |nil=>intro k i h f;exact absurd f XU
 |cons c l r=>
  intro k i h f;cases i with
  |zero=>simp[jG]
  |succ i=>
   simp only[jG,List.getElem_cons_succ,List.take_succ_cons,List.flatMap_cons,QH];rw[r (k+(gX c).length) i (by simpa[jG] using h) (by simpa using f),JP]
theorem bBJ {α β:Type} (f:α->List β) (l:List α) (i:Nat) (h:i<l.length) (j:Nat) (y:β) (hy:(f l[i])[j]?=some y):(l.flatMap f)[((l.take i).flatMap f).length+j]?=some y:=by
 have e:l=l.take i++(l[i]::l.drop (i+1)):=by rw[<- List.drop_eq_getElem_cons h,List.take_append_drop]
 have u:l.flatMap f=(l.take i).flatMap f++(f l[i]++(l.drop (i+1)).flatMap f):=by
  exact(congrArg (List.flatMap f) e).trans (by rw[List.flatMap_append,List.flatMap_cons])
 rw[u,List.getElem?_append_right XY,Nat.add_sub_cancel_left];have r:j<(f l[i]).length:=(QA.1 hy).1;rw[KN r];exact hy
def aPv (p:aC U->Prop):aC U->Prop
 | .tup l=>∀c∈l,(match c with | .agg m=>∀d∈m,p d|d=>p d)
 | .agg m=>∀d∈m,p d
 |d=>p d
theorem aER {E:Enc U} {ρ ρ':Own} {st st':Nat->Prop} {g V:Nat->aC U->aC U} {p:aC U->Prop} {r:aC U} {v:Value}
  (L:aPv p r)
  (hg:∀k c u,p c->(∀x,iF c=[x]->r.news[k]?=some x)->Rel E w ρ st (g k c) u->Rel E w' ρ' st' (V k c) u) (h:Rel E w ρ st (aIu g r) v):Rel E w' ρ' st' (aIu V r) v:=by
 have agg:∀(k:Nat) (m:List (aC U)) (v:Value),(∀d∈m,p d)->(∀j y,(m.flatMap iF)[j]?=some y->r.news[k+j]?=some y)->Rel E w ρ st (.agg (jN g k m)) v->Rel E w' ρ' st' (.agg (jN V k m)) v:=by
  intro k m v hpm O h;cases h with
  |agg _ Z I hl=>
   refine .agg _ Z (by rw[I,aC0,aC0]) (fun i hi=>?_);have f:i<m.length:=by rw[aC0] at hi;exact hi
   have G:=hl i (by rw[aC0];exact f);rw[aWA g m k i (by rw[aC0];exact f) f] at G;rw[aWA V m k i hi f];refine hg _ _ _ (hpm _ (QN f)) (fun x S=>?_) G;refine O _ _ ?_;have:=bBJ iF m i f 0 x (by rw[S];rfl);rw[JL] at this;exact this
 cases r with
 |tup l=>
  cases h with
  |tup _ Z I hl=>
   refine .tup _ Z (by rw[I,aCZ,aCZ]) (fun i hi=>?_);have f:i<l.length:=by rw[aCZ] at hi;exact hi
   have G:=hl i (by rw[aCZ];exact f);rw[aVz g l 0 i (by rw[aCZ];exact f) f,JW] at G;rw[aVz V l 0 i hi f,JW];have J:=L _ (QN f);have O:∀j y,(gX l[i])[j]?=some y->(aC.tup l).news[((l.take i).flatMap gX).length+j]?=some y:=fun j y hy=>bBJ gX l i f j y hy
   generalize l[i]=c at G J O ⊢;cases c with
   |agg m=>exact agg _ m _ J (fun j y hy=>O j y hy) G
   |_=>
    refine hg _ _ _ J (fun x S=>?_) G;have:=O 0 x (by simp only[gX];rw[S];rfl);rwa [JL] at this
 |agg m=>
  exact agg 0 m v L (fun j y hy=>by rw[JW];exact hy) h
 |_=>
  refine hg 0 _ v L (fun x S=>?_) h;simp only[aC.news,gX];rw[S];rfl
theorem aQy {E:Enc U} {st:Nat->Prop}:∀(d:Nat) (x:aC U) (v:Value),stays d x=true->Rel E w ρ st x v->Rel E w ρ' st x v:=by
 intro d
 induction d with
 |zero=>
  intro x v r h;cases x<;>first|exact h.flat rfl| (simp[stays] at r)
 |succ d I=>
  intro x v r h;cases x with
  |ref l off=>
   simp only[stays,JG] at r;cases h with
   |ref _ _ b o f hb O G=>exact .ref l off b o f hb O (fun k u=>I _ _ (r _ (QN u)) (G k u))
  |fn f l=>
   simp only[stays,JG] at r;cases h with
   |fn _ _ J L G=>exact .fn f l J L (fun k u=>I _ _ (r _ (QN u)) (G k u))
  |_=>first|exact h.flat rfl| (simp[stays] at r)
theorem bCY {f:aC U->Option (aC U×Bool)}:∀(l ys:List (aC U)) (b:Bool),aFy f l=some (ys,b)->ys.length=l.length/\∀i (h:i<l.length) (Z:i<ys.length),∃r,f l[i]=some (ys[i],r)/\(b=false->r=false):=by
 intro l
 induction l with
 |nil=>
  intro ys b h;cases h;exact⟨rfl,fun i h=>absurd h XU⟩
 |cons v l I=>
  intro ys b h;simp only[aFy] at h;split at h
  ·rename_i x V xs bs hx u;cases h;obtain⟨S,O⟩:=I _ _ u;refine⟨by simp[S],fun i hi G=>?_⟩;cases i with
   |zero=>exact⟨V,hx,fun hb=>by simp only[QC] at hb;exact hb.1⟩
   |succ i=>
    obtain⟨r,L,J⟩:=O i (by simpa using hi) (by simpa using G);exact⟨r,L,fun hb=>by simp only[QC] at hb;exact J hb.2⟩
  ·cases h
theorem bEi {f:TypeId->aC U->Option (aC U×Bool)}:∀(r:List TypeId) (l ys:List (aC U)) (b:Bool),aGH f r l=some (ys,b)->ys.length=l.length/\∀i (h:i<l.length) (h':i<ys.length),∃t u,f t l[i]=some (ys[i],u)/\(b=false->u=false):=by
 intro r
 induction r with
 |nil=>
  intro l ys b h;cases l with
  |nil=>
   cases h;exact⟨rfl,fun i h=>absurd h XU⟩
  |cons _ _=>cases h
 |cons t r J=>
  intro l ys b h;cases l with
  |nil=>cases h
  |cons v l=>
   simp only[aGH] at h;split at h
   ·rename_i x Z xs bs hx G;cases h;obtain⟨V,S⟩:=J _ _ _ G;refine⟨by simp[V],fun i hi I=>?_⟩;cases i with
    |zero=>exact⟨t,Z,hx,fun hb=>by simp only[QC] at hb;exact hb.1⟩
    |succ i=>
     obtain⟨t',u,O,L⟩:=S i (by simpa using hi) (by simpa using I);exact⟨t',u,O,fun hb=>by simp only[QC] at hb;exact L hb.2⟩
   ·cases h
theorem bCF {C:Cfg U} (h:RR C.E n N w0 ρ s a w) {look:Nat->Option (bK U)} (I:∀id ob,look id=some ob->s.objs id=some ob):∀(d:Nat) (ty:TypeId)
  (x y:aC U) (own:Bool) (v:Value),Rel C.E w ρ (bF N ρ w) x v->byC C look d ty x=some (y,own)->
  Rel C.E w cW (fB N w) y v/\(own=false->Rel C.E w cW (bF N ρ w) y v):=by
 have weak:∀{y:aC U} {v:Value},Rel C.E w cW (bF N ρ w) y v->Rel C.E w cW (fB N w) y v:=fun h=>h.mono (fun b hb=>⟨⟨hb.1,hb.2.1⟩,rfl⟩) (fun _ _ _ hr=>by cases hr)
 have L:∀{nm:Name} {g:Nat} {u:Value} {b:Nat},ρ nm=some (g,u)->blk u=some b->fB N w b:=fun hu hb=>⟨((h.own hu).2 _ hb).2,h.aEG hu hb⟩
 have J:∀{nm:Name} {g:Nat} {u:Value} {t:U.τ} {xs:List (U.T t)},ρ nm=some (g,u)->aCy C.E w ρ (bF N ρ w) t xs u->Rel C.E w cW (fB N w) (.sl t xs) u:=fun {nm g u t xs} hr h3=>by
  rcases h3 with ⟨⟨ad,rfl⟩,rfl⟩|⟨b,o,cap,f,rfl,hcap,hc,hl'⟩
  ·exact .slE t ad
  ·refine .sl t xs b o cap f (L hr rfl) hcap hc (fun i hi k G=>?_);have:=hl' i hi k G;exact(this.flat (ρ':=cW) (C.E.enc_flat t _ _ (QN G)).1).mono (fun b hb=>⟨⟨hb.1,hb.2.1⟩,rfl⟩) (fun _ _ _ hr=>by cases hr)
 intro d
 induction d with
 |zero=>intro ty x y own v hx hb;cases hb
 |succ d ih=>
  intro ty x y own v hx hb;simp only[byC] at hb;split at hb
  ·split at hb
   ·rename_i id g _ t g' xs O;obtain⟨cQ,dE⟩:=cM hb;clear hb;simp only[QQ,QK] at dE;obtain⟨rfl,rfl⟩:=dE;obtain rfl:=QZ cQ;refine⟨?_,fun e=>by cases e⟩;obtain⟨u,cs,S,hp,h2,h3,_⟩:=h.aDf (I _ _ O);have hu:u=v:=by
     cases hx with
     |osl _ _ u' r hp'=>
      rw[S] at r;simp only[QQ,QK,true_and] at r;exact r
     |oslOld _ _ g' u' v r hg=>
      rw[S] at r;simp only[QQ,QK] at r;omega
    subst hu;exact J S h3
   ·rename_i id g _ t g' gm xs O;obtain⟨cQ,dE⟩:=cM hb;clear hb;simp only[QQ,QK] at dE;obtain⟨rfl,rfl⟩:=dE;obtain rfl:=QZ cQ;refine⟨?_,fun e=>by cases e⟩;obtain⟨u,cs,S,hp,h2,hs,hno,h3⟩:=h.objs _ _ (I _ _ O);have hu:u=v:=by
     cases hx with
     |osl _ _ u' r hp'=>
      rw[S] at r;simp only[QQ,QK,true_and] at r;exact r
     |oslOld _ _ g' u' v r hg=>
      rw[S] at r;simp only[QQ,QK] at r;omega
    subst hu;have hel:∀i (hi:i<xs.length) k (G:k<(C.E.enc t xs[i]).length),Rel C.E w cW (fB N w) (C.E.enc t xs[i])[k] (cs.getD (i*U.size t+k) undef):=fun i hi k G=>by
     obtain⟨t1,ys,v1,ds,V,q2,q3,q4,q5,q6⟩:=h3 i hi;have mS:k=0:=by
      rw[C.E.enc_len,hs] at G;omega
     subst mS;have e1:(C.E.enc t xs[i])[0]=.sl t1 ys:=by simp only[V];rfl
     rw[e1,hs,Nat.mul_one,JL,q3];exact J q2 (aAU q5 q6)
    rcases aAU h2 (E:=C.E) (st:=fB N w) (ρ:=cW) hel with ⟨⟨ad,rfl⟩,rfl⟩|⟨b,o,cap,f,rfl,hcap,hc,hl'⟩
    ·exact .slE t ad
    ·exact .sl t xs b o cap f (L S rfl) hcap hc hl'
   ·cases hb
  ·split at hb
   ·rename_i id i g _ t1 ys hm;simp only[QQ,QK] at hb;obtain⟨rfl,rfl⟩:=hb;refine⟨?_,fun e=>by cases e⟩;have hms:=aCY h I hm;cases hx with
    |mslOld _ _ _ g' u' v r hg=>
     have:=(hms _ _ r).1;omega
    |msl _ _ _ u r=>
     obtain⟨_,ds,hp,h2,h3⟩:=hms _ _ r;exact J r (aAU h2 h3)
   ·cases hb
  ·split at hb
   ·simp only[QQ,QK] at hb;obtain⟨rfl,rfl⟩:=hb;cases hx;exact⟨.lJ _,fun _=>.lJ _⟩
   ·cases hb
  ·split at hb
   ·rename_i id off _ l O;split at hb
    ·rename_i ys bs Z;cases hb;obtain⟨e1,e2⟩:=bCY _ _ _ Z;refine⟨?_,fun e=>by cases e⟩;obtain⟨b,c,ty',S,h2,h3,h4,h5⟩:=h.objs _ _ (I _ _ O);cases hx with
     |ptr _ _ b' hb'=>
      rw[S] at hb';simp only[QQ,QK,true_and,Value.pointer.injEq,KR,and_true] at hb';subst hb';have:=Rel.ref (E:=C.E) (w:=w) (ρ:=cW) (st:=fB N w) ys off b 0 (fun k=>c.getD k undef) (L S rfl) (fun k G=>by
       rw[JW,cell_of_row w b k c ty' (0,0) h3];have:k<c.size:=XY;simp[this]) (fun k G=>by
        have hk':k<l.length:=XY;obtain⟨bi,V,_⟩:=e2 k hk' G;exact(ih _ _ _ _ _ (h5 k hk') V).1)
      simpa using this
    ·cases hb
   ·cases hb
  ·split at hb
   ·rename_i f l _ ys bs Z;cases hb;obtain⟨e1,e2⟩:=bCY _ _ _ Z;cases hx with
    |fn _ _ vs hn O=>
     refine⟨.fn f ys vs (by rw[hn,e1]) (fun k G=>?_),fun ho=>.fn f ys vs (by rw[hn,e1]) (fun k G=>?_)⟩
     ·obtain⟨bi,V,_⟩:=e2 k XY G;exact(ih _ _ _ _ _ (O k XY) V).1
     ·obtain⟨bi,V,q2⟩:=e2 k XY G;exact(ih _ _ _ _ _ (O k XY) V).2 (q2 ho)
   ·cases hb
  ·rename_i l;split at hb
   ·rename_i cQ;simp only[QQ,QK] at hb;obtain⟨rfl,rfl⟩:=hb;have:Rel C.E w cW (bF N ρ w) (.agg l) v:=by
     cases hx with
     |agg _ vs hn O=>
      refine .agg l vs hn (fun k G=>?_);have S:=JG.1 cQ _ (QN G);have hfl:l[k].flat=true:=by
       generalize l[k]=c at S;cases c<;>first|exact S|rfl
      exact(O k G).flat hfl
    exact⟨weak this,fun _=>this⟩
   ·split at hb
    ·rename_i ys bs Z;cases hb;obtain⟨e1,e2⟩:=bEi _ _ _ _ Z;cases hx with
     |agg _ vs hn O=>
      refine⟨.agg ys vs (by rw[hn,e1]) (fun k G=>?_),fun ho=>.agg ys vs (by rw[hn,e1]) (fun k G=>?_)⟩
      ·obtain⟨t,bi,V,_⟩:=e2 k XY G;exact(ih _ _ _ _ _ (O k XY) V).1
      ·obtain⟨t,bi,V,q2⟩:=e2 k XY G;exact(ih _ _ _ _ _ (O k XY) V).2 (q2 ho)
    ·cases hb
  all_goals first
   | (simp only[QQ,QK] at hb
      obtain⟨rfl,rfl⟩:=hb;have:=hx.flat (ρ':=cW) rfl;exact⟨weak this,fun _=>this⟩)
   | (cases hb;done)
   |skip
  ·obtain⟨cQ,dE⟩:=cM hb;clear hb;simp only[QQ,QK] at dE;obtain⟨rfl,rfl⟩:=dE;have:=aQy (ρ':=cW) 4 _ _ cQ hx;exact⟨weak this,fun _=>this⟩
theorem bCR {C:Cfg U} (h:RR C.E n N w0 ρ s a w) {look:Nat->Option (bK U)} (r:∀id ob,look id=some ob->s.objs id=some ob):
  ∀(u:List TypeId) (xs ys:List (aC U)) (own:Bool) (f:List Value),f.length=xs.length->(∀k (h:k<xs.length),Rel C.E w ρ (bF N ρ w) xs[k] (f.getD k undef))->yZ C look u xs=some (ys,own)->
   ys.length=xs.length/\(∀k (h:k<ys.length),Rel C.E w cW (fB N w) ys[k] (f.getD k undef))/\(own=false->∀k (h:k<ys.length),Rel C.E w cW (bF N ρ w) ys[k] (f.getD k undef)):=by
 intro u
 induction u with
 |nil=>
  intro xs ys own f J I ho;cases xs with
  |nil=>
   simp only[yZ,QQ,QK] at ho;obtain⟨rfl,rfl⟩:=ho;exact⟨rfl,fun k h=>absurd h XU,fun _ k h=>absurd h XU⟩
  |cons x xs=>simp[yZ] at ho
 |cons t u V=>
  intro xs ys own f J I ho;cases xs with
  |nil=>simp[yZ] at ho
  |cons x xs=>
   cases f with
   |nil=>simp at J
   |cons v f=>
    simp only[yZ] at ho;split at ho
    ·rename_i y b L bs hb O;simp only[QQ,QK] at ho;obtain⟨rfl,rfl⟩:=ho;have S:=I 0 XU;simp only[KV,List.getD_cons_zero] at S;obtain⟨h1,h2⟩:=bCF h r 5 t x y b v S hb;obtain⟨h3,h4,Z⟩:=V xs L bs f (by simpa using J) (fun k G=>I (k+1) (by simp;omega)) O;refine⟨by simp[h3],fun k G=>?_,fun ho k G=>?_⟩
     ·cases k with
      |zero=>simpa using h1
      |succ k=>exact h4 k (by simpa using G)
     ·simp only[QC] at ho;cases k with
      |zero=>simpa using h2 ho.1
      |succ k=>exact Z ho.2 k (by simpa using G)
    ·cases ho
theorem bCS {C:Cfg U} (h:RR C.E n N w0 ρ s a w) {look:Nat->Option (bK U)} (r:∀id ob,look id=some ob->s.objs id=some ob) (m:List (aC U)->Option (List Prop×aC U))
  (L:List TypeId) (xs ys:List (aC U)) (own:Bool) (f:List Value) (S:f.length=xs.length) (O:∀k (h:k<xs.length),Rel C.E w ρ (bF N ρ w) xs[k] (f.getD k undef)) (ho:aPf C look m L xs=some (ys,own)):
   ys.length=xs.length/\(∀k (h:k<ys.length),Rel C.E w cW (fB N w) ys[k] (f.getD k undef))/\(own=false->∀k (h:k<ys.length),Rel C.E w cW (bF N ρ w) ys[k] (f.getD k undef)):=by
 unfold aPf at ho;cases hb:(xs.all aRv&&(m xs).isSome) with
 |false=>
  rw[hb,QJ] at ho;exact bCR h r L xs ys own f S O ho
 |true=>
  rw[hb,QX] at ho;simp only[QQ,QK] at ho;obtain⟨rfl,rfl⟩:=ho;rw[QU] at hb;have G:∀(st:Nat->Prop) k (h:k<xs.length),Rel C.E w cW st xs[k] (f.getD k undef):=fun st k u=>by
   have J:=JG.1 hb.1 _ (QN u);have I:=O k u
   revert J I
   generalize xs[k]=x;generalize f.getD k undef=v;intro J I;cases x<;>first
    | (cases J;done)
    | (cases I;exact .nils)
    | (cases I;exact .int _ _)
  exact⟨rfl,fun k u=>G _ k u,fun _ k u=>G _ k u⟩
def Name.down (base:Nat):Name->Name
 | .ob id=>.ob (id-base)
 | .mem id i=>.mem (id-base) i
theorem Name.bTK (base:Nat) (nm:Name):(nm.down base).id=nm.id-base:=by cases nm<;>rfl
theorem Name.bTJ {base:Nat} {nm f:Name} (h:base<=nm.id) (r:base<=f.id) (e:nm.down base=f.down base):nm=f:=by
 cases nm with
 |ob i=>
  cases f with
  |ob j=>
   have:=Name.ob.inj e;have G:base<=i:=h;have u:base<=j:=r;rw[show i=j by omega]
  |mem j k=>cases e
 |mem i l=>
  cases f with
  |ob j=>cases e
  |mem j k=>
   obtain⟨e1,I⟩:=Name.mem.inj e;have G:base<=i:=h;have u:base<=j:=r;rw[show i=j by omega,I]
def lW (ρ f:Own) (base m:Nat):Own:=fun nm=>if base<=nm.id/\nm.id<base+m then f (nm.down base) else ρ nm
theorem bJc:∀(f:List (eA U)) (s:ASt U) (b:Nat),(qM s b f).tmps=s.tmps:=by
 intro f
 induction f with
 |nil=>intro s b;rfl
 |cons r f u=>
  intro s b;simp only[qM];rw[u];rfl
theorem aMa:∀(f:List (eA U)) (s:ASt U) (b k:Nat) (x:eA U),f[k]?=some x->(qM s b f).objs (b+k)=some x.obj:=by
 have out:∀(f:List (eA U)) (s:ASt U) (b id:Nat),id<b->(qM s b f).objs id=s.objs id:=by
  intro f
  induction f with
  |nil=>intro s b id _;rfl
  |cons r f u=>
   intro s b id h;simp only[qM];rw[u _ _ _ XY];show cond (Nat.beq id b) _ (s.objs id)=_;rw[iX XY];rfl
 intro f
 induction f with
 |nil=>intro s b k x h;cases h
 |cons r f u=>
  intro s b k x h;simp only[qM];cases k with
  |zero=>
   simp only[List.getElem?_cons_zero,QQ] at h;cases h;rw[out _ _ _ _ XY];show cond (Nat.beq (b+0) b) _ _=_;simp
  |succ k=>
   have:=u (s.obj b r.obj) (b+1) k x (by simpa using h);rw[show b+(k+1)=b+1+k by omega];exact this
theorem bJd:∀(f:List (eA U)) (s:ASt U) (b id:Nat),¬(b<=id/\id<b+f.length)->(qM s b f).objs id=s.objs id:=by
 intro f
 induction f with
 |nil=>intro s b id _;rfl
 |cons r f u=>
  intro s b id h;simp only[qM];simp only[QT] at h;rw[u _ _ _ XY];show cond (Nat.beq id b) _ (s.objs id)=_;rw[iX XY];rfl
theorem eA.aNB (x:eA U) (h:x.obj.simple=true):x.1=false:=by
 obtain⟨d,t,xs⟩:=x;cases d with
 |false=>rfl
 |true=>cases h
theorem gE.join {E:Enc U} {w w':World} {O ρ':Own} {st st':Nat->Prop} {base f k k':Nat} {x:eA U} (h:gE E w O st base k x.obj) (hb:f<=base) (hw:∀b,base<=b->w'.heap[b]?=w.heap[b]?)
  (L:ρ' (.ob k')=O (.ob k)) (G:∀i,ρ' (.mem k' i)=O (.mem k i))
  (r:∀(t:U.τ) (z:U.T t) (c:aC U) (v:Value),(x.1=false->t=x.2.1)->(x.1=true->∃y ys,E.enc x.2.1 y=[.sl t ys])->c∈E.enc t z->Rel E w O st c v->Rel E w' ρ' st' c v):gE E w' ρ' st' f k' x.obj:=by
 have row:∀{u:Value} {e:TypeId} {m n:Nat} {I:List Value},w.ownsRow base e m u n I->w'.ownsRow f e m u n I:=fun h2=>by
  refine⟨h2.1,?_⟩;rcases h2.2 with hn|⟨gb,cap,cur,V,S,Z,rest⟩
  ·exact .inl hn
  ·exact .inr ⟨gb,cap,cur,V,KU hb S,by rw[hw gb S];exact Z,rest⟩
 obtain⟨d,t,xs⟩:=x;cases d with
 |false=>
  obtain⟨u,I,q1,q2,q3,q4⟩:=h;exact⟨u,I,by rw[L];exact q1,q2,row q3,fun i hi k J=>r t _ _ _ (fun _=>rfl) (fun e=>by cases e) (QN J) (q4 i hi k J)⟩
 |true=>
  obtain⟨u,I,q1,q2,q3,q4,q5,q6⟩:=h;refine⟨u,I,by rw[L];exact q1,q2,row q3,q4,fun j hj=>by rw[G];exact q5 j hj,fun j hj=>?_⟩;obtain⟨t1,ys,v,ds,V,S,Z,r4,r5,r6⟩:=q6 j hj;exact⟨t1,ys,v,ds,V,by rw[G];exact S,Z,r4,row r5,fun i hi k J=>r t1 _ _ _ (fun e=>by cases e) (fun _=>⟨_,ys,V⟩) (QN J) (r6 i hi k J)⟩
theorem RR.join {E:Enc U} (h:RR E n N w0 ρ s a w) (hb:Below w.heap.size w w') {base:Nat} {f:List (eA U)} {r:Own} {Nr:Nat->Prop}
  (hfree:∀k,k<f.length->s.objs (base+k)=none)
  (V:∀(k:Nat) (x:eA U),f[k]?=some x->gE E w' r (bF Nr r w') w.heap.size k x.obj) (Z:∀nm g u,r nm=some (g,u)->∃x,f[nm.id]?=some x/\(x.1=false->∃k,nm=.ob k))
  (hsep:∀nm O g g' u u' b,r nm=some (g,u)->r O=some (g',u')->nm≠O->blk u=some b->blk u'≠some b)
  (hconv:∀(k:Nat) (x:eA U) (t:U.τ) (z:U.T t) (c:aC U) (v:Value),f[k]?=some x->(x.1=false->t=x.2.1)->(x.1=true->∃y ys,E.enc x.2.1 y=[.sl t ys])->c∈E.enc t z->Rel E w' r (bF Nr r w') c v->Rel E w' (lW ρ r base f.length) (bF N (lW ρ r base f.length) w') c v):
  RR E n N w0 (lW ρ r base f.length) (qM s base f) a w':=by
 have hblk:∀nm g u b,r nm=some (g,u)->blk u=some b->w.heap.size<=b/\b<w'.heap.size:=fun nm g u b hk S=>by
  obtain⟨x,hx,hxo⟩:=Z _ _ _ hk;have hro:=V _ _ hx;cases nm with
  |ob k=>
   obtain⟨g',u',q1,_,q2⟩:=hro.val;have q1':r (.ob k)=some (g',u'):=q1;rw[hk] at q1';simp only[QQ,QK] at q1';obtain⟨rfl,rfl⟩:=q1';exact q2 b S
  |mem k i=>
   have hns:x.obj.simple=false:=by
    cases hq:x.obj.simple with
    |false=>rfl
    |true=>
     obtain⟨_,e⟩:=hxo (x.aNB hq);cases e
   exact(hro.aQr hns hk).2 b S
 have I:∀nm:Name,base<=nm.id/\nm.id<base+f.length->lW ρ r base f.length nm=r (nm.down base):=fun nm hi=>by unfold lW;rw[JV hi]
 have hout:∀nm:Name,¬(base<=nm.id/\nm.id<base+f.length)->lW ρ r base f.length nm=ρ nm:=fun nm hi=>by unfold lW;rw[JK hi]
 have hnone:∀nm:Name,base<=nm.id/\nm.id<base+f.length->ρ nm=none:=fun nm hi=>by
  cases G:ρ nm with
  |none=>rfl
  |some p=>
   obtain⟨ob,hob,_⟩:=h.dom _ p.1 p.2 G;have:=hfree (nm.id-base) XY;rw[show base+(nm.id-base)=nm.id by omega,hob] at this;cases this
 have c:Chg N (fun id=>base<=id/\id<base+f.length) w0.heap.size ρ (lW ρ r base f.length) w w':=by
  refine⟨fun nm hn=>hout nm hn,fun nm g u J G=>(by rw[hnone nm J] at G;cases G),hb.mono h.below.size,fun b L _=>hb.block b L,fun nm g u b J G S=>?_,fun nm O g g' u u' b J hd' G hr' hne cQ=>?_⟩
  ·rw[I nm J] at G;exact .inr (hblk _ _ _ _ G S).1
  ·rw[I nm J] at G;rw[I O hd'] at hr';exact hsep _ _ _ _ _ _ b G hr' (fun e=>hne (Name.bTJ J.1 hd'.1 e)) cQ
 refine h.change c (bJc _ _ _) (fun id hn=>bJd f s base id hn) (fun nm g u J G=>?_) (fun id ob J ho=>?_) (fun id ob J _=>by
  have L:id-base<f.length:=XY;have:=aMa f s base (id-base) _ (QL L);rw[show base+(id-base)=id by omega] at this;exact⟨_,this⟩)
 ·rw[I nm J] at G;obtain⟨x,hx,hxo⟩:=Z _ _ _ G;rw[Name.bTK] at hx;have:=aMa f s base (nm.id-base) _ hx;rw[show base+(nm.id-base)=nm.id by omega] at this;refine⟨_,this,fun hs=>?_⟩;obtain⟨k,e⟩:=hxo (x.aNB hs);cases nm with
  |ob i=>exact⟨i,rfl⟩
  |mem i j=>cases e
 ·have L:id-base<f.length:=XY;have hrk:f[id-base]?=some f[id-base]:=QL L;have:=aMa f s base (id-base) _ hrk;rw[show base+(id-base)=id by omega,ho] at this;cases this;refine(V _ _ hrk).join h.below.size (fun _ _=>rfl) ?_ (fun i=>?_) (fun t z c v h1 h2 h3 h4=>hconv _ _ t z c v hrk h1 h2 h3 h4)
  ·exact I (.ob id) J
  ·exact I (.mem id i) J
theorem aMz {r:aC U} (h:r.aHy=true):aPv (fun c=>ok1 c=true) r:=by
 cases r with
 |tup l=>
  intro c u;have:=JG.1 h c u;cases c with
  |agg m=>exact fun d f=>JG.1 this d f
  |_=>exact this
 |agg m=>exact fun d f=>JG.1 h d f
 |_=>exact h
theorem bBE {E:Enc U} {r:aC U} (h:r.fresh E=true):aPv (fun c=>fr1 E c=true) r:=by
 cases r with
 |tup l=>
  intro c u;have:=JG.1 h c u;cases c with
  |agg m=>exact fun d f=>JG.1 this d f
  |_=>exact this
 |agg m=>exact fun d f=>JG.1 h d f
 |_=>exact h
theorem bBD {E:Enc U} {r:aC U} (h:r.fresh E=true):∀(k:Nat) (x:eA U),r.news[k]?=some x->(x.1=false->E.plain x.2.1=true)/\(x.1=true->∃f,E.inner x.2.1=some f/\E.plain f=true):=by
 have one:∀(c:aC U),fr1 E c=true->∀y∈iF c,(y.1=false->E.plain y.2.1=true)/\(y.1=true->∃f,E.inner y.2.1=some f/\E.plain f=true):=by
  intro c u y hy;cases c with
  |new t xs=>
   simp only[iF,JB] at hy;subst hy;exact⟨fun _=>u,fun e=>by cases e⟩
  |newd t xs=>
   simp only[iF,JB] at hy;subst hy;refine⟨(fun e=>by cases e),fun _=>?_⟩;simp only[fr1] at u;split at u
   ·rename_i f J;exact⟨f,J,u⟩
   ·cases u
  |_=>simp[iF] at hy
 have G:∀(c:aC U),fr2 E c=true->∀y∈gX c,(y.1=false->E.plain y.2.1=true)/\(y.1=true->∃f,E.inner y.2.1=some f/\E.plain f=true):=by
  intro c u y hy;cases c with
  |agg m=>
   simp only[gX,List.mem_flatMap] at hy;obtain⟨d,I,hy⟩:=hy;exact one d (JG.1 u d I) y hy
  |_=>
   simp only[gX] at hy;simp only[fr2] at u;exact one _ u y hy
 intro k x L;have hm:=List.mem_of_getElem? L;cases r with
 |tup l=>
  simp only[aC.news,List.mem_flatMap] at hm;obtain⟨d,I,hy⟩:=hm;exact G d (JG.1 h d I) _ hy
 |_=>
  simp only[aC.news] at hm;simp only[aC.fresh] at h;exact G _ h _ hm
theorem bCD {C:Cfg U} (hs:jC C w0) (h:RR C.E n N w0 ρ s a w) {look:Nat->Option (bK U)} (hlook:∀id ob,look id=some ob->s.objs id=some ob)
  {f:FuncId} {ts:List TypeId} {xs:List (aC U)} {args:Array Value} (hn:args.size=xs.length) (hx:∀k (h:k<xs.length),Rel C.E w ρ (bF N ρ w) xs[k] (args.getD k undef))
  {cs:List Prop} {r:aC U} (ho:yW C look f ts xs=some (cs,r)) (hc:eQ cs):
  (callFunc f args).run C.P w=.ok (.enter f args) w/\Calls C.P f args w fun e w'=>∃v,e=.returned v/\∀base,(∀k,k<r.news.length->s.objs (base+k)=none)->
   ∃ρ',RR C.E n N w0 ρ' (qM s base r.news) a w'/\Rel C.E w' ρ' (bF N ρ' w') (r.uK (base+·)) v:=by
 unfold yW at ho;split at ho
 ·rename_i m hm;split at ho
  ·rename_i ys own hys;split at ho
   ·rename_i nH Z hr;obtain⟨cQ,dE⟩:=cM ho;clear ho;simp only[QQ,QK] at dE;obtain⟨rfl,rfl⟩:=dE;simp only[QU] at cQ;obtain⟨hok,hfr⟩:=cQ;obtain⟨hcall,hsum⟩:=hs.1 f m hm;refine⟨hcall args w,?_⟩;obtain⟨h1,h2,h3⟩:=bCS h hlook m ts xs ys own args.toList (by simpa using hn) (fun k hk=>by rw[nF];exact hx k hk) hys
    -- a new slice's place
    have L:∀{J:Own} {w':World} {Nr:Nat->Prop} {base k:Nat} {x:eA U} {u:Value},Z.news[k]?=some x->
      (∀(k:Nat) (x:eA U),Z.news[k]?=some x->gE C.E w' J (bF Nr J w') w.heap.size k x.obj)->Rel C.E w' J (bF Nr J w') (.osl k 0) u->
      Rel C.E w' (lW ρ J base Z.news.length) (bF N (lW ρ J base Z.news.length) w') (.osl (base+k) 0) u:=by
     intro J w' Nr base k x u hk hrow I;have hlt:k<Z.news.length:=(QA.1 hk).1;have hj:lW ρ J base Z.news.length (.ob (base+k))=J (.ob k):=by
      unfold lW;rw[JV ⟨by show base<=base+k;omega,by show base+k<_;omega⟩];show J (.ob (base+k-base))=_;rw[Nat.add_sub_cancel_left]
     have hg0:∃u',J (.ob k)=some (0,u'):=by
      have:=hrow k x hk;obtain⟨d,t,xs⟩:=x;cases d with
      |false=>
       obtain⟨u',_,q,_⟩:=this;exact⟨u',q⟩
      |true=>
       obtain⟨u',_,q,_⟩:=this;exact⟨u',q⟩
     obtain⟨u',q1⟩:=hg0;cases I with
     |osl _ _ _ q hp=>exact .osl _ 0 _ (by rw[hj];exact q) hp
     |oslOld _ _ g' u'' _ q hg=>
      rw[q1] at q;simp only[QQ,QK] at q;omega
    have G:∀c:aC U,(∃x,iF c=[x]/\∀(f:Nat->Nat) (k:Nat),gW f k c=.osl (f k) 0)\/(iF c=[]/\∀(f:Nat->Nat) (k:Nat),gW f k c=c):=fun c=>by
     cases c<;>first|exact .inl ⟨_,rfl,fun _ _=>rfl⟩|exact .inr ⟨rfl,fun _ _=>rfl⟩
    cases own with
    |false=>
     have h4:=h3 rfl;refine(hsum (fun b=>N b\/∃nm g u,ρ nm=some (g,u)/\blk u=some b) w args ys _ _ h.below (fun b hb=>?_) ⟨by rw[hn,h1],fun k hk=>?_⟩ hr hc).mono ?_
     ·rcases hb with hb|⟨id,g,u,I,V⟩
      ·rcases h.nlt b hb with hb|hb
       ·exact JI hb h.below.size
       ·exact JI (w0.lt b hb) h.kept.1
      ·exact((h.own I).2 b V).2
     ·have:=h4 k hk;rw[nF] at this;refine this.mono (fun b ⟨q1,q2,q3⟩=>⟨⟨q1,fun hq=>?_⟩,rfl⟩) (fun _ _ _ hr=>by cases hr);rcases hq with hq|⟨id,g,u,I,V⟩
      ·exact q2 hq
      ·exact q3 _ _ _ I V
     ·rintro e w' ⟨v,rfl,⟨J,f1,f2,f3,f4⟩,hbw⟩
      have hst:∀base b,bF (fun b=>N b\/∃nm g u,ρ nm=some (g,u)/\blk u=some b) J w' b->bF N (lW ρ J base Z.news.length) w' b:=fun base b ⟨q1,q2,q3⟩=>by
       refine⟨q1,fun hq=>q2 (.inl hq),fun id g u I V=>?_⟩;unfold lW at I;split at I
       ·exact q3 _ _ _ I V
       ·exact q2 (.inr ⟨id,g,u,I,V⟩)
      have hfl:∀base (c:aC U) (u:Value),c.flat=true->Rel C.E w' J (bF (fun b=>N b\/∃nm g u,ρ nm=some (g,u)/\blk u=some b) J w') c u->Rel C.E w' (lW ρ J base Z.news.length) (bF N (lW ρ J base Z.news.length) w') c u:=fun base c u hc I=>
       (I.flat (ρ':=cW) hc).mono (fun b hb=>⟨hst base b hb,rfl⟩) (fun _ _ _ hr=>by cases hr)
      refine⟨v,rfl,fun base S=>⟨lW ρ J base Z.news.length,?_,?_⟩⟩
      ·exact h.join hbw S f2 f3 f4 (fun k x t z c v _ _ _ hcm hv=>hfl base c v (C.E.enc_flat t z c hcm).1 hv)
      ·refine aER (p:=fun c=>ok1 c=true) (aMz hok) (fun k c u hpc hnew I=>?_) f1;rcases G c with ⟨x,O,e⟩|⟨O,e⟩
       ·rw[e] at I ⊢;exact L (hnew x O) f2 I
       ·rw[e] at I ⊢;refine hfl base c u ?_ I;cases c<;>first|exact hpc|cases O
    |true=>
     have hfre:Z.fresh C.E=true:=by simpa using hfr
     refine(hsum (fun _=>False) w args ys _ _ h.below (fun b hb=>hb.elim) ⟨by rw[hn,h1],fun k hk=>?_⟩ hr hc).mono ?_
     ·have:=h2 k hk;rw[nF] at this;exact this.mono (fun b q=>⟨⟨q.1,fun hq=>hq⟩,rfl⟩) (fun _ _ _ hr=>by cases hr)
     ·rintro e w' ⟨v,rfl,⟨J,f1,f2,f3,f4⟩,hbw⟩
      refine⟨v,rfl,fun base S=>⟨lW ρ J base Z.news.length,?_,?_⟩⟩
      ·refine h.join hbw S f2 f3 f4 (fun k x t z c v hk ht1 ht2 hcm hv=>hv.pure (C.E.plain_ok t z ?_ c hcm));obtain⟨p1,p2⟩:=bBD hfre k x hk;cases hd:x.1 with
       |false=>
        rw[ht1 hd];exact p1 hd
       |true=>
        obtain⟨t1,q1,q2⟩:=p2 hd;obtain⟨y,ys,q3⟩:=ht2 hd;obtain⟨zs,q4⟩:=C.E.inner_ok _ _ q1 y;rw[q3] at q4;simp only[List.cons.injEq,and_true,aC.sl.injEq] at q4;rw[q4.1];exact q2
      ·refine aER (p:=fun c=>fr1 C.E c=true) (bBE hfre) (fun k c u hpc hnew I=>?_) f1;rcases G c with ⟨x,O,e⟩|⟨O,e⟩
       ·rw[e] at I ⊢;exact L (hnew x O) f2 I
       ·rw[e] at I ⊢;refine I.pure ?_;cases c<;>first|exact hpc|cases O
   ·cases ho
  ·cases ho
 ·cases ho
theorem gE.bBk {E:Enc U} {base k:Nat} {st r:Nat->Prop} {x:eA U} {u:Value} (h:gE E w ρ st base k x.obj) (hin:∀b,base<=b->b<w.heap.size->r b)
  (p1:x.1=false->∀z c v,c∈E.enc x.2.1 z->Rel E w ρ st c v->Rel E w cW r c v) (p2:x.1=true->∀V y ys,E.enc x.2.1 y=[.sl V ys]->∀z c v,c∈E.enc V z->Rel E w ρ st c v->Rel E w cW r c v)
  (hu:Rel E w ρ st (.osl k 0) u):Rel E w cW r (.sl x.2.1 x.2.2) u:=by
 have hout:∀{e:TypeId} {m n:Nat} {cs:List Value} {v:Value},w.ownsRow base e m v n cs->∀b o l c,v=.slice (some ⟨b,o,none⟩) l c->r b:=fun h2 b o l c hv=>by
  rcases h2.2 with ⟨h0,_⟩|⟨gb,cap,cur,J,L,hgb,_⟩
  ·rw[hv] at h0;cases h0
  ·rw[hv] at J;simp only[KW,QQ,KR,and_true] at J;obtain⟨⟨rfl,_⟩,_⟩:=J;exact hin _ L (JQ.1 hgb).1
 have I:∀{t:U.τ} {xs:List (U.T t)} {v:Value} {cs:List Value},w.ownsRow base (U.ety t) (U.size t) v xs.length cs->(∀i (h:i<xs.length) k (hk:k<(E.enc t xs[i]).length),Rel E w cW r (E.enc t xs[i])[k] (cs.getD (i*U.size t+k) undef))->Rel E w cW r (.sl t xs) v:=fun {t xs v cs} h2 h3=>by
  rcases aAU h2 h3 with ⟨⟨ad,rfl⟩,rfl⟩|⟨b,o,cap,f,rfl,hcap,hc,hl'⟩
  ·exact .slE t ad
  ·exact .sl t xs b o cap f (hout h2 _ _ _ _ rfl) hcap hc hl'
 have eqv:∀{S:Value},ρ (.ob k)=some (0,S)->S=u:=fun {S} O=>by
  cases hu with
  |osl _ _ _ q hp=>
   rw[O] at q;simpa using q
  |oslOld _ _ g' u'' _ q hg=>
   rw[O] at q;simp only[QQ,QK] at q;omega
 obtain⟨d,t,xs⟩:=x;cases d with
 |false=>
  obtain⟨S,cs',O,q2,q3,q4⟩:=h;obtain rfl:=eqv O;exact I q3 (fun i hi Z G=>p1 rfl _ _ _ (QN G) (q4 i hi Z G))
 |true=>
  obtain⟨S,cs',O,q2,q3,q4,q5,q6⟩:=h;obtain rfl:=eqv O;refine I q3 (fun i hi Z G=>?_);obtain⟨V,ys,v1,ds,r1,r2,r3,r4,r5,r6⟩:=q6 i hi;have mS:Z=0:=by
   rw[E.enc_len,q4] at G;omega
  subst mS;have e1:(E.enc t xs[i])[0]=.sl V ys:=by simp only[r1];rfl
  show Rel E w cW r (E.enc t xs[i])[0] _;rw[e1,q4,Nat.mul_one,JL,r3];exact I r5 (fun i hi Z G=>p2 rfl V _ _ r1 _ _ _ (QN G) (r6 i hi Z G))
theorem bTs {C:Cfg U} (hs:jC C w0) (h:RR C.E n N w0 ρ s a w) {look:Nat->Option (bK U)} (hlook:∀id ob,look id=some ob->s.objs id=some ob)
  {f:FuncId} {ts:List TypeId} {xs:List (aC U)} {args:Array Value} (hn:args.size=xs.length) (hx:∀k (h:k<xs.length),Rel C.E w ρ (bF N ρ w) xs[k] (args.getD k undef))
  {cs:List Prop} {r:aC U} (ho:yW C look f ts xs=some (cs,r)) (hc:eQ cs):
  (callFunc f args).run C.P w=.ok (.enter f args) w/\Calls C.P f args w fun e w'=>∃v,e=.returned v/\RR C.E n N w0 ρ s a w'/\Rel C.E w' ρ (bF N ρ w') r.down v:=by
 unfold yW at ho;split at ho
 ·rename_i m hm;split at ho
  ·rename_i ys own hys;split at ho
   ·rename_i nH r0 V;obtain⟨cQ,dE⟩:=cM ho;clear ho;simp only[QQ,QK] at dE;obtain⟨rfl,rfl⟩:=dE;simp only[QU] at cQ;obtain⟨hok,hfr⟩:=cQ;obtain⟨hcall,hsum⟩:=hs.1 f m hm;refine⟨hcall args w,?_⟩;obtain⟨h1,h2,h3⟩:=bCS h hlook m ts xs ys own args.toList (by simpa using hn) (fun k hk=>by rw[nF];exact hx k hk) hys;have S:∀c:aC U,(∃x,iF c=[x]/\(∀(f:Nat->Nat) (k:Nat),gW f k c=.osl (f k) 0)/\iP c=.sl x.2.1 x.2.2)\/(iF c=[]/\(∀(f:Nat->Nat) (k:Nat),gW f k c=c)/\iP c=c):=fun c=>by
     cases c<;>first|exact .inl ⟨_,rfl,fun _ _=>rfl,rfl⟩|exact .inr ⟨rfl,fun _ _=>rfl,rfl⟩
    have hNlt:∀b,N b->b<w.heap.size:=fun b hb=>by
     rcases h.nlt b hb with hb|hb
     ·exact JI hb h.below.size
     ·exact JI (w0.lt b hb) h.kept.1
    have Z:∀(w':World) (b:Nat),w.heap.size<=b->b<w'.heap.size->bF N ρ w' b:=fun w' b q1 q2=>⟨q2,fun hq=>by have:=hNlt b hq;omega,fun nm g u G L=>by have:=((h.own G).2 b L).2;omega⟩
    cases own with
    |false=>
     have h4:=h3 rfl;refine(hsum (fun b=>N b\/∃nm g u,ρ nm=some (g,u)/\blk u=some b) w args ys _ _ h.below (fun b hb=>?_) ⟨by rw[hn,h1],fun k hk=>?_⟩ V hc).mono ?_
     ·rcases hb with hb|⟨id,g,u,G,L⟩
      ·exact hNlt b hb
      ·exact((h.own G).2 b L).2
     ·have:=h4 k hk;rw[nF] at this;refine this.mono (fun b ⟨q1,q2,q3⟩=>⟨⟨q1,fun hq=>?_⟩,rfl⟩) (fun _ _ _ V=>by cases V);rcases hq with hq|⟨id,g,u,G,L⟩
      ·exact q2 hq
      ·exact q3 _ _ _ G L
     ·rintro e w' ⟨v,rfl,⟨ρr,f1,f2,f3,f4⟩,hbw⟩
      have hst:∀b,bF (fun b=>N b\/∃nm g u,ρ nm=some (g,u)/\blk u=some b) ρr w' b->bF N ρ w' b:=fun b ⟨q1,q2,q3⟩=>
       ⟨q1,fun hq=>q2 (.inl hq),fun id g u G L=>q2 (.inr ⟨id,g,u,G,L⟩)⟩
      have hfl:∀(c:aC U) (u:Value),c.flat=true->Rel C.E w' ρr (bF (fun b=>N b\/∃nm g u,ρ nm=some (g,u)/\blk u=some b) ρr w') c u->Rel C.E w' cW (bF N ρ w') c u:=fun c u hc G=>
       (G.flat (ρ':=cW) hc).mono (fun b hb=>⟨hst b hb,rfl⟩) (fun _ _ _ V=>by cases V)
      refine⟨v,rfl,h.ext hbw,?_⟩;have key:Rel C.E w' cW (bF N ρ w') r0.down v:=by
       refine aER (p:=fun c=>ok1 c=true) (aMz hok) (fun k c u hpc O G=>?_) f1;show Rel C.E w' cW (bF N ρ w') (iP c) u;rcases S c with ⟨x,I,e1,e2⟩|⟨I,e1,e2⟩
       ·rw[e1] at G;rw[e2];exact(f2 k x (O x I)).bBk (Z w') (fun _ z c v J hv=>hfl c v (C.E.enc_flat _ z c J).1 hv) (fun _ t1 _ _ _ z c v J hv=>hfl c v (C.E.enc_flat t1 z c J).1 hv) G
       ·rw[e1] at G;rw[e2];refine hfl c u ?_ G;cases c<;>first|exact hpc|cases I
      exact key.mono (fun b hb=>⟨hb,rfl⟩) (fun _ _ _ V=>by cases V)
    |true=>
     have hfre:r0.fresh C.E=true:=by simpa using hfr
     refine(hsum (fun _=>False) w args ys _ _ h.below (fun b hb=>hb.elim) ⟨by rw[hn,h1],fun k hk=>?_⟩ V hc).mono ?_
     ·have:=h2 k hk;rw[nF] at this;exact this.mono (fun b q=>⟨⟨q.1,fun hq=>hq⟩,rfl⟩) (fun _ _ _ V=>by cases V)
     ·rintro e w' ⟨v,rfl,⟨ρr,f1,f2,f3,f4⟩,hbw⟩
      refine⟨v,rfl,h.ext hbw,?_⟩;have key:Rel C.E w' cW (bF N ρ w') r0.down v:=by
       refine aER (p:=fun c=>fr1 C.E c=true) (bBE hfre) (fun k c u hpc O G=>?_) f1;show Rel C.E w' cW (bF N ρ w') (iP c) u;rcases S c with ⟨x,I,e1,e2⟩|⟨I,e1,e2⟩
       ·rw[e1] at G;rw[e2];obtain⟨p1,p2⟩:=bBD hfre k x (O x I);refine(f2 k x (O x I)).bBk (Z w') (fun hd z c v J hv=>hv.pure (C.E.plain_ok _ z (p1 hd) c J)) (fun hd t1 y ys hy z c v J hv=>hv.pure (C.E.plain_ok t1 z ?_ c J)) G;obtain⟨t2,q1,q2⟩:=p2 hd;obtain⟨zs,q4⟩:=C.E.inner_ok _ _ q1 y;rw[hy] at q4;simp only[List.cons.injEq,and_true,aC.sl.injEq] at q4;rw[q4.1];exact q2
       ·rw[e1] at G;rw[e2];refine G.pure ?_;cases c<;>first|exact hpc|cases I
      exact key.mono (fun b hb=>⟨hb,rfl⟩) (fun _ _ _ V=>by cases V)
   ·cases ho
  ·cases ho
 ·cases ho
theorem bTt {C:Cfg U} (hs:jC C w0) (h:RR C.E n N w0 ρ s a w) {look:Nat->Option (bK U)} (u:∀id ob,look id=some ob->s.objs id=some ob) {dst:Option Nat} (G:∀d,dst=some d->look d=none->s.objs d=none)
  {f:FuncId} {ts:List TypeId} {xs:List (aC U)} {args:Array Value} (hn:args.size=xs.length) (hx:∀k (h:k<xs.length),Rel C.E w ρ (bF N ρ w) xs[k] (args.getD k undef))
  {cs:List Prop} {r:aC U} {ob:Option (Nat×bK U)} (ho:aJo C look dst f ts xs=some (cs,r,ob)) (hc:eQ cs):
  (callFunc f args).run C.P w=.ok (.enter f args) w/\Calls C.P f args w fun e w'=>∃v,e=.returned v/\∃ρ',RR C.E n N w0 ρ' (s.kA ob) a w'/\Rel C.E w' ρ' (bF N ρ' w') r v:=by
 unfold aJo at ho;split at ho
 ·rename_i nH r0 hr;have key:=fun hc=>bCD hs h u hn hx hr hc
  split at ho
  ·rename_i J;cases ho;obtain⟨V,S⟩:=key hc;refine⟨V,S.mono ?_⟩
   rintro e w' ⟨v,rfl,hv⟩
   obtain⟨ρ',L,O⟩:=hv 0 (fun k Z=>by rw[J] at Z;exact absurd Z XU);rw[J] at L;exact⟨v,rfl,ρ',L,O⟩
  ·rename_i x I;split at ho
   ·rename_i d;split at ho
    ·rename_i hlk;cases ho;obtain⟨V,S⟩:=key hc;refine⟨V,S.mono ?_⟩
     rintro e w' ⟨v,rfl,hv⟩
     obtain⟨ρ',L,O⟩:=hv d (fun k Z=>by
      rw[I] at Z;have:k=0:=by simpa using Z
      subst this;exact G d rfl hlk)
     rw[I] at L;exact⟨v,rfl,ρ',L,O⟩
    ·cases ho
   ·cases ho
  ·obtain⟨_,ho⟩:=cM ho;cases ho;obtain⟨V,S⟩:=bTs hs h u hn hx hr hc;refine⟨V,S.mono ?_⟩
   rintro e w' ⟨v,rfl,L,O⟩
   exact⟨v,rfl,ρ,L,O⟩
 ·cases ho
end
end Go.Vm
