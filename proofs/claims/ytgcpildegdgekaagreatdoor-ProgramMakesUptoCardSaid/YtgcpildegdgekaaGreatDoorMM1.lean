/- Lemmas, walks and laws of this proof, part 1. Conditions: those that each names. -/
import Derived.Shelf.Strings.Builder1
import Derived.WalkKit
import Derived.Orders
import Derived.Below
set_option maxRecDepth 100000
namespace Go
abbrev QQ:=@Nat.eq_of_beq_eq_true
abbrev QJ:=@Option.some.injEq
abbrev QK:=@cond_false
abbrev QX:=@Prod.mk.injEq
abbrev QZ:=@Int.toNat_natCast
abbrev QV:=@run_underlying
abbrev QW:=@Bool.and_eq_true
abbrev QY:=@cond_true
abbrev QU:=@Option.some.inj
abbrev QG:=@Eq.trans
abbrev QH:=@List.getElem_mem
abbrev QR:=@Nat.le_of_ble_eq_true
abbrev QP:=@Nat.le_refl
abbrev QN:=@List.length_cons
abbrev QM:=@List.length_append
abbrev QL:=@Result.andThen_ok
abbrev QO:=@List.mem_append
abbrev QT:=@List.all_eq_true
abbrev QC:=@Nat.mul_le_mul_right
abbrev QF:=@if_neg
abbrev QE:=@Sem.run_bind
abbrev QD:=@Array.getElem?_eq_some_iff
abbrev QA:=@List.mem_cons_of_mem
abbrev QI:=@List.mem_cons_self
abbrev JQ:=@if_pos
abbrev JJ:=@List.mem_singleton
abbrev JK:=@List.mem_map
abbrev JX:=@Nat.lt_of_lt_of_le
abbrev JZ:=@List.getElem_cons_zero
abbrev JV:=@World.ownsRow_nil
abbrev JW:=@List.getElem?_eq_getElem
abbrev JY:=@List.foldl_cons
abbrev JU:=@of_decide_eq_true
abbrev JG:=@Bool.or_eq_false_iff
abbrev JH:=@List.mem_range
abbrev JR:=@List.any_eq_false
abbrev JP:=@List.append_nil
abbrev JN:=@decide_eq_true_eq
abbrev JM:=@Bool.eq_false_iff
abbrev JL:=@beq_eq_false_iff_ne
abbrev JO:=@Sem.run_pure
abbrev JT:=@Nat.le_trans
abbrev JS:=@decide_eq_false_iff_not
abbrev JC:=@decide_eq_false
abbrev JF:=@List.getElem?_eq_some_iff
abbrev JE:=@List.length_singleton
abbrev JD:=@Nat.zero_add
abbrev JB:=@Nat.add_zero
abbrev JA:=@decide_eq_true
abbrev JI:=@Value.slice.injEq
abbrev KQ:=@Addr.mk.injEq
abbrev KJ:=@List.length_map
abbrev KK:=@List.drop_length
abbrev KX:=@List.length_drop
abbrev KZ:=@List.append_assoc
abbrev KV:=@List.any_eq_true
abbrev KW:=@List.length_nil
abbrev KY:=@List.getElem_append_left
abbrev KU:=@List.length_take
abbrev KG:=@beq_iff_eq
abbrev KH:=@Bool.not_eq_true'
abbrev KR:=@List.length_set
abbrev KP:=@List.length_replicate
abbrev KN:=@Nat.add_assoc
abbrev KM:=@of_decide_eq_false
abbrev KL:=@Nat.beq_refl
abbrev KO:=@List.getElem?_drop
abbrev KT:=@List.range_succ
abbrev KS:=@Nat.lt_irrefl
abbrev KC:=@List.getElem?_append_left
abbrev KE:=@List.getElem?_take
abbrev KD:=@List.getElem?_map
abbrev KB:=@List.range'_succ
theorem KA {α:Sort _} {a b:α} (h:a=b:=by kernel_rfl):a=b:=h
theorem KI {p:Prop} (h:p:=by omega):p:=h
theorem XQ {p:Prop} (h:p:=by simp):p:=h
theorem XJ {α:Type _} {o:Option α} {a b:α} (h:o=some a) (e:a=b:=by kernel_rfl):o=some b:=h.trans (congrArg some e)
end Go
set_option linter.unusedVariables false
namespace Go.Proofs
open Go.Shelf Go.RowKit
variable {P:Program} {ρ:Ren}
def Ji (T e:TypeId) (B b:Nat) (v:Value) (f:List Value) (w:World):Prop:=
 B<=b/\(∃q,(q=.pointer none\/q=.pointer (some ⟨b,0,none⟩))/\w.heap[b]?=some (.cells #[q,v] T (0,0)))/\w.ownsRow B e 1 v f.length f/\v.ownBlock≠some b/\(v=.slice none 0 0↔f=[])
theorem bAh {w:World} (base:Nat) (t u ty e:TypeId) (i:TypeInfo) (ht:P.underlying t=some (.slice e)) (Z:P.underlying u=some .string) (hi:P.info? e=some i) (hz:i.zero=some (.int .u8 0)) (f:i.size=1) (J:i.bytes=1)
  (v:Value) (n:Nat) (xs:List Value) (j:w.ownsRow base e 1 v n xs) (s:ByteArray) (G:n+s.size<=140737488355328) (S:base<=w.heap.size):
  ∃V w',(Builtin.append_ #[t,u] ty #[v,.string s]).run P w=.ok V w'/\w'.ownsRow base e 1 V (n+s.size) (xs++Lib.strCells s)/\w.grownBy w' v.ownBlock/\(V=.slice none 0 0↔v=.slice none 0 0/\s.size=0)/\
   ∀k,V.ownBlock=some k->v.ownBlock=some k\/w.heap.size<=k:=by
 have hm:n+s.size<=maxLen:=by unfold maxLen;omega
 obtain⟨V,w',hr,h1,h2,h3⟩:=Lib.run_append_own_string (P:=P) w base t u ty e i ht Z hi hz f J v n xs j s hm G S;refine⟨V,w',hr,h1,h2,h3,fun k hk=>?_⟩;rcases j.2 with ⟨rfl,rfl⟩|⟨g,L,cur,rfl,_,hg,_,_,hcs,_⟩
 ·obtain⟨v2,w2,I,q,_⟩:=Lib.run_append_own_string (P:=P) w w.heap.size t u ty e i ht Z hi hz f J (.slice none 0 0) 0 [] (JV _ _ _ _) s hm G (QP _);rw[hr] at I;cases I;exact .inr (q.lt k hk).1
 ·by_cases O:n+s.size<=L
  ·have I:=Lib.run_append_room_string (P:=P) w t u ty e i ht Z hi f g n L cur hg s O KI;rw[hr] at I;cases I;exact .inl hk
  ·have I:=Lib.run_append_grow_string (P:=P) w t u ty e i (.int .u8 0) ht Z hi hz ⟨g,0,none⟩ n L xs (by rw[f];exact j.1) (j.cells (g:=g) rfl) s KI KI (by rw[J];exact growslice_fits KI KI);rw[hr] at I;cases I;simp only[Value.ownBlock,QJ] at hk;exact .inr KI
theorem bA9 {w:World} {ops:Array Oper} {rest:List Oper} {o:Oper} {a:Act} {Q:Exit->Act->World->Prop} (L:o.guard=none) (sl x:Operand) (t u:TypeId) (ho:o.op=.call {callee:=.builtin .append,args:=#[sl,x],argTypes:=#[t,u]})
  (base:Nat) (e:TypeId) (i:TypeInfo) (Z:P.underlying t=some (.slice e)) (hu:P.underlying u=some .string) (hi:P.info? e=some i) (S:i.zero=some (.int .u8 0)) (j:i.size=1) (O:i.bytes=1)
  (v:Value) (n:Nat) (xs:List Value) (hs:a.eval sl=v) (J:w.ownsRow base e 1 v n xs) (s:ByteArray) (V:a.eval x=.string s) (f:n+s.size<=140737488355328) (G:base<=w.heap.size)
  (h:∀I w',w'.ownsRow base e 1 I (n+s.size) (xs++Lib.strCells s)->w.grownBy w' v.ownBlock->(I=.slice none 0 0↔v=.slice none 0 0/\s.size=0)->(∀k,I.ownBlock=some k->v.ownBlock=some k\/w.heap.size<=k)->wpList P ops Q rest (a.put o.dst I) w'):wpList P ops Q (o::rest) a w:=by
 refine wpList_plain L fun K hK=>?_
 obtain⟨I,w',hr,h1,h2,h3,h4⟩:=bAh (P:=P) base t u o.type e i Z hu hi S j O v n xs J s f G;unfold Oper.wp execOp;simp only[ho,resolve,invoke,builtin,QE,JO,QL,List.map_toArray,List.map_cons,List.map_nil,hs,V,hr];exact hK _ _ (h I w' h1 h2 h3 h4)
set_option maxHeartbeats 2000000 in
theorem bAa (L:Lays.n169 P ρ) (X:Builder.Extra P ρ) (B b:Nat) (v:Value) (l:List UInt8) (w:World) (h:Ji (ρ.t 72) (ρ.t 5) B b v (Lib.byteCells l) w):
  Calls P (ρ.f 169) #[.pointer (some ⟨b,0,none⟩)] w fun e w'=>e=.returned (.string ⟨l.toArray⟩)/\Below B w w'/\w'.heap.size=w.heap.size/\∀k,k<w.heap.size->v.ownBlock≠some k->w'.heap[k]?=w.heap[k]?:=by
 obtain⟨hB,⟨q,hq,J⟩,G,hne,I⟩:=h
 by_cases h0:l=[]
 ·subst h0;obtain rfl:=I.2 rfl;clear G hne I hq hB;have hUS:=Any.unsafeString_none L X;have c1:w.drew.cell? ⟨b,1,none⟩=some (.slice none 0 0):=by
   have:w.drew.heap[b]?=some (.cells #[q,.slice none 0 0] (ρ.t 72) (0,0)):=J;rw[Lib.cell_of_heap this];rfl
  have hSD:(Builtin.unsafeSliceData_ #[(ρ.t 37)] (ρ.t 127) #[.slice none 0 0]).run P w.drew=.ok (.pointer none) w.drew:=rfl;have mixed:=L.mixed;have t72:=L.t72;have a72:=L.a72;have z72:=L.z72;have v72:=L.v72;have u72:=QV L.t72
  have t70:=L.t70;have a70:=L.a70;have z70:=L.z70;have v70:=L.v70;have u70:=QV L.t70
  have t37:=L.t37;have a37:=L.a37;have z37:=L.z37;have v37:=L.v37;have u37:=QV L.t37
  have V:=L.t127;have Z:=L.a127;have O:=L.z127;have S:=L.v127;have aLW:=QV L.t127
  have t3:=L.t3;have a3:=L.a3;have z3:=L.z3;have v3:=L.v3;have u3:=QV L.t3
  have t9:=L.t9;have a9:=L.a9;have z9:=L.z9;have v9:=L.v9;have u9:=QV L.t9
  have t5:=X.t5;have a5:=X.a5;have z5:=X.z5;have v5:=X.v5;have u5:=QV X.t5
  go_enter L.f169,Body.n169_ntmps ρ
  go_wp2
  go_region_o
  all_goals (go_wp2;go_ret;exact⟨rfl,Below.drew (Below.refl B w),rfl,fun _ _ _=>rfl⟩)
 have wJ:l.length≠0:=by simpa using h0
 rw[Lib.byteCells_length] at G;obtain⟨g,u,cur,rfl,hbg,hg,hnc,hcm,hcs,htake⟩:∃g u cur,v=.slice (some ⟨g,0,none⟩) l.length u/\B<=g/\w.heap[g]?=some (.cells cur (ρ.t 5) (0,0))/\l.length<=u/\u<=maxLen/\cur.size=u*1/\cur.toList.take (l.length*1)=Lib.byteCells l:=by
  rcases G.2 with ⟨_,hz⟩|⟨g,u,cur,hv,r⟩
  ·exact absurd hz wJ
  ·exact⟨g,u,cur,hv,r⟩
 have c1:w.drew.cell? ⟨b,1,none⟩=some (.slice (some ⟨g,0,none⟩) l.length u):=by
  have:w.drew.heap[b]?=some (.cells #[q,.slice (some ⟨g,0,none⟩) l.length u] (ρ.t 72) (0,0)):=J;rw[Lib.cell_of_heap this];rfl
 have hSD:(Builtin.unsafeSliceData_ #[(ρ.t 37)] (ρ.t 127) #[.slice (some ⟨g,0,none⟩) l.length u]).run P w.drew=.ok (.pointer (some ⟨g,0,none⟩)) w.drew:=
  Lib.run_unsafeSliceData_row _ _ _ _ _ _ KI
 have hUS:(Builtin.unsafeString_ #[(ρ.t 127),(ρ.t 3)] (ρ.t 9) #[.pointer (some ⟨g,0,none⟩),.int .i64 l.length]).run P w.drew=.ok (.string ⟨l.toArray⟩) (w.drew.freeze ⟨g,0,none⟩ l.length):=by
  refine Lib.run_unsafeString_row w.drew (ρ.t 127) (ρ.t 3) (ρ.t 9) (ρ.t 5) L.t127 X.cellsByte g cur.size (by have hg':w.drew.heap[g]?=some (.cells cur (ρ.t 5) (0,0)):=hg;simp[World.shape?,hg']) l h0 KI (by unfold maxLen at hcm;omega) ?_;intro j x hx;exact G.cells (g:=g) rfl j (.int .u8 x.toNat) (by simp[Lib.byteCells,hx])
 have mixed:=L.mixed;have t72:=L.t72;have a72:=L.a72;have z72:=L.z72;have v72:=L.v72;have u72:=QV L.t72
 have t70:=L.t70;have a70:=L.a70;have z70:=L.z70;have v70:=L.v70;have u70:=QV L.t70
 have t37:=L.t37;have a37:=L.a37;have z37:=L.z37;have v37:=L.v37;have u37:=QV L.t37
 have V:=L.t127;have Z:=L.a127;have O:=L.z127;have S:=L.v127;have aLW:=QV L.t127
 have t3:=L.t3;have a3:=L.a3;have z3:=L.z3;have v3:=L.v3;have u3:=QV L.t3
 have t9:=L.t9;have a9:=L.a9;have z9:=L.z9;have v9:=L.v9;have u9:=QV L.t9
 have t5:=X.t5;have a5:=X.a5;have z5:=X.z5;have v5:=X.v5;have u5:=QV X.t5
 have hfs:(w.drew.freeze ⟨g,0,none⟩ l.length).heap.size=w.heap.size:=by
  unfold World.freeze;split
  ·rfl
  ·show (w.drew.heap.modify g _).size=_;rw[Array.size_modify];rfl
 have hfz:∀k,k≠g->(w.drew.freeze ⟨g,0,none⟩ l.length).heap[k]?=w.heap[k]?:=fun k hk=>by
  unfold World.freeze;split
  ·rfl
  ·show (w.drew.heap.modify g _)[k]?=_;rw[Array.getElem?_modify,QF (fun e=>hk e.symm)];rfl
 go_enter L.f169,Body.n169_ntmps ρ
 go_wp2
 go_region_o
 all_goals (go_wp2;go_ret;exact⟨rfl,Lib.below_freeze (Below.drew (Below.refl B w)) (p:=⟨g,0,none⟩) hbg _,hfs,fun k _ hk=>hfz k (fun e=>hk (by rw[e];rfl))⟩)
end Go.Proofs
namespace Go.Vm
open Go.RowKit
inductive Name where
 |ob (id:Nat)
 |mem (id i:Nat)
instance:DecidableEq Name:=fun a b=>match a,b with
 | .ob i,.ob j=>if h:i=j then isTrue (h▸rfl) else isFalse (fun e=>h (Name.ob.inj e))
 | .mem i k,.mem j l=>if h:i=j/\k=l then isTrue (by grind) else isFalse (fun e=>h (Name.mem.inj e))
 | .ob _,.mem _ _=>isFalse (fun e=>by cases e)
 | .mem _ _,.ob _=>isFalse (fun e=>by cases e)
def Name.id:Name->Nat
 | .ob i=>i
 | .mem i _=>i
instance:Coe Nat Name:=⟨.ob⟩
def Name.at (j:Nat):Name->Name
 | .ob _=>.ob j
 | .mem _ i=>.mem j i
theorem Name.sY (j:Nat) (nm:Name):(nm.at j).id=j:=by cases nm<;>rfl
theorem Name.bAz (nm:Name):nm.at nm.id=nm:=by cases nm<;>rfl
theorem Name.J0 {j:Nat} {nm f:Name} (hi:nm.id=f.id) (h:nm.at j=f.at j):nm=f:=by
 cases nm with
 |ob a=>
  cases f with
  |ob b=>rw[show a=b from hi]
  |mem b k=>cases h
 |mem a i=>
  cases f with
  |ob b=>cases h
  |mem b k=>
   obtain⟨_,e⟩:=Name.mem.inj h;rw[show a=b from hi,e]
abbrev Own:=Name->Option (Nat×Value)
structure eO where
 τ:Type
 deq:DecidableEq τ
 T:τ->Type
 ety:τ->TypeId
 size:τ->Nat
 unsl:(t t1:τ)->List (T t1)->Option (T t)
 κ:Type:=Empty
 K:κ->Type:=fun _=>Unit
 φ:Type:=Empty
inductive aC (U:eO):Type where
 |any
 |raw (v:Value)
 |int (k:IntKind) (n:Int)
 |bool (b:Bool)
 |str (s:ByteArray)
 |nils
 |ifc (b:Bool)
 |frz (k:U.φ)
 |ptr (id off:Nat)
 |eptr (id g i off sz:Nat)
 |ref (l:List (aC U)) (off:Nat)
 |sl (t:U.τ) (xs:List (U.T t))
 |osl (id g:Nat)
 |agg (l:List (aC U))
 |tup (l:List (aC U))
 |fn (f:FuncId) (caps:List (aC U))
 |new (t:U.τ) (xs:List (U.T t))
 |newd (t:U.τ) (xs:List (U.T t))
 |msl (id i g:Nat)
 |meptr (id i g j off sz:Nat)
 |ovw (id g lo hi sz:Nat)
inductive aT (U:eO):Type where
 |cells (l:List (aC U))
 |row (t:U.τ) (g:Nat) (xs:List (U.T t))
 |rowF (t:U.τ) (g:Nat) (xs:List (U.T t)) (i m gm:Nat)
 |deep (t:U.τ) (g gm:Nat) (xs:List (U.T t))
 |deepS (t:U.τ) (g gm:Nat) (xs:List (U.T t)) (i:Nat)
 |deepF (t:U.τ) (g gm:Nat) (xs:List (U.T t)) (m gq:Nat)
 |one (t:U.τ) (g m gm:Nat)
 |gone (g gm n:Nat)
 |opq (k:U.κ) (d:U.K k)
def aC.Ob {U:eO}:aC U->Bool
 | .int _ _ | .bool _ | .str _ | .nils | .ifc _ | .frz _ | .ptr _ _ | .eptr _ _ _ _ _ | .ref _ _ | .sl _ _ | .fn _ _=>true
 | .raw v=>v.oneCell'
 | .osl _ _=>true
 | .msl _ _ _ | .meptr _ _ _ _ _ _=>true
 |_=>false
def aC.flat {U:eO}:aC U->Bool
 | .int _ _ | .bool _ | .str _ | .nils | .ifc _ | .frz _ | .raw _ | .sl _ _=>true
 |_=>false
def aC.pure {U:eO}:aC U->Bool
 | .int _ _ | .bool _ | .str _ | .nils | .ifc _ | .raw _=>true
 |_=>false
def blk:Value->Option Nat
 | .pointer (some a)=>some a.block
 | .slice (some a) _ _=>some a.block
 |_=>none
structure Enc (U:eO) where
 enc:(t:U.τ)->U.T t->List (aC U)
 dec:(t:U.τ)->List (aC U)->Option (U.T t)
 dflt:(t:U.τ)->U.T t
 enc_len:∀t x,(enc t x).length=U.size t
 enc_flat:∀t x,∀c∈enc t x,c.flat=true/\c.Ob=true
 dec_len:∀t l x,dec t l=some x->l.length=U.size t
 dec_enc:∀t l x,dec t l=some x->∀k,k<U.size t->(l.getD k .any=(enc t x).getD k .any\/(l.getD k .any=.nils/\∃t',(enc t x).getD k .any=.sl t' []))
 pos:∀t,0<U.size t
 plain:U.τ->Bool
 plain_ok:∀t x,plain t=true->∀c∈enc t x,c.pure=true
 unsl_ok:∀t t1 ys y,U.unsl t t1 ys=some y->enc t y=[.sl t1 ys]
 inner:U.τ->Option U.τ
 inner_ok:∀t t1,inner t=some t1->∀x,∃ys,enc t x=[.sl t1 ys]
 rep:(k:U.κ)->U.K k->World->Nat->Option (Nat×Value)->(Nat->Option (Nat×Value))->Prop:=fun _ _ _ _ _ _=>False
 rep_val:∀k d w base p f,rep k d w base p f->∃g u,p=some (g,u)/\u.oneCell'=true/\∀b,blk u=some b->base<=b/\b<w.heap.size:=by intros;contradiction
 rep_mem:∀k d w base p f i g u,rep k d w base p f->f i=some (g,u)->u.oneCell'=true/\∀b,blk u=some b->base<=b/\b<w.heap.size:=by intros;contradiction
 rep_mono:∀k d w w' base p f,rep k d w base p f->(∀g u b,p=some (g,u)->blk u=some b->w'.heap[b]?=w.heap[b]?)->(∀i g u b,f i=some (g,u)->blk u=some b->w'.heap[b]?=w.heap[b]?)->rep k d w' base p f:=by intros;contradiction
 frep:U.φ->World->(Nat->Prop)->Value->Prop:=fun _ _ _ _=>False
 frep_mono:∀k w w' st st' v,frep k w st v->(∀b,st b->st' b/\w'.heap[b]?=w.heap[b]?)->frep k w' st' v:=by intros;contradiction
 frep_cell:∀k w st v,frep k w st v->v.oneCell'=true:=by intros;contradiction
section
variable {U:eO} (E:Enc U)
inductive Rel (w:World) (ρ:Own) (st:Nat->Prop):aC U->Value->Prop where
 |any (v:Value):Rel w ρ st .any v
 |raw (v:Value):Rel w ρ st (.raw v) v
 |int (k:IntKind) (n:Int):Rel w ρ st (.int k n) (.int k n)
 |bool (b:Bool):Rel w ρ st (.bool b) (.bool b)
 |str (s:ByteArray):Rel w ρ st (.str s) (.string s)
 |nils:Rel w ρ st .nils (.slice none 0 0)
 |ifc0:Rel w ρ st (.ifc true) .nilIface
 |ifc1 (t:TypeId) (v:Value):Rel w ρ st (.ifc false) (.iface t v)
 |frz (k:U.φ) (v:Value) (h:E.frep k w st v):Rel w ρ st (.frz k) v
 |ptr (id off b:Nat) (h:ρ (.ob id)=some (0,.pointer (some ⟨b,0,none⟩))):Rel w ρ st (.ptr id off) (.pointer (some ⟨b,off,none⟩))
 |eptr (id g i off sz b n cap:Nat) (h:ρ (.ob id)=some (g,.slice (some ⟨b,0,none⟩) n cap)) (hi:i<n):
   Rel w ρ st (.eptr id g i off sz) (.pointer (some ⟨b,i*sz+off,none⟩))
 |eptrOld (id g i off sz g':Nat) (u v:Value) (h:ρ (.ob id)=some (g',u)) (hg:g<g'):Rel w ρ st (.eptr id g i off sz) v
 |osl (id g:Nat) (u:Value) (h:ρ (.ob id)=some (g,u)) (hp:∀a,u≠ .pointer a):Rel w ρ st (.osl id g) u
 |oslOld (id g g':Nat) (u v:Value) (h:ρ (.ob id)=some (g',u)) (hg:g<g'):Rel w ρ st (.osl id g) v
 |msl (id i g:Nat) (u:Value) (h:ρ (.mem id i)=some (g,u)):Rel w ρ st (.msl id i g) u
 |mslOld (id i g g':Nat) (u v:Value) (h:ρ (.mem id i)=some (g',u)) (hg:g<g'):Rel w ρ st (.msl id i g) v
 |meptr (id i g j off sz b n cap:Nat) (h:ρ (.mem id i)=some (g,.slice (some ⟨b,0,none⟩) n cap)) (hi:j<n):
   Rel w ρ st (.meptr id i g j off sz) (.pointer (some ⟨b,j*sz+off,none⟩))
 |meptrOld (id i g j off sz g':Nat) (u v:Value) (h:ρ (.mem id i)=some (g',u)) (hg:g<g'):Rel w ρ st (.meptr id i g j off sz) v
 |ovw (id g lo hi sz:Nat) (u:Value) (ad:Option Addr) (c:Nat) (h:ρ (.ob id)=some (g,u)) (hp:∀a,u≠ .pointer a) (hl:lo<=hi)
   (had:(ad=none/\c=0/\lo=hi)\/∃b n cap o,u=.slice (some ⟨b,0,none⟩) n cap/\hi<=n/\ad=some ⟨b,o,none⟩/\(lo<hi->o=lo*sz)/\hi-lo<=c):Rel w ρ st (.ovw id g lo hi sz) (.slice ad (hi-lo) c)
 |ovwOld (id g lo hi sz g':Nat) (u v:Value) (h:ρ (.ob id)=some (g',u)) (hg:g<g'):Rel w ρ st (.ovw id g lo hi sz) v
 |ref (l:List (aC U)) (off b o:Nat) (f:Nat->Value) (hb:st b) (hc:∀k,k<l.length->w.cell? ⟨b,o+k,none⟩=some (f k))
   (hl:∀k (h:k<l.length),Rel w ρ st l[k] (f k)):Rel w ρ st (.ref l off) (.pointer (some ⟨b,o+off,none⟩))
 |lO (t:U.τ):Rel w ρ st (.sl t []) (.slice none 0 0)
 |sle (t:U.τ) (ad:Addr):Rel w ρ st (.sl t []) (.slice (some ad) 0 0)
 |sl (t:U.τ) (xs:List (U.T t)) (b o cap:Nat) (f:Nat->Value) (hb:st b) (hcap:xs.length<=cap)
   (hc:∀k,k<xs.length*U.size t->w.cell? ⟨b,o+k,none⟩=some (f k))
   (hl:∀i (h:i<xs.length) k (hk:k<(E.enc t xs[i]).length),Rel w ρ st (E.enc t xs[i])[k] (f (i*U.size t+k))):
   Rel w ρ st (.sl t xs) (.slice (some ⟨b,o,none⟩) xs.length cap)
 |agg (l:List (aC U)) (vs:Array Value) (hn:vs.size=l.length) (hl:∀k (h:k<l.length),Rel w ρ st l[k] (vs.getD k undef)):Rel w ρ st (.agg l) (.agg vs)
 |tup (l:List (aC U)) (vs:Array Value) (hn:vs.size=l.length) (hl:∀k (h:k<l.length),Rel w ρ st l[k] (vs.getD k undef)):Rel w ρ st (.tup l) (.tuple vs)
 |fn (f:FuncId) (caps:List (aC U)) (vs:Array Value) (hn:vs.size=caps.length) (hl:∀k (h:k<caps.length),Rel w ρ st caps[k] (vs.getD k undef)):
   Rel w ρ st (.fn f caps) (.func (.func f) #[] vs)
variable {E}
theorem Rel.slE {w:World} {ρ:Own} {st:Nat->Prop} (t:U.τ) (f:Option Addr):Rel E w ρ st (.sl t []) (.slice f 0 0):=by
 cases f
 ·exact .lO t
 ·exact .sle t _
theorem Rel.mono {w w':World} {ρ ρ':Own} {st st':Nat->Prop}
  (Z:∀b,st b->st' b/\w'.heap[b]?=w.heap[b]?)
  (V:∀nm g u,ρ nm=some (g,u)->ρ' nm=some (g,u)\/((∀a,u≠ .pointer a)/\∃I J,ρ' nm=some (I,J)/\g<I))
  {x:aC U} {v:Value} (h:Rel E w ρ st x v):Rel E w' ρ' st' x v:=by
 induction h with
 |any v=>exact .any v
 |raw v=>exact .raw v
 |int k n=>exact .int k n
 |bool b=>exact .bool b
 |str s=>exact .str s
 |nils=>exact .nils
 |ifc0=>exact .ifc0
 |ifc1 t v=>exact .ifc1 t v
 |frz k v h=>exact .frz k v (E.frep_mono _ _ _ _ _ _ h Z)
 |ptr id off b h=>
  rcases V _ _ _ h with G|⟨hp,_⟩
  ·exact .ptr id off b G
  grind
 |eptr id g i off S b n cap h hi=>
  rcases V _ _ _ h with G|⟨_,I,J,G,L⟩
  ·exact .eptr id g i off S b n cap G hi
  ·exact .eptrOld id g i off S I J _ G L
 |eptrOld id g i off S I u v h L=>
  rcases V _ _ _ h with G|⟨_,O,J,G,hg'⟩
  ·exact .eptrOld id g i off S I u _ G L
  ·exact .eptrOld id g i off S O J _ G KI
 |osl id g u h hp=>
  rcases V _ _ _ h with G|⟨_,I,J,G,L⟩
  ·exact .osl id g u G hp
  ·exact .oslOld id g I J _ G L
 |oslOld id g I u v h L=>
  rcases V _ _ _ h with G|⟨_,O,J,G,hg'⟩
  ·exact .oslOld id g I u _ G L
  ·exact .oslOld id g O J _ G KI
 |msl id i g u h=>
  rcases V _ _ _ h with G|⟨_,I,J,G,L⟩
  ·exact .msl id i g u G
  ·exact .mslOld id i g I J _ G L
 |mslOld id i g I u v h L=>
  rcases V _ _ _ h with G|⟨_,O,J,G,hg'⟩
  ·exact .mslOld id i g I u _ G L
  ·exact .mslOld id i g O J _ G KI
 |meptr id i g j off S b n cap h hi=>
  rcases V _ _ _ h with G|⟨_,I,J,G,L⟩
  ·exact .meptr id i g j off S b n cap G hi
  ·exact .meptrOld id i g j off S I J _ G L
 |meptrOld id i g j off S I u v h L=>
  rcases V _ _ _ h with G|⟨_,O,J,G,hg'⟩
  ·exact .meptrOld id i g j off S I u _ G L
  ·exact .meptrOld id i g j off S O J _ G KI
 |ovw id g lo hi S u ad c h hp hl had=>
  rcases V _ _ _ h with G|⟨_,I,J,G,L⟩
  ·exact .ovw id g lo hi S u ad c G hp hl had
  ·exact .ovwOld id g lo hi S I J _ G L
 |ovwOld id g lo hi S I u v h L=>
  rcases V _ _ _ h with G|⟨_,O,J,G,hg'⟩
  ·exact .ovwOld id g lo hi S I u _ G L
  ·exact .ovwOld id g lo hi S O J _ G KI
 |ref l off b o f hb hc hl ih=>
  exact .ref l off b o f (Z b hb).1 (fun k hk=>(World.cell?_of_block (Z b hb).2).trans (hc k hk)) ih
 |lO t=>exact .lO t
 |sle t ad=>exact .sle t ad
 |sl t xs b o cap f hb hcap hc hl ih=>
  exact .sl t xs b o cap f (Z b hb).1 hcap (fun k hk=>(World.cell?_of_block (Z b hb).2).trans (hc k hk)) ih
 |agg l vs hn hl ih=>exact .agg l vs hn ih
 |tup l vs hn hl ih=>exact .tup l vs hn ih
 |fn f caps vs hn hl ih=>exact .fn f caps vs hn ih
theorem Rel.flat {w:World} {ρ ρ':Own} {st:Nat->Prop} {x:aC U} {v:Value} (J:x.flat=true) (h:Rel E w ρ st x v):Rel E w ρ' st x v:=by
 induction h with
 |any v=>exact .any v
 |raw v=>exact .raw v
 |int k n=>exact .int k n
 |bool b=>exact .bool b
 |str s=>exact .str s
 |nils=>exact .nils
 |ifc0=>exact .ifc0
 |ifc1 t v=>exact .ifc1 t v
 |frz k v h=>exact .frz k v h
 |lO t=>exact .lO t
 |sle t O=>exact .sle t O
 |sl t xs b o u f hb j L S I=>
  exact .sl t xs b o u f hb j L (fun i h k G=>I i h k G (E.enc_flat t _ _ (QH G)).1)
 |_=>simp[aC.flat] at J
theorem Rel.sF {w:World} {ρ:Own} {st:Nat->Prop} {x:aC U} {v:Value} (h:Rel E w ρ st x v) (S:x.Ob=true)
  (V:∀nm g u,ρ nm=some (g,u)->u.oneCell'=true) (hold:∀id g,x=.osl id g->∃u,ρ (.ob id)=some (g,u)) (O:∀id g i off f,x=.eptr id g i off f->∃u,ρ (.ob id)=some (g,u))
  (L:∀id i g,x=.msl id i g->∃u,ρ (.mem id i)=some (g,u)) (J:∀id i g j off f,x=.meptr id i g j off f->∃u,ρ (.mem id i)=some (g,u)):v.oneCell'=true:=by
 cases h with
 |raw v=>exact S
 |frz k v h=>exact E.frep_cell _ _ _ _ h
 |osl id g u h hp=>grind
 |oslOld id g I u v h G=>
  grind
 |eptrOld id g i off f I u v h G=>
  grind
 |msl id i g u h=>grind
 |mslOld id i g I u v h G=>
  grind
 |meptrOld id i g j off f I u v h G=>
  grind
 |any|agg|tup|ovwOld=>simp[aC.Ob] at S
 |_=>rfl
end
structure ASt (U:eO) where
 tmps:Nat->aC U
 objs:Nat->Option (aT U)
section
variable {U:eO}
def ASt.set (s:ASt U) (d:Nat) (v:aC U):ASt U:=⟨fun t=>cond (Nat.beq t d) v (s.tmps t),s.objs⟩
def ASt.obj (s:ASt U) (id:Nat) (o:aT U):ASt U:=⟨s.tmps,fun i=>cond (Nat.beq i id) (some o) (s.objs i)⟩
def ASt.put (s:ASt U):Option Tmp->aC U->ASt U
 |some d,v=>s.set d v
 |none,_=>s
def ASt.putObj (s:ASt U):Option (Nat×aT U)->ASt U
 |some (id,o)=>s.obj id o
 |none=>s
def ASt.look (s:ASt U) (t:Nat):aC U:=cond (Nat.blt t 1000000) (s.tmps t) .any
def ofConst:Value->aC U
 | .int k n=>.int k n
 | .bool b=>.bool b
 | .string s=>.str s
 | .slice none 0 0=>.nils
 |v=>.raw v
def ASt.eval (s:ASt U):Operand->aC U
 | .tmp t=>s.look t
 | .const v=>ofConst v
 | .func f=>.fn f []
 | .global _=>.any
def aC.cellsOf:aC U->List (aC U)
 | .agg l=>l
 |v=>[v]
def wD (P:Program) (t:TypeId):Bool:=
 match P.underlying t with
 |some (.struct _)=>true
 |some (.array _ _)=>true
 |_=>false
def iO (P:Program) (t:TypeId):Option Nat:=
 match P.info? t with
 |some i=>some i.size
 |none=>none
def partOf (P:Program) (t:TypeId) (l:List (aC U)) (off:Nat):Option (aC U):=
 match P.underlying t,iO P t with
 |some _,some n=>match wD P t with
  |true=>cond (Nat.ble (off+n) l.length) (some (.agg ((l.drop off).take n))) none
  |false=>l[off]?
 |_,_=>none
def sH (E:Enc U) (look:Nat->Option (aT U)) (id i g:Nat):Option ((t1:U.τ)×List (U.T t1)):=
 match look id with
 |some (.deep t _ j xs)=>match E.enc t (xs.getD i (E.dflt t)) with
  |[.sl t1 f]=>cond (Nat.beq g j) (some ⟨t1,f⟩) none
  |_=>none
 |_=>none
def behind (E:Enc U) (look:Nat->Option (aT U)):aC U->Option (List (aC U)×Nat)
 | .ptr id off=>match look id with
  |some (.cells l)=>some (l,off)
  |_=>none
 | .eptr id g i off u=>match look id with
  |some (.row t I xs)=>cond (Nat.beq g I&&Nat.beq u (U.size t)) (some (E.enc t (xs.getD i (E.dflt t)),off)) none
  |_=>none
 | .ref l off=>some (l,off)
 | .meptr id i g j off u=>match sH E look id i g with
  |some ⟨f,G⟩=>cond (Nat.beq u (U.size f)) (some (E.enc f (G.getD j (E.dflt f)),off)) none
  |none=>none
 |_=>none
def setCells (l:List (aC U)) (off:Nat):List (aC U)->List (aC U)
 |[]=>l
 |c::f=>setCells (l.set off c) (off+1) f
def storable (look:Nat->Option (aT U)):aC U->Bool
 | .osl id g=>match look id with
  |some (.row _ f _)=>Nat.beq g f
  |some (.deep _ f _ _)=>Nat.beq g f
  |some (.deepF _ f _ _ _ _)=>Nat.beq g f
  |_=>false
 | .eptr id g _ _ _=>match look id with
  |some (.row _ f _)=>Nat.beq g f
  |_=>false
 | .msl id _ g=>match look id with
  |some (.deep _ _ j _)=>Nat.beq g j
  |_=>false
 | .meptr id _ g _ _ _=>match look id with
  |some (.deep _ _ j _)=>Nat.beq g j
  |_=>false
 |v=>v.Ob
def Oz (look:Nat->Option (aT U)):aC U->aC U->Option (Nat×aT U)
 | .eptr id g i off u,.osl m j=>match look id,look m with
  |some (.row t G xs),some (.row _ f _)=>cond (Nat.beq g G&&Nat.beq j f&&Nat.beq off 0&&Nat.beq u 1&&Nat.beq (U.size t) 1) (some (id,.rowF t g xs i m j)) none
  |_,_=>none
 |_,_=>none
def storeAt (E:Enc U) (look:Nat->Option (aT U)) (p:aC U) (cs:List (aC U)):Option (Nat×aT U):=
 cond (cs.all (storable look)) (match p with
  | .ptr id off=>match look id with
   |some (.cells l)=>cond (Nat.ble (off+cs.length) l.length) (some (id,.cells (setCells l off cs))) none
   |_=>none
  | .eptr id g i off u=>match look id with
   |some (.row t L xs)=>cond (Nat.beq g L&&Nat.beq u (U.size t)&&Nat.ble (off+cs.length) (U.size t))
     (match E.dec t (setCells (E.enc t (xs.getD i (E.dflt t))) off cs) with
      |some x=>some (id,.row t g (xs.set i x))
      |none=>none) none
   |_=>none
  | .meptr id i g j off u=>match look id with
   |some (.deep t J I xs)=>match sH E look id i g with
    |some ⟨f,G⟩=>cond (Nat.beq u (U.size f)&&Nat.ble (off+cs.length) (U.size f))
      (match E.dec f (setCells (E.enc f (G.getD j (E.dflt f))) off cs) with
       |some x=>match U.unsl t f (G.set j x) with
        |some y=>some (id,.deep t J I (xs.set i y))
        |none=>none
       |none=>none) none
    |none=>none
   |_=>none
  |_=>none) none
def oY (look:Nat->Option (aT U)) (f:Nat->Option (Nat×Nat)) (cells:List (aC U)):List (Nat×aC U)->Option (List (aC U))
 |[]=>some cells
 | (i,v)::rest=>
  match f i with
  |none=>none
  |some (off,size)=>cond (v.cellsOf.all (storable look)&&Nat.beq v.cellsOf.length size&&Nat.ble (off+v.cellsOf.length) cells.length)
    (oY look f (setCells cells off v.cellsOf) rest) none
def zeroCells (P:Program) (t:TypeId):Option (List (aC U)):=
 match P.info? t with
 |some i=>match i.zero with
  |some z=>some (z.cells.toList.map ofConst)
  |none=>none
 |none=>none
def Ca (E:Enc U) (t:U.τ):Nat->List (aC U)->Option (List (U.T t))
 |0,_=>some []
 |n+1,l=>match E.dec t (l.take (U.size t)),Ca E t n (l.drop (U.size t)) with
  |some x,some xs=>some (x::xs)
  |_,_=>none
def kO (k:IntKind) (x y:Int):Int:=k.wrap (BitVec.ofInt k.bits x&&& BitVec.ofInt k.bits y).toNat
def mz (op:BinOp):aC U->aC U->Option (List Prop×aC U)
 | .int k a,.int f b=>match op with
  | .shl=>some ([0<=b],.int k (k.wrap (a*2^(min b.toNat k.bits))))
  | .shr=>some ([0<=b],.int k (a.fdiv (2^(min b.toNat k.bits))))
  |op=>if k=f then (match op with
   | .add=>some ([],.int k (k.wrap (a+b)))
   | .sub=>some ([],.int k (k.wrap (a-b)))
   | .mul=>some ([],.int k (k.wrap (a*b)))
   | .quo=>some ([b≠0],.int k (k.wrap (a.tdiv b)))
   | .rem=>some ([b≠0],.int k (a.tmod b))
   | .and=>some ([],.int k (kO k a b))
   | .eql=>some ([],.bool (a==b))
   | .neq=>some ([],.bool (a !=b))
   | .lss=>some ([],.bool (decide (a<b)))
   | .leq=>some ([],.bool (decide (a<=b)))
   | .gtr=>some ([],.bool (decide (b<a)))
   | .geq=>some ([],.bool (decide (b<=a)))
   |_=>none) else none
 | .str a,.str b=>match op with
   | .add=>some ([(a.size:Int)+b.size<=9223372036854775807],.str (a++b))
   | .eql=>some ([],.bool (a==b))
   | .neq=>some ([],.bool (a !=b))
   |_=>none
 |_,_=>none
def aun (op:UnOp):aC U->Option (aC U)
 | .int k a=>match op with
  | .neg=>some (.int k (k.wrap (0-a)))
  |_=>none
 | .bool b=>match op with
  | .not=>some (.bool (!b))
  |_=>none
 |_=>none
abbrev Out (U:eO):=Option (List Prop×aC U×Option (Nat×aT U))
def val (v:aC U):Out U:=some ([],v,none)
def val? (v:Option (aC U)):Out U:=match v with
 |some v=>some ([],v,none)
 |none=>none
def aJY (P:Program) (t:TypeId):Prop:=P.stoodInHeld t=false/\P.eqGuardType P.depth t=false/\(P.fieldsOf t).toList.all (fun f=>f.name != "_")=true
def aC.Hf:aC U->Bool
 | .fn _ []=>true
 |v=>v.flat
def aC.Pa:aC U->Bool
 | .agg l=>l.all aC.Hf
 |v=>v.Hf
def dZ:List Prop->Prop
 |[]=>True
 |[p]=>p
 |p::q::r=>p/\dZ (q::r)
structure Cfg (U:eO) where
 P:Program
 E:Enc U
 elt:TypeId->Option U.τ
 sum:FuncId->Option (List (aC U)->Option (List Prop×aC U))
 eff:FuncId->Option (List (aC U)->aT U->Option (List Prop×aC U×aT U)):=fun _=>none
 plain:TypeId->Bool
 plainOK:∀t,plain t=true->aJY P t
 deep:Bool
 inv:World->Prop
 invOK:∀w w',inv w->Below w.heap.size w w'->inv w'
 off:Nat:=0
 hb:Nat:=1000000
 dep:Nat:=0
 dem:Bool:=false
 pur:Bool:=false
 inl:FuncId->Option (Func×Code):=fun _=>none
 inlOK:∀f fn c,inl f=some (fn,c)->P.funcs[f]?=some fn/\fn.body=some c/\∀(args:Array Value) (w:World),(callFunc f args).run P w=.ok (.enter f args) w:=by intros;contradiction
 frzOf:U.φ->TypeId->Option (Int->aC U×aC U):=fun _ _=>none
 frzOK:∀k t f,frzOf k t=some f->∀(w:World) (st:Nat->Prop) (v:Value) (n:Int),E.frep k w st v->∃u b,(Instr.lookup t v (.int .i64 n) true).run P w=.ok (.tuple #[u,b]) w/\Rel E w (fun _=>none) st (f n).1 u/\Rel E w (fun _=>none) st (f n).2 b/\(f n).1.Pa=true/\(f n).2.flat=true:=by intros;contradiction
 opqOf:TypeId->Option ((k:U.κ)×U.K k):=fun _=>none
 opqOK:∀t x,opqOf t=some x->∀(w:World) (base:Nat),base<=w.heap.size->∃w',(Instr.alloc t true (.tuple #[])).run P w=.ok (.pointer (some ⟨w.heap.size,0,none⟩)) w'/\Below w.heap.size w w'/\
  E.rep x.1 x.2 w' base (some (0,.pointer (some ⟨w.heap.size,0,none⟩))) (fun _=>none):=by intros;contradiction
 hook:Oper->List (aC U)->Option (List Prop×aC U):=fun _ _=>none
 hookOK:∀o xs cs r,hook o xs=some (cs,r)->dZ cs->∀(a:Act) (w:World),(∀k:Nat,∀v,xs[k]?=some (.raw v)->(o.op.operands.toList.map a.eval)[k]?=some v)->(∀k:Nat,∀kd n,xs[k]?=some (.int kd n)->(o.op.operands.toList.map a.eval)[k]?=some (.int kd n))->
  ∃u,(∀w' ρ st,Rel E w' ρ st r u)/\∀(K:Act->World->Prop) (Q:Exit->Act->World->Prop),(∀w',Below w.heap.size w w'->K (a.put o.dst u) w')->o.wp P a w K Q:=by intros;contradiction
def Qz (P:Program) (j:TypeId->aC U->aC U->Option Bool) (xs ys:List (aC U)):List Field->Option Bool
 |[]=>some true
 |f::u=>match partOf P f.type xs f.offset,partOf P f.type ys f.offset with
  |some a,some b=>match j f.type a b,Qz P j xs ys u with
   |some p,some q=>some (p&&q)
   |_,_=>none
  |_,_=>none
def Qy (P:Program) (f:TypeId->aC U->aC U->Option Bool) (e n:Nat) (xs ys:List (aC U)):List Nat->Option Bool
 |[]=>some true
 |i::j=>match partOf P e xs (i*n),partOf P e ys (i*n) with
  |some a,some b=>match f e a b,Qy P f e n xs ys j with
   |some p,some q=>some (p&&q)
   |_,_=>none
  |_,_=>none
def aeq (C:Cfg U):Nat->TypeId->aC U->aC U->Option Bool
 |0,_,_,_=>none
 |d+1,t,x,y=>match x,y with
  | .bool a,.bool b=>match C.P.underlying t with
   |some .bool=>some (a==b)
   |_=>none
  | .int k a,.int u b=>match C.P.underlying t with
   |some (.int _)=>if k=u then some (a==b) else none
   |_=>none
  | .str a,.str b=>match C.P.underlying t with
   |some .string=>some (a==b)
   |_=>none
  | .agg xs,.agg j=>match C.P.underlying t with
   |some (.struct f)=>cond (C.plain t) (Qz C.P (aeq C d) xs j f.toList) none
   |some (.array len e)=>match iO C.P e with
    |some n=>Qy C.P (aeq C d) e n xs j (List.range len)
    |none=>none
   |_=>none
  |_,_=>none
def mw (C:Cfg U) (op:BinOp) (t:TypeId) (x y:aC U):Option (List Prop×aC U):=
 match x,y with
 | .agg xs,.agg f=>cond (C.plain t) (match op,aeq C 40 t (.agg xs) (.agg f) with
  | .eql,some b=>some ([],.bool b)
  | .neq,some b=>some ([],.bool !b)
  |_,_=>none) none
 | .bool a,.bool b=>match op,aeq C 1 t (.bool a) (.bool b) with
  | .eql,some b=>some ([],.bool b)
  | .neq,some b=>some ([],.bool !b)
  |_,_=>none
 |x,y=>mz op x y
def aEj:aC U->Option Bool
 | .ifc b=>some b
 | .raw .nilIface=>some true
 | .raw (.iface _ _)=>some false
 |_=>none
def mo (P:Program) (op:BinOp) (t:TypeId) (x:aC U) (y:Operand):Option (aC U):=
 match aEj x,y with
 |some b,.const .nilIface=>match P.underlying t with
  |some (.interface _)=>match op with
   | .eql=>some (.bool b)
   | .neq=>some (.bool !b)
   |_=>none
  |_=>none
 |_,_=>none
def mq (P:Program) (op:BinOp) (t:TypeId) (x:aC U) (y:Operand):Option (aC U):=
 match y with
 | .const .nilIface=>mo P op t x (.const .nilIface)
 |_=>none
def lG (C:Cfg U) (t:TypeId):Option U.τ:=
 match C.P.underlying t with
 |some (.slice e)=>match iO C.P e,C.elt e with
  |some n,some τ=>cond (Nat.beq n (U.size τ)&&Nat.beq e (U.ety τ)) (some τ) none
  |_,_=>none
 |_=>none
def stays:Nat->aC U->Bool
 |_,.int _ _|_,.bool _|_,.str _|_,.nils|_,.raw _|_,.frz _|_,.sl _ _=>true
 |d+1,.ref l _=>l.all (stays d)
 |d+1,.fn _ l=>l.all (stays d)
 |_,_=>false
def Qw (f:aC U->Option (aC U×Bool)):List (aC U)->Option (List (aC U)×Bool)
 |[]=>some ([],false)
 |v::j=>match f v,Qw f j with
  |some (x,b),some (xs,u)=>some (x::xs,b||u)
  |_,_=>none
def Rj (f:TypeId->aC U->Option (aC U×Bool)):List TypeId->List (aC U)->Option (List (aC U)×Bool)
 |[],[]=>some ([],false)
 |t::u,v::j=>match f t v,Rj f u j with
  |some (x,b),some (xs,G)=>some (x::xs,b||G)
  |_,_=>none
 |_,_=>none
def dP (P:Program):Nat->TypeId->List TypeId
 |0,t=>[t]
 |d+1,t=>match P.underlying t with
  |some (.struct j)=>j.toList.flatMap fun f=>dP P d f.type
  |some (.array m e)=>(List.replicate m (dP P d e)).flatten
  |_=>[t]
def byC (C:Cfg U) (look:Nat->Option (aT U)):Nat->TypeId->aC U->Option (aC U×Bool)
 |0,_,_=>none
 |d+1,G,v=>match v with
  | .osl id g=>match look id with
   |some (.row t u xs)=>cond (Nat.beq g u) (some (.sl t xs,true)) none
   |some (.deep t u _ xs)=>cond (Nat.beq g u) (some (.sl t xs,true)) none
   |_=>none
  | .msl id i g=>match sH C.E look id i g with
   |some ⟨I,j⟩=>some (.sl I j,true)
   |none=>none
  | .nils=>match lG C G with
   |some t=>some (.sl t [],false)
   |none=>none
  | .ptr id off=>match look id with
   |some (.cells l)=>match Qw (byC C look d 0) l with
    |some (j,_)=>some (.ref j off,true)
    |none=>none
   |_=>none
  | .fn f l=>match Qw (byC C look d 0) l with
   |some (j,b)=>some (.fn f j,b)
   |none=>none
  | .agg l=>match l.all fun c=>match c with | .nils=>false|c=>c.flat with
   |true=>some (.agg l,false)
   |false=>match Rj (byC C look d) (dP C.P 20 G) l with
    |some (j,b)=>some (.agg j,b)
    |none=>none
  | .int k n=>some (.int k n,false)
  | .bool b=>some (.bool b,false)
  | .str s=>some (.str s,false)
  | .sl t xs=>some (.sl t xs,false)
  | .frz k=>some (.frz k,false)
  | .ref l off=>cond (stays 4 (.ref l off)) (some (.ref l off,false)) none
  | .raw v=>some (.raw v,false)
  |_=>none
def aIG (C:Cfg U) (look:Nat->Option (aT U)) (ty:TypeId) (v:aC U):Option (aC U×Bool):=byC C look 5 ty v
def Cl (C:Cfg U) (look:Nat->Option (aT U)):List TypeId->List (aC U)->Option (List (aC U)×Bool)
 |[],[]=>some ([],false)
 |t::j,v::f=>match aIG C look t v,Cl C look j f with
  |some (x,b),some (xs,u)=>some (x::xs,b||u)
  |_,_=>none
 |_,_=>none
def aI0 (E:Enc U) (d:Option TypeDesc) (look:Nat->Option (aT U)) (x:aC U):Option Int:=
 match d,x with
 |some .string,.str s=>some s.size
 |some (.slice _),.sl _ xs=>some xs.length
 |some (.slice _),.nils=>some 0
 |some (.slice _),.osl id g=>match look id with
  |some (.row _ f xs)=>cond (Nat.beq g f) (some xs.length) none
  |some (.deep _ f _ xs)=>cond (Nat.beq g f) (some xs.length) none
  |_=>none
 |some (.slice _),.msl id i g=>match sH E look id i g with
  |some ⟨_,j⟩=>some j.length
  |none=>none
 |some (.slice _),.ovw id g lo hi _=>match look id with
  |some (.row _ f _)=>cond (Nat.beq g f) (some ((hi-lo:Nat):Int)) none
  |_=>none
 |some (.array n _),_=>some n
 |_,_=>none
def zn:List (aC U)->Option (aC U)
 |[.int k a,.int f b]=>if k=f then some (.int k (if b<a then b else a)) else none
 |[.int k a,.int f b,.int j c]=>if k=f/\k=j then some (.int k (if c<(if b<a then b else a) then c else (if b<a then b else a))) else none
 |_=>none
def vV (a b:Int):Int:=if a<b then b else a
def zx:List (aC U)->Option (aC U)
 |[.int k a,.int f b]=>if k=f then some (.int k (if a<b then b else a)) else none
 |[.int k a,.int f b,.int j c]=>if k=f/\k=j then some (.int k (if (if a<b then b else a)<c then c else (if a<b then b else a))) else none
 |[.int .i64 a,.int .i64 b,.int .i64 c,.int .i64 d,.int .i64 e]=>some (.int .i64 (vV (vV (vV (vV a b) c) d) e))
 |_=>none
def oD (t f:U.τ) (xs:List (U.T f)):Option (List (U.T t)):=
 match U.deq f t with
 | .isTrue h=>some (h▸xs)
 | .isFalse _=>none
def rowOf (E:Enc U) (look:Nat->Option (aT U)) (t:U.τ):aC U->Option (List (U.T t))
 | .osl id g=>match look id with
  |some (.row f u j)=>cond (Nat.beq g u) (oD t f j) none
  |_=>none
 | .sl f j=>oD t f j
 | .nils=>some []
 | .msl id i g=>match sH E look id i g with
  |some ⟨f,j⟩=>oD t f j
  |none=>none
 | .ovw id g lo hi G=>match look id with
  |some (.row f u j)=>cond (Nat.beq g u&&Nat.beq G (U.size f)) (oD t f ((j.take hi).drop lo)) none
  |_=>none
 |_=>none
def na (C:Cfg U) (look:Nat->Option (aT U)) (d:Nat) (argTypes:Array TypeId) (x y:aC U):Out U:=
 match argTypes.toList with
 |[t,t']=>cond (Nat.beq t t') (match lG C t with
  |some τ=>match C.P.info? (U.ety τ) with
   |some i=>match i.zero with
    |some z=>cond (Nat.beq z.cells.size (U.size τ)&&Nat.ble 1 i.bytes) (match rowOf C.E look τ y with
     |some f=>match x with
      | .nils=>match look d with
       |none=>some ([f.length*i.bytes<=140737488355328],.osl d 0,some (d,.row τ 0 f))
       |some _=>none
      | .osl id g=>match rowOf C.E look τ (.osl id g) with
       |some xs=>some ([(xs.length+f.length)*i.bytes<=140737488355328],.osl id (g+1),some (id,.row τ (g+1) (xs++f)))
       |none=>none
      |_=>none
     |none=>none) none
    |none=>none
   |none=>none
  |none=>none) none
 |_=>none
def Pe (P:Program) (t:TypeId) (f:Nat):Option Nat:=
 match P.underlying t with
 |some (.struct j)=>match j[f]? with
  |some u=>match iO P u.type with
   |some (_+1)=>some u.offset
   |_=>none
  |none=>none
 |_=>none
def Pd (P:Program):List Field->Option (List (Nat×Nat))
 |[]=>some []
 |f::j=>match iO P f.type,Pd P j with
  |some n,some r=>some ((f.offset,n)::r)
  |_,_=>none
def placesOf (P:Program) (t:TypeId):Option (Nat->Option (Nat×Nat)):=
 match P.underlying t with
 |some (.struct f)=>match Pd P f.toList with
  |some r=>some fun i=>r[i]?
  |none=>none
 |some (.array _ e)=>match iO P e with
  |some n=>some fun i=>some (i*n,n)
  |none=>none
 |_=>none
def Xy (C:Cfg U) (look:Nat->Option (aT U)) (t:TypeId) (x:aC U) (i:Int):Out U:=
 match C.P.underlying t with
 |some (.slice e)=>match x with
  | .sl τ xs=>cond (match iO C.P e with|some n=>Nat.beq n (U.size τ)|none=>false)
    (some ([0<=i/\i<xs.length],.ref (C.E.enc τ (xs.getD i.toNat (C.E.dflt τ))) 0,none)) none
  | .osl id g=>match look id with
   |some (.row τ f xs)=>cond (Nat.beq g f&&(match iO C.P e with|some n=>Nat.beq n (U.size τ)|none=>false))
     (some ([0<=i/\i<xs.length],.eptr id g i.toNat 0 (U.size τ),none)) none
   |some (.deep τ f _ xs)=>cond (Nat.beq g f&&(match iO C.P e with|some n=>Nat.beq n (U.size τ)|none=>false))
     (some ([0<=i/\i<xs.length],.eptr id g i.toNat 0 (U.size τ),none)) none
   |_=>none
  | .msl id k g=>match sH C.E look id k g with
   |some ⟨τ,j⟩=>cond (match iO C.P e with|some n=>Nat.beq n (U.size τ)|none=>false)
     (some ([0<=i/\i<j.length],.meptr id k g i.toNat 0 (U.size τ),none)) none
   |none=>none
  | .nils=>some ([False],.any,none)
  | .ovw id g lo hi u=>match look id with
   |some (.row τ f _)=>cond (Nat.beq g f&&Nat.beq u (U.size τ)&&(match iO C.P e with|some n=>Nat.beq n (U.size τ)|none=>false))
     (some ([0<=i/\i<(hi-lo:Nat)],.eptr id g (lo+i.toNat) 0 (U.size τ),none)) none
   |_=>none
  |_=>none
 |some (.array len e)=>match iO C.P e with
  |some n=>match x with
   | .ptr id off=>some ([0<=i/\i<len],.ptr id (off+i.toNat*n),none)
   | .ref l off=>some ([0<=i/\i<len],.ref l (off+i.toNat*n),none)
   |_=>none
  |none=>none
 |_=>none
def Xd (P:Program) (look:Nat->Option (aT U)) (t:TypeId):aC U->Out U
 | .eptr id g i off u=>match look id with
  |some (.rowF _ j _ G m f)=>match P.underlying t,wD P t with
   |some _,false=>cond (Nat.beq g j&&Nat.beq off 0&&Nat.beq u 1) (some ([i=G],.osl m f,none)) none
   |_,_=>none
  |some (.deep _ j f _)=>match P.underlying t,wD P t with
   |some _,false=>cond (Nat.beq g j&&Nat.beq off 0&&Nat.beq u 1) (some ([],.msl id i f,none)) none
   |_,_=>none
  |_=>none
 |_=>none
def Xx (C:Cfg U) (look:Nat->Option (aT U)) (t:TypeId) (x:aC U) (i:Int):Out U:=
 match C.P.underlying t,x with
 |some (.slice e),.osl id g=>match look id with
  |some (.rowF τ f xs _ _ _)=>cond (Nat.beq g f&&(match iO C.P e with|some n=>Nat.beq n (U.size τ)|none=>false))
    (some ([0<=i/\i<xs.length],.eptr id g i.toNat 0 (U.size τ),none)) none
  |_=>none
 |_,_=>none
def indexOf (C:Cfg U) (t:TypeId) (x:aC U) (i:Int):Out U:=
 match C.P.underlying t,x with
 |some .string,.str s=>some ([0<=i/\i<s.size],.int .u8 (s.data.toList.getD i.toNat 0).toNat,none)
 |some (.array len e),.agg l=>match iO C.P e with
  |some n=>match partOf C.P e l (i.toNat*n) with
   |some v=>some ([0<=i/\i<len],v,none)
   |none=>none
  |none=>none
 |_,_=>none
def vF (C:Cfg U) (t:TypeId) (x:aC U) (lo hi:Option (aC U)):Out U:=
 match C.P.underlying t,x with
 |some .string,.str s=>match lo,hi with
  |some (.int _ l),some (.int _ h)=>some ([0<=l/\l<=h/\h<=s.size],.str (s.extract l.toNat h.toNat),none)
  |some (.int _ l),none=>some ([0<=l/\l<=s.size],.str (s.extract l.toNat s.size),none)
  |none,some (.int _ h)=>some ([0<=h/\h<=s.size],.str (s.extract 0 h.toNat),none)
  |none,none=>some ([],.str (s.extract 0 s.size),none)
  |_,_=>none
 |some (.slice e),.sl τ xs=>cond (match iO C.P e with|some n=>Nat.beq n (U.size τ)|none=>false) (match lo,hi with
  |some (.int _ l),some (.int _ h)=>some ([0<=l/\l<=h/\h<=xs.length],.sl τ ((xs.drop l.toNat).take (h.toNat-l.toNat)),none)
  |some (.int _ l),none=>some ([0<=l/\l<=xs.length],.sl τ (xs.drop l.toNat),none)
  |none,some (.int _ h)=>some ([0<=h/\h<=xs.length],.sl τ (xs.take h.toNat),none)
  |none,none=>some ([],.sl τ xs,none)
  |_,_=>none) none
 |_,_=>none
abbrev eA (U:eO):=(_:Bool)×(t:U.τ)×List (U.T t)
def eA.obj:eA U->aT U
 |⟨false,t,xs⟩=>.row t 0 xs
 |⟨true,t,xs⟩=>.deep t 0 0 xs
def iP:aC U->List (eA U)
 | .new t xs=>[⟨false,t,xs⟩]
 | .newd t xs=>[⟨true,t,xs⟩]
 |_=>[]
def gU:aC U->List (eA U)
 | .agg l=>l.flatMap iP
 |v=>iP v
def aC.news:aC U->List (eA U)
 | .tup l=>l.flatMap gU
 |v=>gU v
def lI (g:Nat->aC U->aC U):Nat->List (aC U)->List (aC U)
 |_,[]=>[]
 |k,c::l=>g k c::lI g (k+(iP c).length) l
def oP (g:Nat->aC U->aC U) (k:Nat):aC U->aC U
 | .agg l=>.agg (lI g k l)
 |v=>g k v
def kZ (g:Nat->aC U->aC U):Nat->List (aC U)->List (aC U)
 |_,[]=>[]
 |k,c::l=>oP g k c::kZ g (k+(gU c).length) l
def Xg (g:Nat->aC U->aC U):aC U->aC U
 | .tup l=>.tup (kZ g 0 l)
 |v=>oP g 0 v
def hJ:aC U->aC U
 | .new t xs=>.sl t xs
 | .newd t xs=>.sl t xs
 |v=>v
def jZ (f:Nat->Nat) (k:Nat):aC U->aC U
 | .new _ _=>.osl (f k) 0
 | .newd _ _=>.osl (f k) 0
 |v=>v
def aC.down (r:aC U):aC U:=Xg (fun _=>hJ) r
def aC.yL (f:Nat->Nat) (r:aC U):aC U:=Xg (jZ f) r
def Gd:aC U->Bool
 | .new _ _=>true
 | .newd _ _=>true
 |c=>c.flat
def yc:aC U->Bool
 | .agg l=>l.all Gd
 |v=>Gd v
def aC.Vu:aC U->Bool
 | .tup l=>l.all yc
 |v=>yc v
def Br (E:Enc U):aC U->Bool
 | .new t _=>E.plain t
 | .newd t _=>match E.inner t with
  |some f=>E.plain f
  |none=>false
 |c=>c.pure
def Zg (E:Enc U):aC U->Bool
 | .agg l=>l.all (Br E)
 |v=>Br E v
def aC.fresh (E:Enc U):aC U->Bool
 | .tup l=>l.all (Zg E)
 |v=>Zg E v
def yn:aC U->Bool
 | .nils=>true
 | .int _ _=>true
 |_=>false
def mj (C:Cfg U) (look:Nat->Option (aT U)) (m:List (aC U)->Option (List Prop×aC U)) (j:List TypeId) (f:List (aC U)):Option (List (aC U)×Bool):=
 cond (f.all yn&&(m f).isSome) (some (f,false)) (Cl C look j f)
def zH (C:Cfg U) (look:Nat->Option (aT U)) (f:FuncId) (argTypes:List TypeId) (j:List (aC U)):Option (List Prop×aC U):=
 match C.sum f with
 |some m=>match mj C look m argTypes j with
  |some (xs,own)=>match m xs with
   |some (u,r)=>cond (r.Vu&&(!own||r.fresh C.E)) (some (u,r)) none
   |none=>none
  |none=>none
 |none=>none
def B0 (C:Cfg U) (look:Nat->Option (aT U)) (dst:Option Nat) (f:FuncId) (argTypes:List TypeId) (u:List (aC U)):Out U:=
 match zH C look f argTypes u with
 |some (j,r)=>match r.news with
  |[]=>some (j,r.yL (0+·),none)
  |[x]=>match dst with
   |some d=>match look d with
    |none=>some (j,r.yL (d+·),some (d,x.obj))
    |some _=>none
   |none=>none
  |_=>cond C.dem (some (j,r.down,none)) none
 |none=>none
def Cfg.dm (C:Cfg U):Cfg U:={C with dem:=true}
def rA (s:ASt U) (b:Nat):List (eA U)->ASt U
 |[]=>s
 |x::l=>rA (s.obj b x.obj) (b+1) l
def Ze (look:Nat->Option (aT U)) (b:Nat):Nat->Bool
 |0=>true
 |m+1=>(match look (b+m) with
  |none=>true
  |some _=>false)&&Ze look b m
def ownArg:Nat->List (aC U)->Option (Nat×Nat)
 |_,[]=>none
 |k,.ptr id _::_=>some (k,id)
 |k,.osl id _::_=>some (k,id)
 |k,_::l=>ownArg (k+1) l
def Zs (id f:Nat):aC U->Option (aC U)
 | .ptr i off=>cond (Nat.beq i id) (some (.ptr f off)) none
 | .osl i g=>cond (Nat.beq i id) (some (.osl f g)) none
 | .agg l=>cond (l.all aC.flat) (some (.agg l)) none
 |c=>cond c.Hf (some c) none
def Hj (id f:Nat):List (aC U)->Option (List (aC U))
 |[]=>some []
 |x::l=>match Zs id f x,Hj id f l with
  |some y,some m=>some (y::m)
  |_,_=>none
def aT.closed:aT U->Bool
 | .cells l=>l.all aC.flat
 | .rowF _ _ _ _ _ _=>false
 | .deepS _ _ _ _ _ | .deepF _ _ _ _ _ _ | .one _ _ _ _=>false
 |_=>true
def Q7:aC U->Bool
 | .agg l=>l.all aC.pure
 |c=>c.pure
def aC.yF:aC U->Bool
 | .tup l=>l.all Q7
 |v=>Q7 v
def Gc (f:Nat):aC U->aT U->Bool
 | .osl k g,.row _ j _=>Nat.beq k f&&Nat.beq g j
 |_,_=>false
def jw (id f:Nat):aC U->aC U
 | .osl k g=>cond (Nat.beq k f) (.osl id g) (.osl k g)
 |r=>r
def jv (look:Nat->Option (aT U)) (m:List (aC U)->aT U->Option (List Prop×aC U×aT U)) (u:List (aC U)):Out U:=
 match ownArg 0 u with
 |some (j,id)=>match look id with
  |some ob=>match Hj id j u with
   |some xs=>match m xs ob with
    |some (G,r,f)=>cond (ob.closed&&f.closed&&(r.yF||Gc j r f)) (some (G,jw id j r,some (id,f))) none
    |none=>none
   |none=>none
  |none=>none
 |none=>none
def Wv (look:Nat->Option (aT U)) (fo:Nat):aC U->Out U
 | .ptr id off=>val (.ptr id (off+fo))
 | .eptr id g i off f=>cond (storable look (.eptr id g i off f)) (val (.eptr id g i (off+fo) f)) none
 | .ref l off=>val (.ref l (off+fo))
 | .meptr id i g j off f=>cond (storable look (.meptr id i g j off f)) (val (.meptr id i g j (off+fo) f)) none
 |_=>none
def lz (look:Nat->Option (aT U)) (τ:U.τ) (len:Nat):List (Nat×aC U)->Out U
 |[(0,.osl m u)]=>match look m with
  |some (.row j f G)=>match U.unsl τ j G with
   |some y=>cond (Nat.beq len 1&&Nat.beq u f&&Nat.beq (U.size τ) 1) (some ([],.sl τ [y],some (m,.row j (u+1) []))) none
   |none=>none
  |_=>none
 |_=>none
def Uo:List (aC U)->Option (List Value)
 |[]=>some []
 | .int k n::l=>match Uo l with
  |some f=>some (.int k n::f)
  |none=>none
 |_=>none
def aop (C:Cfg U) (o:Oper) (u:Operand->aC U) (look:Nat->Option (aT U)):Out U:=
 match o.op with
 | .move x | .assign x=>val (u x)
 | .pick c a b=>match u c,u a,u b with
  | .bool c,.bool x,.bool y=>val (.bool (cond c x y))
  | .bool c,x,y=>match c with
   |true=>val x
   |false=>val y
  |_,_,_=>none
 | .alloc t=>match o.dst with
  |some d=>match look (C.off+d) with
   |none=>match C.opqOf t with
    |some x=>some ([],.ptr (C.off+d) 0,some (C.off+d,.opq x.1 x.2))
    |none=>match zeroCells C.P t with
     |some V=>some ([],.ptr (C.off+d) 0,some (C.off+d,.cells V))
     |none=>none
   |some _=>none
  |_=>none
 | .box t x=>match o.dst with
  |some d=>match look (C.off+d) with
   |none=>cond ((u x).cellsOf.all (storable look)) (some ([],.ptr (C.off+d) 0,some (C.off+d,.cells (u x).cellsOf))) none
   |some _=>none
  |none=>none
 | .build t G=>match placesOf C.P t,zeroCells C.P t with
  |some pl,some z=>match oY look pl z (G.toList.map fun p=>(p.1,u p.2)) with
   |some l=>val (.agg l)
   |none=>none
  |_,_=>none
 | .buildSlice t len G=>match o.dst,lG C t with
  |some d,some τ=>match look (C.off+d),zeroCells C.P (U.ety τ) with
   |none,some z=>cond (Nat.beq z.length (U.size τ)&&Nat.ble (len*U.size τ) 16777216)
     (match oY look (fun i=>some (i*U.size τ,U.size τ)) ((List.replicate len z).flatten) (G.toList.map fun p=>(p.1,u p.2)) with
      |some l=>match Ca C.E τ len l with
       |some xs=>cond C.pur (some ([],.sl τ xs,none)) (match C.E.plain τ with
        |true=>some ([],.osl (C.off+d) 0,some (C.off+d,.row τ 0 xs))
        |false=>cond C.deep none (some ([],.sl τ xs,some (C.off+d,.row τ 1 []))))
       |none=>cond (C.deep||C.pur) none (lz look τ len (G.toList.map fun p=>(p.1,u p.2)))
      |none=>none) none
   |_,_=>none
  |_,_=>none
 | .makeSlice t x y=>match o.dst,lG C t with
  |some d,some τ=>match look (C.off+d),zeroCells C.P (U.ety τ),C.P.info? (U.ety τ) with
   |none,some z,some i=>match C.E.dec τ z,u x,u y with
    |some e,.int _ n,.int _ m=>cond (Nat.beq z.length (U.size τ)&&Nat.ble 1 i.bytes) (match C.deep,C.E.inner τ with
     |true,some _=>none
     |_,_=>some ([0<=n/\m=n/\n*(i.bytes:Int)<=140737488355328],.osl (C.off+d) 0,some (C.off+d,.row τ 0 (List.replicate n.toNat e)))) none
    |_,_,_=>none
   |_,_,_=>none
  |_,_=>none
 | .load t a=>match behind C.E look (u a) with
  |some (l,off)=>val? (partOf C.P t l off)
  |none=>Xd C.P look t (u a)
 | .store t a x=>match iO C.P t with
  |some n=>cond (Nat.beq (u x).cellsOf.length n) (match storeAt C.E look (u a) (u x).cellsOf with
   |some ob=>some ([],.raw undef,some ob)
   |none=>match Oz look (u a) (u x) with
    |some ob=>some ([],.raw undef,some ob)
    |none=>none) none
  |none=>none
 | .binOp op t x y _=>match mq C.P op t (u x) y with
  |some v=>val v
  |none=>match mw C op t (u x) (u y) with
   |some (V,v)=>some (V,v,none)
   |none=>none
 | .unOp op _ x=>val? (aun op (u x))
 | .fieldAddr t x f=>match Pe C.P t f with
  |some fo=>Wv look fo (u x)
  |none=>none
 | .field t x f=>match C.P.underlying t with
  |some (.struct L)=>match L[f]?,u x with
   |some Z,.agg l=>val? (partOf C.P Z.type l Z.offset)
   |_,_=>none
  |_=>none
 | .indexAddr t x S=>match u S with
  | .int _ i=>match Xy C look t (u x) i with
   |some r=>some r
   |none=>Xx C look t (u x) i
  |_=>none
 | .index t x S=>match u S with
  | .int _ i=>indexOf C t (u x) i
  |_=>none
 | .slice t x lo hi none=>match lo,hi with
  |some lo,some hi=>vF C t (u x) (some (u lo)) (some (u hi))
  |some lo,none=>vF C t (u x) (some (u lo)) none
  |none,some hi=>vF C t (u x) none (some (u hi))
  |none,none=>vF C t (u x) none none
 | .convert src dst x=>match C.P.underlying src,C.P.underlying dst,u x with
  |some _,some (.int k),.int _ n=>val (.int k (k.wrap n))
  |_,_,_=>none
 | .makeInterface t x=>match C.P.underlying t,u x with
  |some (.struct _),.agg l=>match Uo l with
   |some vs=>val (.raw (.iface t (.agg vs.toArray)))
   |none=>none
  |_,_=>none
 | .lookup t m x ok=>match ok,u m,u x with
  |true,.frz k,.int .i64 n=>match C.frzOf k t with
   |some f=>val (.tup [(f n).1,(f n).2])
   |none=>none
  |_,_,_=>none
 | .extract t i=>match u t with
  | .tup l=>val? (l[i]?)
  |_=>none
 | .call c=>match c.callee with
  | .builtin .len=>match c.args.toList,c.argTypes.toList with
   |[x],[t]=>match aI0 C.E (C.P.underlying t) look (u x) with
    |some n=>val (.int .i64 n)
    |none=>none
   |_,_=>none
  | .builtin .min=>val? (zn (c.args.toList.map u))
  | .builtin .max=>val? (zx (c.args.toList.map u))
  | .builtin .append=>match o.dst,c.args.toList with
   |some d,[x,y]=>na C look (C.off+d) c.argTypes (u x) (u y)
   |_,_=>none
  | .value x=>match u x with
   | .fn f J=>match C.eff f with
    |none=>B0 C look (o.dst.map (C.off+·)) f (c.argTypes.toList++List.replicate J.length 0) (c.args.toList.map u++J)
    |some m=>jv look m (c.args.toList.map u++J)
   |_=>none
  |_=>none
 | .makeFunc fn first I=>match fn with
  | .func f=>cond (Nat.beq first.size 0) (val (.fn f (I.toList.map u))) none
  |_=>none
 | .nilCheck x=>match u x with
  | .ptr id off=>val (.ptr id off)
  | .eptr id g i off O=>cond (storable look (.eptr id g i off O)) (val (.eptr id g i off O)) none
  | .meptr id i g j off O=>cond (storable look (.meptr id i g j off O)) (val (.meptr id i g j off O)) none
  | .ref l off=>val (.ref l off)
  |_=>none
 |_=>none
end
section
variable {U:eO}
structure Fr where
 w0:World
 we:World
 K:Nat->Prop
 lt:∀b,K b->b<we.heap.size
 le:w0.heap.size<=we.heap.size
 pin:Nat->Option (Nat×Value)
 pinp:∀id p,pin id=some p->∃a,p.2=.pointer a
 hv:Nat->Value:=fun _=>undef
 ds:List Deferred:=[]
instance:Coe Fr World:=⟨Fr.w0⟩
def Fr.heap (F:Fr):Array Obj:=F.w0.heap
def Fr.pure (w:World):Fr:=⟨w,w,fun _=>False,fun _ h=>h.elim,QP _,fun _=>none,(fun _ _ h=>by cases h),fun _=>undef,[]⟩
def _root_.Go.Act.kE (a:Act) (F:Fr) (t:Nat):Value:=cond (Nat.blt t 1000000) (a.tmps.getD t undef) (F.hv t)
def aD (N:Nat->Prop) (ρ:Own) (w:World) (b:Nat):Prop:=
 b<w.heap.size/\¬N b/\∀nm g u,ρ nm=some (g,u)->blk u≠some b
def gF (E:Enc U) (w:World) (ρ:Own) (st:Nat->Prop) (base id:Nat):aT U->Prop
 | .cells l=>∃b c O,ρ (.ob id)=some (0,.pointer (some ⟨b,0,none⟩))/\base<=b/\w.heap[b]?=some (.cells c O (0,0))/\c.size=l.length/\
   ∀k (h:k<l.length),Rel E w ρ st l[k] (c.getD k undef)
 | .row t g xs=>∃u G,ρ (.ob id)=some (g,u)/\(∀a,u≠ .pointer a)/\w.ownsRow base (U.ety t) (U.size t) u xs.length G/\
   ∀i (h:i<xs.length) k (L:k<(E.enc t xs[i]).length),Rel E w ρ st (E.enc t xs[i])[k] (G.getD (i*U.size t+k) undef)
 | .rowF t g xs i m J=>∃u G,ρ (.ob id)=some (g,u)/\(∀a,u≠ .pointer a)/\w.ownsRow base (U.ety t) (U.size t) u xs.length G/\U.size t=1/\i<xs.length/\Rel E w ρ st (.osl m J) (G.getD i undef)/\
   ∀j (h:j<xs.length),j≠i->∀k (L:k<(E.enc t xs[j]).length),Rel E w ρ st (E.enc t xs[j])[k] (G.getD (j*U.size t+k) undef)
 | .deep t g J xs=>∃u G,ρ (.ob id)=some (g,u)/\(∀a,u≠ .pointer a)/\w.ownsRow base (U.ety t) (U.size t) u xs.length G/\U.size t=1/\(∀j,xs.length<=j->ρ (.mem id j)=none)/\
   ∀j (h:j<xs.length),∃f I v ds,E.enc t xs[j]=[.sl f I]/\ρ (.mem id j)=some (J,v)/\G.getD j undef=v/\(∀a,v≠ .pointer a)/\w.ownsRow base (U.ety f) (U.size f) v I.length ds/\
    ∀i (h:i<I.length) k (L:k<(E.enc f I[i]).length),Rel E w ρ st (E.enc f I[i])[k] (ds.getD (i*U.size f+k) undef)
 | .deepS t g J xs i=>∃u G,ρ (.ob id)=some (g,u)/\(∀a,u≠ .pointer a)/\w.ownsRow base (U.ety t) (U.size t) u xs.length G/\U.size t=1/\(∀j,xs.length<=j->ρ (.mem id j)=none)/\
   ∀j (h:j<xs.length),∃f I v ds,E.enc t xs[j]=[.sl f I]/\ρ (.mem id j)=some (J,v)/\(j≠i->G.getD j undef=v)/\(∀a,v≠ .pointer a)/\w.ownsRow base (U.ety f) (U.size f) v I.length ds/\
    ∀q (h:q<I.length) k (L:k<(E.enc f I[q]).length),Rel E w ρ st (E.enc f I[q])[k] (ds.getD (q*U.size f+k) undef)
 | .deepF t g J xs m S=>∃u G,ρ (.ob id)=some (g,u)/\(∀a,u≠ .pointer a)/\w.ownsRow base (U.ety t) (U.size t) u (xs.length+1) G/\U.size t=1/\(∀j,xs.length<=j->ρ (.mem id j)=none)/\Rel E w ρ st (.osl m S) (G.getD xs.length undef)/\
   ∀j (h:j<xs.length),∃f I v ds,E.enc t xs[j]=[.sl f I]/\ρ (.mem id j)=some (J,v)/\G.getD j undef=v/\(∀a,v≠ .pointer a)/\w.ownsRow base (U.ety f) (U.size f) v I.length ds/\
    ∀q (h:q<I.length) k (L:k<(E.enc f I[q]).length),Rel E w ρ st (E.enc f I[q])[k] (ds.getD (q*U.size f+k) undef)
 | .one t g m J=>∃u G,ρ (.ob id)=some (g,u)/\(∀a,u≠ .pointer a)/\w.ownsRow base (U.ety t) (U.size t) u 1 G/\U.size t=1/\Rel E w ρ st (.osl m J) (G.getD 0 undef)/\(G.getD 0 undef).oneCell'=true
 | .gone g J n=>ρ (.ob id)=some (g,.slice none 0 0)/\(∀j,j<n->ρ (.mem id j)=some (J,.slice none 0 0))/\∀j,n<=j->ρ (.mem id j)=none
 | .opq k d=>E.rep k d w base (ρ (.ob id)) (fun j=>ρ (.mem id j))
def aT.simple:aT U->Bool
 | .deep _ _ _ _ | .deepS _ _ _ _ _ | .deepF _ _ _ _ _ _ | .gone _ _ _ | .opq _ _=>false
 |_=>true
def aJZ (s:ASt U) (nm:Name):Prop:=∃ob,s.objs nm.id=some ob/\(ob.simple=true->∃id,nm=.ob id)
structure RR (E:Enc U) (n:Nat) (N:Nat->Prop) (w0:Fr) (ρ:Own) (s:ASt U) (a:Act) (w:World):Prop where
 defers:a.defers=w0.ds
 size:a.tmps.size=n
 tmps:∀t,Rel E w ρ (aD N ρ w) (s.tmps t) (a.kE w0 t)
 objs:∀id ob,s.objs id=some ob->gF E w ρ (aD N ρ w) w0.heap.size id ob
 dom:∀nm g u,ρ nm=some (g,u)->aJZ s nm
 sep:∀nm nm' g g' u u' b,ρ nm=some (g,u)->ρ nm'=some (g',u')->nm≠nm'->blk u=some b->blk u'≠some b
 below:Below w0.heap.size w0 w
 nlt:∀b,N b->b<w0.heap.size\/w0.K b
 kept:w0.we.heap.size<=w.heap.size/\∀b,w0.K b->w.heap[b]?=w0.we.heap[b]?
 free:∀nm g u b,ρ nm=some (g,u)->blk u=some b->¬w0.K b
 pin:∀id p,w0.pin id=some p->(∃ob,s.objs id=some ob)/\ρ (.ob id)=some p
 nle:n<=1000000
def R (E:Enc U) (n:Nat) (N:Nat->Prop) (w0:Fr) (s:ASt U) (a:Act) (w:World):Prop:=∃ρ,RR E n N w0 ρ s a w
variable {E:Enc U} {n:Nat} {N:Nat->Prop} {w0:Fr} {w w':World} {ρ ρ':Own} {s:ASt U} {a:Act}
theorem sE {base:Nat} {e:TypeId} {m k:Nat} {u:Value} {cs:List Value} (f:w.ownsRow base e m u k cs) (hp:∀a,u≠ .pointer a):u.oneCell'=true/\∀b,blk u=some b->base<=b/\b<w.heap.size:=by
 refine⟨?_,fun j G=>?_⟩
 ·rcases f.2 with ⟨rfl,_⟩|⟨_,_,_,rfl,_⟩<;>rfl
 ·refine f.lt j ?_;rcases f.2 with ⟨rfl,_⟩|⟨_,_,_,rfl,_⟩
  ·assumption
  assumption
theorem gF.val {st:Nat->Prop} {base id:Nat} {ob:aT U} (h:gF E w ρ st base id ob):∃g u,ρ (.ob id)=some (g,u)/\u.oneCell'=true/\∀b,blk u=some b->base<=b/\b<w.heap.size:=by
 cases ob with
 |cells l=>
  obtain⟨b,c,L,f,j,O,_⟩:=h;refine⟨_,_,f,rfl,fun V J=>?_⟩;grind [blk]
 |row t g xs=>
  obtain⟨u,I,f,hp,j,_⟩:=h;grind [sE]
 |rowF t g xs i m G=>
  obtain⟨u,I,f,hp,j,_⟩:=h;grind [sE]
 |deep t g G xs=>
  obtain⟨u,I,f,hp,j,_⟩:=h;grind [sE]
 |deepS t g G xs i=>
  obtain⟨u,I,f,hp,j,_⟩:=h;grind [sE]
 |deepF t g G xs m S=>
  obtain⟨u,I,f,hp,j,_⟩:=h;grind [sE]
 |one t g m G=>
  obtain⟨u,I,f,hp,j,_⟩:=h;grind [sE]
 |gone g G n=>
  exact⟨_,_,h.1,rfl,fun b hb=>by cases hb⟩
 |opq k d=>exact E.rep_val _ _ _ _ _ _ h
theorem gF.ry {st:Nat->Prop} {base id i g:Nat} {u:Value} {ob:aT U} (h:gF E w ρ st base id ob) (L:ob.simple=false) (j:ρ (.mem id i)=some (g,u)):u.oneCell'=true/\∀b,blk u=some b->base<=b/\b<w.heap.size:=by
 cases ob with
 |deep t J I xs=>
  obtain⟨O,cs,Z,hp,f,G,V,S⟩:=h
  by_cases hi:i<xs.length
  ·grind [sE]
  grind
 |deepS t J I xs i0=>
  obtain⟨O,cs,Z,hp,f,G,V,S⟩:=h
  by_cases hi:i<xs.length
  ·grind [sE]
  grind
 |deepF t J I xs m0 gq0=>
  obtain⟨O,cs,Z,hp,f,G,V,_,S⟩:=h
  by_cases hi:i<xs.length
  ·grind [sE]
  grind
 |gone J I n=>
  obtain⟨_,f,G⟩:=h
  by_cases hi:i<n
  ·rw[f i hi] at j;cases j;exact⟨rfl,fun b hb=>by cases hb⟩
  grind
 |opq k d=>exact E.rep_mem _ _ _ _ _ _ i _ _ h j
 |_=>cases L
theorem RR.own (h:RR E n N w0 ρ s a w) {nm:Name} {g:Nat} {u:Value} (G:ρ nm=some (g,u)):u.oneCell'=true/\∀b,blk u=some b->w0.heap.size<=b/\b<w.heap.size:=by
 obtain⟨ob,f,S⟩:=h.dom _ _ _ G;cases nm with
 |ob id=>
  obtain⟨L,I,J,Z,V⟩:=(h.objs _ _ f).val;have O:ρ (.ob id)=some (L,I):=J;grind
 |mem id i=>
  have j:ob.simple=false:=by
   grind
  exact(h.objs _ _ f).ry j G
theorem RR.qE (h:RR E n N w0 ρ s a w) {nm:Name} {g:Nat} {u:Value} {b:Nat} (f:ρ nm=some (g,u)) (hb:blk u=some b):¬N b:=fun G=>by
 have I:=((h.own f).2 _ hb).1;rcases h.nlt _ G with j|j
 ·omega
 ·exact h.free _ _ _ _ f hb j
theorem RR.T8 (h:RR E n N w0 ρ s a w) {b:Nat} (hb:w.heap.size<=b):¬N b:=fun j=>by
 rcases h.nlt _ j with f|f
 ·have:=h.below.size;have u:b<w0.w0.heap.size:=f;omega
 ·have:=w0.lt b f;have:=h.kept.1;omega
theorem RR.vU (h:RR E n N w0 ρ s a w) {id:Nat} (j:∀ob,s.objs id=some ob->ob.simple=true) (i:Nat):ρ (.mem id i)=none:=by
 cases u:ρ (.mem id i) with
 |none=>rfl
 |some p=>
  obtain⟨ob,f,G⟩:=h.dom _ p.1 p.2 u;obtain⟨_,e⟩:=G (j _ f);cases e
theorem P8 {st:Nat->Prop} (v:Value):Rel E w ρ st (ofConst v) v:=by
 unfold ofConst;split
 ·exact .int _ _
 ·exact .bool _
 ·exact .str _
 ·exact .nils
 ·exact .raw _
theorem u4 {a:Act} {F:Fr} {t:Nat} (h:t<1000000):a.kE F t=a.tmps.getD t undef:=by
 grind [Act.kE,Nat.blt,Nat.ble_eq_true_of_le]
theorem an {s:ASt U} {t:Nat} (h:t<1000000):s.look t=s.tmps t:=by
 grind [ASt.look,Nat.blt,Nat.ble_eq_true_of_le]
theorem ak {s:ASt U} {t:Nat} {x:aC U} (h:s.look t=x) (j:x≠ .any):t<1000000/\s.tmps t=x:=by
 by_cases f:t<1000000
 ·grind [an]
 ·have hb:Nat.blt t 1000000=false:=by
   cases hb:Nat.blt t 1000000
   ·rfl
   ·exact absurd (QR hb) f
  grind [ASt.look]
theorem RR.look (h:RR E n N w0 ρ s a w) (t:Nat):Rel E w ρ (aD N ρ w) (s.look t) (a.tmps.getD t undef):=by
 by_cases f:t<1000000
 ·rw[an f,<- u4 (F:=w0) f];exact h.tmps t
 ·have hb:Nat.blt t 1000000=false:=by
   cases hb:Nat.blt t 1000000
   ·rfl
   ·exact absurd (QR hb) f
  unfold ASt.look;rw[hb];exact .any _
theorem RR.eval (h:RR E n N w0 ρ s a w) (x:Operand):Rel E w ρ (aD N ρ w) (s.eval x) (a.eval x):=by
 cases x with
 |tmp t=>exact h.look t
 |const v=>exact P8 v
 |global g=>exact .any _
 |func f=>exact .fn f [] #[] rfl (fun k j=>absurd j XQ)
theorem fX {i d:Nat} (h:¬i=d):Nat.beq i d=false:=by
 grind [Nat.eq_of_beq_eq_true]
theorem Ow (c:Array Value) (i:Nat) (v:Value) (hi:i<c.size) (k:Nat):(c.setIfInBounds i v).getD k undef=if k=i then v else c.getD k undef:=by
 by_cases f:k=i
 ·simp_all
 simp_all[Ne.symm]
theorem RR.put (h:RR E n N w0 ρ s a w) (dst:Option Tmp) (G:∀d,dst=some d->d<n) {x:aC U} {v:Value} (hv:Rel E w ρ (aD N ρ w) x v):
  RR E n N w0 ρ (s.put dst x) (a.put dst v) w:=by
 cases dst with
 |none=>exact h
 |some d=>
  have u:=G d rfl;refine⟨h.defers,by simpa[Act.put] using h.size,fun t=>?_,h.objs,h.dom,h.sep,h.below,h.nlt,h.kept,h.free,h.pin,h.nle⟩;show Rel E w ρ _ (cond (Nat.beq t d) x (s.tmps t)) (cond (Nat.blt t 1000000) ((a.tmps.setIfInBounds d v).getD t undef) (w0.hv t));rw[Ow _ _ _ (by rw[h.size];omega)]
  by_cases f:t=d
  ·subst f;have j:=h.nle;rw[show Nat.blt t 1000000=true from Nat.ble_eq_true_of_le (JX u j)];simp_all
  ·rw[QF f];have:Nat.beq t d=false:=fX f;rw[this];exact h.tmps t
theorem gF.mono {st st':Nat->Prop} {base id:Nat} {ob:aT U}
  (J:∀b,st b->st' b/\w'.heap[b]?=w.heap[b]?)
  (hρ:∀nm g u,ρ nm=some (g,u)->ρ' nm=some (g,u)\/((∀a,u≠ .pointer a)/\∃g' u',ρ' nm=some (g',u')/\g<g'))
  (hsame:∀nm:Name,nm.id=id->ρ' nm=ρ nm) (S:∀(nm:Name) g u b,nm.id=id->ρ nm=some (g,u)->blk u=some b->w'.heap[b]?=w.heap[b]?)
  (h:gF E w ρ st base id ob):gF E w' ρ' st' base id ob:=by
 have row:∀{nm:Name} {g:Nat} {u:Value} {e:TypeId} {m k:Nat} {O:List Value},nm.id=id->ρ nm=some (g,u)->w.ownsRow base e m u k O->w'.ownsRow base e m u k O:=fun hn G I=>by
  refine⟨I.1,?_⟩;rcases I.2 with hn'|⟨g',cap,cur,rfl,hb,hg,rest⟩
  ·grind
  ·exact .inr ⟨g',cap,cur,rfl,hb,by rw[S _ _ _ g' hn G rfl];exact hg,rest⟩
 have f:∀{nm:Name} {p:Option (Nat×Value)},nm.id=id->ρ nm=p->ρ' nm=p:=fun hn G=>by grind
 cases ob with
 |cells l=>
  obtain⟨b,c,ty,G,I,Z,h4,h5⟩:=h;exact⟨b,c,ty,f rfl G,I,by rw[S _ _ _ b rfl G rfl];exact Z,h4,fun k V=>(h5 k V).mono J hρ⟩
 |row t g xs=>
  obtain⟨u,O,G,hp,I,Z⟩:=h;exact⟨u,O,f rfl G,hp,row rfl G I,fun i h k V=>(Z i h k V).mono J hρ⟩
 |rowF t g xs i m gm=>
  obtain⟨u,O,G,hp,I,hs,hi,hm,Z⟩:=h;exact⟨u,O,f rfl G,hp,row rfl G I,hs,hi,hm.mono J hρ,fun i h L k V=>(Z i h L k V).mono J hρ⟩
 |deep t g gm xs=>
  obtain⟨u,O,G,hp,I,hs,hm,Z⟩:=h;refine⟨u,O,f rfl G,hp,row rfl G I,hs,fun j L=>f rfl (hm j L),fun j L=>?_⟩;obtain⟨t1,ys,v,ds,q1,q2,q3,q4,q5,q6⟩:=Z j L;exact⟨t1,ys,v,ds,q1,f rfl q2,q3,q4,row rfl q2 q5,fun i hi k V=>(q6 i hi k V).mono J hρ⟩
 |deepS t g gm xs i=>
  obtain⟨u,O,G,hp,I,hs,hm,Z⟩:=h;refine⟨u,O,f rfl G,hp,row rfl G I,hs,fun j L=>f rfl (hm j L),fun j L=>?_⟩;obtain⟨t1,ys,v,ds,q1,q2,q3,q4,q5,q6⟩:=Z j L;exact⟨t1,ys,v,ds,q1,f rfl q2,q3,q4,row rfl q2 q5,fun i hi k V=>(q6 i hi k V).mono J hρ⟩
 |deepF t g gm xs m gq=>
  obtain⟨u,O,G,hp,I,hs,hm,ho,Z⟩:=h;refine⟨u,O,f rfl G,hp,row rfl G I,hs,fun j L=>f rfl (hm j L),ho.mono J hρ,fun j L=>?_⟩;obtain⟨t1,ys,v,ds,q1,q2,q3,q4,q5,q6⟩:=Z j L;exact⟨t1,ys,v,ds,q1,f rfl q2,q3,q4,row rfl q2 q5,fun i hi k V=>(q6 i hi k V).mono J hρ⟩
 |one t g m gm=>
  obtain⟨u,O,G,hp,I,hs,ho,hc⟩:=h;exact⟨u,O,f rfl G,hp,row rfl G I,hs,ho.mono J hρ,hc⟩
 |gone g gm n=>
  exact⟨f rfl h.1,fun j L=>f rfl (h.2.1 j L),fun j L=>f rfl (h.2.2 j L)⟩
 |opq k d=>
  show E.rep k d w' base (ρ' (.ob id)) (fun j=>ρ' (.mem id j));rw[hsame (.ob id) rfl,show (fun j=>ρ' (.mem id j))=fun j=>ρ (.mem id j) from funext fun j=>hsame (.mem id j) rfl];exact E.rep_mono _ _ _ _ _ _ _ h (fun g u b G I=>S _ g u b rfl G I) (fun i g u b G I=>S _ g u b rfl G I)
theorem RR.ext (h:RR E n N w0 ρ s a w) (hb:Below w.heap.size w w'):RR E n N w0 ρ s a w':=by
 have j:∀b,aD N ρ w b->aD N ρ w' b/\w'.heap[b]?=w.heap[b]?:=fun b ⟨L,S,O⟩=>
  ⟨⟨JX L hb.size,S,O⟩,hb.block b L⟩
 refine⟨h.defers,h.size,fun t=>(h.tmps t).mono j (fun _ _ _ f=>.inl f),fun id ob G=>?_,h.dom,h.sep,h.below.trans (hb.mono h.below.size),h.nlt,⟨JT h.kept.1 hb.size,fun b J=>?_⟩,h.free,h.pin,h.nle⟩
 ·exact(h.objs id ob G).mono j (fun _ _ _ f=>.inl f) (fun _ _=>rfl) (fun nm g u b _ f I=>hb.block b ((h.own f).2 b I).2)
 ·rw[hb.block b (JX (w0.lt b J) h.kept.1)];exact h.kept.2 b J
theorem RR.drew (h:RR E n N w0 ρ s a w):RR E n N w0 ρ s a w.drew:=
 h.ext ⟨rfl,rfl,rfl,QP _,fun _ _=>rfl⟩
structure Chg (N:Nat->Prop) (D:Nat->Prop) (base:Nat) (ρ ρ':Own) (w w':World):Prop where
 out:∀nm:Name,¬D nm.id->ρ' nm=ρ nm
 mono:∀(nm:Name) g u,D nm.id->ρ nm=some (g,u)->ρ' nm=some (g,u)\/((∀a,u≠ .pointer a)/\∃g' u',ρ' nm=some (g',u')/\g<g')
 below:Below base w w'
 same:∀b,b<w.heap.size->(∀(nm:Name) g u,D nm.id->ρ nm=some (g,u)->blk u≠some b)->w'.heap[b]?=w.heap[b]?
 new:∀(nm:Name) g u b,D nm.id->ρ' nm=some (g,u)->blk u=some b->(∃(nm':Name) (g':Nat) (u':Value),D nm'.id/\ρ nm'=some (g',u')/\blk u'=some b)\/w.heap.size<=b
 sep:∀(nm nm':Name) g g' u u' b,D nm.id->D nm'.id->ρ' nm=some (g,u)->ρ' nm'=some (g',u')->nm≠nm'->blk u=some b->blk u'≠some b
theorem Chg.zm {D:Nat->Prop} {base:Nat} (c:Chg N D base ρ ρ' w w') (nm:Name) (g:Nat) (u:Value) (f:ρ nm=some (g,u)):ρ' nm=some (g,u)\/((∀a,u≠ .pointer a)/\∃G I,ρ' nm=some (G,I)/\g<G):=by
 by_cases j:D nm.id
 ·exact c.mono nm g u j f
 ·exact .inl (by rw[c.out nm j];exact f)
theorem Chg.sx {D:Nat->Prop} {base:Nat} (c:Chg N D base ρ ρ' w w') (b:Nat) (hb:aD N ρ w b):aD N ρ' w' b/\w'.heap[b]?=w.heap[b]?:=by
 obtain⟨I,O,L⟩:=hb;refine⟨⟨JX I c.below.size,O,fun nm g u f j=>?_⟩,c.same b I (fun nm g u _ f=>L _ _ _ f)⟩
 by_cases G:D nm.id
 ·rcases c.new nm g u b G f j with ⟨S,g',u',_,V,J⟩|Z
  ·grind
  ·omega
 ·rw[c.out nm G] at f;grind
theorem Chg.rel {D:Nat->Prop} {base:Nat} (c:Chg N D base ρ ρ' w w') {x:aC U} {v:Value} (f:Rel E w ρ (aD N ρ w) x v):Rel E w' ρ' (aD N ρ' w') x v:=
 f.mono c.sx c.zm
theorem RR.change (h:RR E n N w0 ρ s a w) {s':ASt U} {D:Nat->Prop} (c:Chg N D w0.heap.size ρ ρ' w w') (ht:s'.tmps=s.tmps) (hD:∀id,¬D id->s'.objs id=s.objs id)
  (hdom:∀(nm:Name) g u,D nm.id->ρ' nm=some (g,u)->aJZ s' nm)
  (hob:∀id ob,D id->s'.objs id=some ob->gF E w' ρ' (aD N ρ' w') w0.heap.size id ob) (hex:∀id ob,D id->s.objs id=some ob->∃ob',s'.objs id=some ob'):RR E n N w0 ρ' s' a w':=by
 have hsz:w0.we.heap.size<=w.heap.size:=h.kept.1;refine⟨h.defers,h.size,fun t=>by rw[ht];exact c.rel (h.tmps t),fun id ob ho=>?_,fun nm g u J=>?_,?_,h.below.trans c.below,h.nlt,⟨JT hsz c.below.size,fun b Z=>?_⟩,fun nm g u b J G Z=>?_,fun id u hp=>?_,h.nle⟩
 ·by_cases V:D id
  ·grind
  ·rw[hD id V] at ho;refine(h.objs id ob ho).mono c.sx c.zm (fun nm hn=>c.out nm (by grind)) (fun nm g u b hn J G=>?_);exact c.same b ((h.own J).2 b G).2 (fun nm2 g2 u2 hd2 mN dR=>h.sep _ _ _ _ _ _ b J mN (fun e=>by grind) G dR)
 ·by_cases V:D nm.id
  ·grind
  ·rw[c.out nm V] at J;obtain⟨ob,h1,h2⟩:=h.dom _ _ _ J;exact⟨ob,by grind,h2⟩
 ·intro i j gi gj ui uj b I f hij S O
  by_cases hi:D i.id
  ·by_cases hj:D j.id
   ·exact c.sep _ _ _ _ _ _ b hi hj I f hij S O
   ·rw[c.out j hj] at f;rcases c.new i gi ui b hi I S with ⟨i',g',u',hi',L,hb'⟩|hge
    ·exact h.sep _ _ _ _ _ _ b L f (fun e=>by grind) hb' O
    ·have:=((h.own f).2 b O).2;omega
  ·rw[c.out i hi] at I
   by_cases hj:D j.id
   ·rcases c.new j gj uj b hj f O with ⟨j',g',u',hj',L,hb'⟩|hge
    ·exact h.sep _ _ _ _ _ _ b I L (fun e=>by grind) S hb'
    ·have:=((h.own I).2 b S).2;omega
   ·rw[c.out j hj] at f;exact h.sep _ _ _ _ _ _ b I f hij S O
 ·rw[c.same b (JX (w0.lt b Z) hsz) (fun nm g u _ J G=>h.free _ _ _ _ J G Z)];exact h.kept.2 b Z
 ·by_cases V:D nm.id
  ·rcases c.new nm g u b V J G with ⟨nm',g',u',_,L,hbl'⟩|hge
   ·exact h.free _ _ _ _ L hbl' Z
   ·have:=w0.lt b Z;omega
  ·rw[c.out nm V] at J;exact h.free _ _ _ _ J G Z
 ·obtain⟨⟨ob,ho⟩,hg⟩:=h.pin id u hp
  by_cases V:D id
  ·refine⟨hex id ob V ho,?_⟩;rcases c.mono (.ob id) u.1 u.2 V hg with h1|⟨h1,_⟩
   ·exact h1
   ·obtain⟨a,ha⟩:=w0.pinp id u hp;grind
  ·exact⟨⟨ob,by grind⟩,by rw[c.out (.ob id) V];exact hg⟩
def dJ (ρ:Own) (nm:Name) (g:Nat) (u:Value):Own:=fun i=>if i=nm then some (g,u) else ρ i
theorem aHx (h:RR E n N w0 ρ s a w) (id L:Nat) (J:Value) (Z:∀ob,s.objs id=some ob->ob.simple=true)
  (hold:∀g u,ρ id=some (g,u)->(g=L/\u=J)\/((∀a,u≠ .pointer a)/\g<L))
  (hw:Below w0.heap.size w w') (G:∀b,b<w.heap.size->(∀g u,ρ id=some (g,u)->blk u≠some b)->w'.heap[b]?=w.heap[b]?)
  (V:∀b,blk J=some b->(∃g u,ρ id=some (g,u)/\blk u=some b)\/(w.heap.size<=b)):Chg N (fun i=>i=id) w0.heap.size ρ (dJ ρ id L J) w w':=by
 have hno:=h.vU Z;have hob:∀(nm:Name) g u,nm.id=id->ρ nm=some (g,u)->nm=.ob id:=fun nm g u f I=>by
  cases nm with
  |ob i=>rw[show i=id from f]
  |mem i j=>
   obtain rfl:i=id:=f;grind
 have S:∀(nm:Name) g u,nm.id=id->dJ ρ id L J nm=some (g,u)->nm=.ob id/\g=L/\u=J:=fun nm g u f I=>by
  grind [dJ]
 refine⟨fun nm f=>?_,fun nm g u f I=>?_,hw,fun b hb O=>G b hb (fun g u I=>O (.ob id) g u rfl I),fun nm g u b f I hbl=>?_,fun nm nm' g g1 u u1 b f hn' I hr' O _ _=>?_⟩
 ·unfold dJ;rw[QF (fun e=>f (by rw[e];rfl))]
 ·grind [dJ]
 ·grind
 grind
theorem RR.upd (h:RR E n N w0 ρ s a w) (id I:Nat) (G:Value) (ob:aT U) (L:∀ob,s.objs id=some ob->ob.simple=true)
  (hold:∀g u,ρ id=some (g,u)->(g=I/\u=G)\/((∀a,u≠ .pointer a)/\g<I))
  (hw:Below w0.heap.size w w') (f:∀b,b<w.heap.size->(∀g u,ρ id=some (g,u)->blk u≠some b)->w'.heap[b]?=w.heap[b]?)
  (J:∀b,blk G=some b->(∃g u,ρ id=some (g,u)/\blk u=some b)\/(w.heap.size<=b))
  (S:gF E w' (dJ ρ id I G) (aD N (dJ ρ id I G) w') w0.heap.size id ob):RR E n N w0 (dJ ρ id I G) (s.obj id ob) a w':=by
 have V:=h.vU L;refine h.change (aHx h id I G L hold hw f J) rfl (fun i hi=>?_) (fun nm g u O Z=>?_) (fun i o hi ho=>?_) (fun i o hi _=>⟨ob,by simp_all[ASt.obj]⟩)
 ·grind [fX,ASt.obj]
 ·refine⟨ob,by simp_all[ASt.obj],fun _=>?_⟩;cases nm with
  |ob i=>grind
  |mem i j=>
   obtain rfl:i=id:=O;grind [dJ]
 simp_all[ASt.obj]
theorem RR.tJ (h:RR E n N w0 ρ s a w) (id G:Nat) (j:Value) (L:∀ob,s.objs id=some ob->ob.simple=true)
  (hold:∀g u,ρ id=some (g,u)->(g=G/\u=j)\/((∀a,u≠ .pointer a)/\g<G))
  (hw:Below w0.heap.size w w') (f:∀b,b<w.heap.size->(∀g u,ρ id=some (g,u)->blk u≠some b)->w'.heap[b]?=w.heap[b]?)
  (I:∀b,blk j=some b->(∃g u,ρ id=some (g,u)/\blk u=some b)\/(w.heap.size<=b))
  {x:aC U} {v:Value} (J:Rel E w ρ (aD N ρ w) x v):Rel E w' (dJ ρ id G j) (aD N (dJ ρ id G j) w') x v:=
 (aHx h id G j L hold hw f I).rel J
end
section
variable {U:eO} {E:Enc U} {n:Nat} {N:Nat->Prop} {w0:Fr} {w w':World} {ρ ρ':Own} {s:ASt U} {a:Act} {P:Program}
theorem Addr.wT (b o k:Nat):(⟨b,o,none⟩:Addr).add k=⟨b,o+k,none⟩:=by
 grind [Addr.add]
theorem Ay (h:RR E n N w0 ρ s a w) {look:Nat->Option (aT U)} (f:∀id ob,look id=some ob->s.objs id=some ob) {id i g:Nat} {t1:U.τ} {ys:List (U.T t1)} (hm:sH E look id i g=some ⟨t1,ys⟩):
  (∀j u,ρ (.mem id i)=some (j,u)->j=g/\∃ds,(∀a,u≠ .pointer a)/\w.ownsRow w0.heap.size (U.ety t1) (U.size t1) u ys.length ds/\
    ∀i (h:i<ys.length) k (hk:k<(E.enc t1 ys[i]).length),Rel E w ρ (aD N ρ w) (E.enc t1 ys[i])[k] (ds.getD (i*U.size t1+k) undef)):=by
 intro j u hr;unfold sH at hm;split at hm
 ·rename_i t g0 O xs J;obtain⟨Z,cs,h1,hp,h2,hs,S,L⟩:=h.objs _ _ (f _ _ J);have hi:i<xs.length:=by
   grind
  have G:xs.getD i (E.dflt t)=xs[i]:=by grind
  rw[G] at hm;obtain⟨t2,V,v,ds,I,q2,q3,q4,q5,q6⟩:=L i hi;rw[I] at hm;simp only at hm;cases hb:Nat.beq g O with
  |false=>grind
  |true=>
   rw[hb] at hm;simp only[QY,QJ,Sigma.mk.injEq] at hm;obtain⟨rfl,hy⟩:=hm;grind [Nat.eq_of_beq_eq_true]
 grind
def At (E:Enc U) (w:World) (ρ:Own) (st:Nat->Prop) (l:List (aC U)) (b o:Nat) (f:Nat->Value):Prop:=
 ∀k (h:k<l.length),w.cell? ⟨b,o+k,none⟩=some (f k)/\Rel E w ρ st l[k] (f k)
theorem aIM (h:RR E n N w0 ρ s a w) {look:Nat->Option (aT U)} (I:∀id ob,look id=some ob->s.objs id=some ob)
  {p:aC U} {v:Value} (hp:Rel E w ρ (aD N ρ w) p v) {l:List (aC U)} {off:Nat} (hb:behind E look p=some (l,off)):
  ∃b o f,v=.pointer (some ⟨b,o+off,none⟩)/\At E w ρ (aD N ρ w) l b o f:=by
 unfold behind at hb;split at hb
 ·split at hb
  ·rename_i id S l' hl';simp only[QJ,QX] at hb;obtain⟨rfl,rfl⟩:=hb;obtain⟨b,c,ty,h1,h2,h3,h4,h5⟩:=h.objs _ _ (I _ _ hl');cases hp with
   |ptr _ _ b' hb'=>
    rw[h1] at hb';simp only[QJ,QX,true_and,Value.pointer.injEq,KQ,and_true] at hb';subst hb';refine⟨b,0,fun k=>c.getD k undef,XQ,fun k J=>⟨?_,h5 k J⟩⟩;rw[JD,cell_of_row w b k c ty (0,0) h3];simp_all
  grind
 ·split at hb
  ·rename_i id g i S sz _ t g' xs hl';have G:(Nat.beq g g'&&Nat.beq sz (U.size t))=true:=by
    grind
   rw[G] at hb;simp only[QY,QJ,QX] at hb;obtain⟨rfl,rfl⟩:=hb;simp only[QW] at G;obtain rfl:=QQ G.1;obtain rfl:=QQ G.2;obtain⟨u,cs,h1,hpp,h2,h3⟩:=h.objs _ _ (I _ _ hl');cases hp with
   |eptr _ _ _ _ _ b n' cap V hi=>
    rw[h1] at V;simp only[QJ,QX,true_and] at V;subst V;rcases h2.2 with ⟨h0,_⟩|⟨gb,cap',cur,O,hbase,hgb,hn,hcm,hcs,htake⟩
    ·cases h0
    ·simp only[JI,QJ,KQ,and_true] at O;obtain⟨rfl,rfl,rfl⟩:=O;have Z:xs.getD i (E.dflt t)=xs[i]:=by grind
     rw[Z];refine⟨b,i*U.size t,fun k=>cs.getD (i*U.size t+k) undef,rfl,fun k J=>?_⟩;refine⟨?_,h3 i hi k J⟩;have hk':k<U.size t:=by rw[E.enc_len] at J;exact J
     have hin:i*U.size t+k<cs.length:=by
      rw[h2.1]
      calc i*U.size t+k<i*U.size t+U.size t:=KI
       _=(i+1)*U.size t:=by grind
       _<=xs.length*U.size t:=QC _ hi
     grind [cell_of_row]
   |eptrOld _ _ _ _ _ g' u' v V hg=>
    grind
  grind
 ·simp only[QJ,QX] at hb;obtain⟨rfl,rfl⟩:=hb;cases hp with
  |ref _ _ b o f hst hc hl=>exact⟨b,o,f,rfl,fun k J=>⟨hc k J,hl k J⟩⟩
 ·rename_i id i g j S sz;split at hb
  ·rename_i L ys hm;cases hsz:Nat.beq sz (U.size L) with
   |false=>grind
   |true=>
    rw[hsz] at hb;simp only[QY,QJ,QX] at hb;obtain⟨rfl,rfl⟩:=hb;obtain rfl:=QQ hsz;have hmr:=Ay h I hm;cases hp with
    |meptr _ _ _ _ _ _ b n' cap V hi=>
     obtain⟨_,ds,q1,h2,h3⟩:=hmr _ _ V;rcases h2.2 with ⟨h0,_⟩|⟨gb,cap',cur,O,hbase,hgb,hn,hcm,hcs,htake⟩
     ·cases h0
     ·simp only[JI,QJ,KQ,and_true] at O;obtain⟨rfl,rfl,rfl⟩:=O;have Z:ys.getD j (E.dflt L)=ys[j]:=by grind
      rw[Z];refine⟨b,j*U.size L,fun k=>ds.getD (j*U.size L+k) undef,rfl,fun k J=>?_⟩;refine⟨?_,h3 j hi k J⟩;have hk':k<U.size L:=by rw[E.enc_len] at J;exact J
      have hin:j*U.size L+k<ds.length:=by
       rw[h2.1]
       calc j*U.size L+k<j*U.size L+U.size L:=KI
        _=(j+1)*U.size L:=by grind
        _<=ys.length*U.size L:=QC _ hi
      grind [cell_of_row]
    |meptrOld _ _ _ _ _ _ g' u' v V hg=>
     grind
  grind
 grind
theorem oH {t:TypeId} {m:Nat} (h:iO P t=some m):∃i,P.info? t=some i/\i.size=m:=by
 grind [iO]
theorem Xt {t:TypeId} {d:TypeDesc} (h:P.underlying t=some d):(isAgg t).run P w=.ok (wD P t) w:=by
 unfold isAgg wD;rw[h];simp only[QE,QV h,QL];cases d<;>rfl
theorem aCs {t:TypeId} {l:List (aC U)} {off:Nat} {x:aC U} {st:Nat->Prop} (G:partOf P t l off=some x) {b o:Nat} {f:Nat->Value}
  (j:At E w ρ st l b o f):∃u,(loadVar t ⟨b,o+off,none⟩).run P w=.ok u w/\Rel E w ρ st x u:=by
 unfold partOf at G;split at G
 ·rename_i d m V hm;obtain⟨i,hi,rfl⟩:=oH hm;have J:=Xt (w:=w) V;split at G
  ·rename_i hb;have O:Nat.ble (off+i.size) l.length=true:=by
    grind
   rw[O] at G;simp only[QY,QJ] at G;subst G;have Z:=QR O;refine⟨.agg ((List.range i.size).map fun k=>f (off+k)).toArray,?_,?_⟩
   ·have:=run_loadCells (P:=P) w ⟨b,o+off,none⟩ i.size (fun k=>f (off+k)) (fun k S=>by
     rw[Addr.wT,KN];exact(j (off+k) KI).1)
    simp_all[loadVar,sizeOf,typeInfo]
   ·refine .agg _ _ (by grind) (fun k S=>?_);have hk':k<i.size:=by grind
    have:=(j (off+k) KI).2;simp_all
  ·rename_i hb;have I:off<l.length:=(JF.1 G).1;obtain L:=(JF.1 G).2;rw[<- L];refine⟨f off,?_,(j off I).2⟩;simp only[loadVar,QE,J,hb,QL,Bool.false_eq_true,if_false];rw[run_load,(j off I).1]
 grind
theorem Gb {t:TypeId} {l:List (aC U)} {off:Nat} {x:aC U} {st:Nat->Prop} (f:partOf P t l off=some x) {j:Array Value} (hn:j.size=l.length)
  (O:∀k (h:k<l.length),Rel E w ρ st l[k] (j.getD k undef)):∃u,(part t j off).run P w=.ok u w/\Rel E w ρ st x u:=by
 unfold partOf at f;split at f
 ·rename_i d m S hm;obtain⟨i,hi,rfl⟩:=oH hm;have L:=Xt (w:=w) S;split at f
  ·rename_i hb;have J:Nat.ble (off+i.size) l.length=true:=by
    grind
   rw[J] at f;simp only[QY,QJ] at f;subst f;have V:=QR J;refine⟨.agg (j.extract off (off+i.size)),?_,?_⟩
   ·simp_all[part,sizeOf,typeInfo]
   ·refine .agg _ _ (by grind) (fun k hk=>?_);have Z:k<i.size:=by grind
    simp_all
  ·rename_i hb;have I:off<l.length:=(JF.1 f).1;obtain G:=(JF.1 f).2;rw[<- G];refine⟨j.getD off undef,?_,O off I⟩;simp_all[part]
 grind
theorem zC (c:Array Value) (k:Nat) (d:Value):c.toList.getD k d=c.getD k d:=XQ
theorem Kz (cs:List (aC U)):∀(l:List (aC U)) (off:Nat),(setCells l off cs).length=l.length:=by
 induction cs with
 |nil=>intro l off;rfl
 |cons c cs f=>grind [setCells]
theorem O2 {st:Nat->Prop} (cs:List (aC U)):∀(f:List Value) (l:List (aC U)) (off:Nat) (c:List Value),cs.length=f.length->off+cs.length<=l.length->c.length=l.length->
  (∀k (h:k<cs.length),Rel E w ρ st cs[k] (f.getD k undef))->(∀k (h:k<l.length),Rel E w ρ st l[k] (c.getD k undef))->
  ∀k (h:k<(setCells l off cs).length),Rel E w ρ st (setCells l off cs)[k] ((c.take off++f++c.drop (off+f.length)).getD k undef):=by
 induction cs with
 |nil=>
  intro f l off c j G hcl u L k O;grind [setCells]
 |cons x cs J=>
  intro f l off c j G hcl u L k O;cases f with
  |nil=>grind
  |cons v f=>
   simp only[QN] at j G;have:=J f (l.set off x) (off+1) (c.set off v) KI (by grind) (by grind) (fun k h=>u (k+1) (by grind)) (fun k h=>by
    by_cases I:off=k
    ·subst I;have Z:=u 0 XQ;grind
    grind) k (by assumption)
   simp only[setCells];have e:(c.set off v).take (off+1)++f++(c.set off v).drop (off+1+f.length)=c.take off++v::f++c.drop (off+(v::f).length):=by
    have V:(c.set off v).take (off+1)=c.take off++[v]:=by
     grind [List.take_succ_eq_append_getElem,List.take_set_of_le]
    have S:(c.set off v).drop (off+1+f.length)=c.drop (off+(v::f).length):=by
     rw[List.drop_set_of_lt KI];simp only[QN];grind
    grind
   grind
end
section
variable {U:eO} {E:Enc U} {n:Nat} {N:Nat->Prop} {w0:Fr} {w w':World} {ρ ρ':Own} {s:ASt U} {a:Act} {P:Program}
theorem P7 {st:Nat->Prop} {t:U.τ} {l:List (aC U)} {x:U.T t} (J:E.dec t l=some x) {f:Nat->Value} (h:∀k (j:k<l.length),Rel E w ρ st l[k] (f k)):
  ∀k (j:k<(E.enc t x).length),Rel E w ρ st (E.enc t x)[k] (f k):=by
 intro k j;have S:=E.dec_len t l x J;have I:k<U.size t:=by rw[E.enc_len] at j;exact j
 have G:=h k KI;have e1:l.getD k .any=l[k]'KI:=by
  grind
 have O:(E.enc t x).getD k .any=(E.enc t x)[k]:=by grind
 rcases E.dec_enc t l x J k I with u|⟨u,t',L⟩
 ·grind
 ·rw[e1] at u;rw[O] at L;rw[L];rw[u] at G;generalize f k=v at G;cases G;exact .lO t'
theorem aMK (c f:List Value) (p off sz k:Nat) (h:p+sz<=c.length) (ho:off+f.length<=sz) (I:k<sz):
  (((c.drop p).take sz).take off++f++((c.drop p).take sz).drop (off+f.length))[k]?=(c.take (p+off)++f++c.drop (p+off+f.length))[p+k]?:=by
 have u:(((c.drop p).take sz).take off).length=off:=by grind
 have j:(c.take (p+off)).length=p+off:=by grind
 simp only[KZ,List.getElem?_append,u,j]
 by_cases G:k<off
 ·grind
 ·rw[QF G,QF (show ¬p+k<p+off by omega)];have e:p+k-(p+off)=k-off:=KI;rw[e]
  by_cases h6:k-off<f.length
  ·grind
  ·rw[QF h6,QF h6];simp only[KE,KO];grind
theorem zq (h:RR E n N w0 ρ s a w) {look:Nat->Option (aT U)} (G:∀id ob,look id=some ob->s.objs id=some ob) {id i g j off sz:Nat} (f:storable look (.meptr id i g j off sz)=true):
  ∀I u,ρ (.mem id i)=some (I,u)->I=g:=fun I u O=>by
 unfold storable at f;simp only at f;split at f
 ·rename_i t Z V xs J;obtain rfl:=QQ f;obtain⟨_,_,_,_,_,_,L,S⟩:=h.objs _ _ (G _ _ J)
  by_cases hi:i<xs.length
  ·grind
  grind
 grind
theorem xM (h:RR E n N w0 ρ s a w) {look:Nat->Option (aT U)} (f:∀id ob,look id=some ob->s.objs id=some ob)
  {x:aC U} {v:Value} (O:Rel E w ρ (aD N ρ w) x v) (I:storable look x=true):v.oneCell'=true:=by
 unfold storable at I;have hcur:∀id t g xs,look id=some (.row t g xs)->∃u,ρ (.ob id)=some (g,u):=fun id t g xs J=>by
  obtain⟨u,_,Z,_⟩:=h.objs _ _ (f _ _ J);grind
 have hmem:∀id i t g0 S xs L u,look id=some (.deep t g0 S xs)->ρ (.mem id i)=some (L,u)->L=S:=fun id i t g0 S xs L u J G=>by
  obtain⟨_,_,_,_,_,_,hno,h3⟩:=h.objs _ _ (f _ _ J)
  by_cases hi:i<xs.length
  ·grind
  grind
 split at I
 ·split at I
  ·rename_i id g _ t L xs J;obtain rfl:=QQ I;exact O.sF rfl (fun _ _ _ G=>(h.own G).1) (fun V g1 he=>by grind) (fun _ _ _ _ _ he=>by cases he) (fun _ _ _ he=>by cases he) (fun _ _ _ _ _ _ he=>by cases he)
  ·rename_i id g _ t L S xs J;obtain rfl:=QQ I;obtain⟨u,_,Z,_⟩:=h.objs _ _ (f _ _ J);exact O.sF rfl (fun _ _ _ G=>(h.own G).1) (fun V g1 he=>by grind) (fun _ _ _ _ _ he=>by cases he) (fun _ _ _ he=>by cases he) (fun _ _ _ _ _ _ he=>by cases he)
  ·rename_i id g _ t L S xs m gq J;obtain rfl:=QQ I;obtain⟨u,_,Z,_⟩:=h.objs _ _ (f _ _ J);exact O.sF rfl (fun _ _ _ G=>(h.own G).1) (fun V g1 he=>by grind) (fun _ _ _ _ _ he=>by cases he) (fun _ _ _ he=>by cases he) (fun _ _ _ _ _ _ he=>by cases he)
  grind
 ·split at I
  ·rename_i id g _ _ _ _ t L xs J;obtain rfl:=QQ I;exact O.sF rfl (fun _ _ _ G=>(h.own G).1) (fun V g1 he=>by cases he) (fun _ _ _ _ _ he=>by grind) (fun _ _ _ he=>by cases he) (fun _ _ _ _ _ _ he=>by cases he)
  grind
 ·split at I
  ·rename_i id i g _ t g0 S xs J;obtain rfl:=QQ I;cases O with
   |msl _ _ _ u G=>exact(h.own G).1
   |mslOld _ _ _ L u v G hg=>
    grind
  grind
 ·split at I
  ·rename_i id i g _ _ _ _ t g0 S xs J;obtain rfl:=QQ I;cases O with
   |meptr _ _ _ _ _ _ _ _ _ _ _=>rfl
   |meptrOld _ _ _ _ _ _ L u v G hg=>
    grind
  grind
 ·rename_i Z h2 h3 h4;exact O.sF I (fun _ _ _ G=>(h.own G).1) (fun id g he=>absurd he (Z id g)) (fun id g i off sz he=>absurd he (h2 id g i off sz)) (fun id i g he=>absurd he (h3 id i g)) (fun id i g j off sz he=>absurd he (h4 id i g j off sz))
theorem aZC {α:Type} {b:Bool} {x:Option α} {y:α} (h:cond b x none=some y):b=true/\x=some y:=by
 grind
theorem cells_one {v:Value} (h:v.oneCell'=true):v.cells=#[v]:=by
 cases v<;>first|rfl|cases h
theorem aIB (h:RR E n N w0 ρ s a w) {look:Nat->Option (aT U)} (J:∀id ob,look id=some ob->s.objs id=some ob)
  {x:aC U} {v:Value} (O:Rel E w ρ (aD N ρ w) x v) (hs:x.cellsOf.all (storable look)=true):
  v.cells.size=x.cellsOf.length/\(∀k (j:k<x.cellsOf.length),Rel E w ρ (aD N ρ w) x.cellsOf[k] (v.cells.toList.getD k undef))/\∀u∈v.cells.toList,u.oneCell'=true:=by
 by_cases I:∃l,x=.agg l
 ·obtain⟨l,rfl⟩:=I;cases O with
  |agg _ f V L=>
   refine⟨V,fun k j=>?_,fun u S=>?_⟩
   ·show Rel E w ρ (aD N ρ w) l[k] (f.toList.getD k undef);rw[zC];exact L k j
   ·obtain⟨k,j,rfl⟩:=List.mem_iff_getElem.1 S;have G:k<l.length:=by grind [Value.cells]
    have hr:=L k G;have Z:storable look l[k]=true:=by
     grind [aC.cellsOf]
    have e:f.getD k undef=(Value.agg f).cells.toList[k]:=by
     simp_all[Value.cells]
    grind [xM]
 ·have hc:x.cellsOf=[x]:=by
   cases x<;>first|rfl|grind
  grind [xM,cells_one]
theorem Cd {base g:Nat} (j:base<=g) (w:World) (cs:Array Value):Below base w (w.setRow g cs):=
 ⟨rfl,rfl,rfl,XQ,fun k f=>setRow_other w g k cs KI⟩
theorem vg {st:Nat->Prop} {t':U.τ} {xs:List (U.T t')} {cs:List Value} {base b n' cap i off:Nat} (h2:w.ownsRow base (U.ety t') (U.size t') (.slice (some ⟨b,0,none⟩) n' cap) xs.length cs)
  (h3:∀i (h:i<xs.length) k (G:k<(E.enc t' xs[i]).length),Rel E w ρ st (E.enc t' xs[i])[k] (cs.getD (i*U.size t'+k) undef)) (hi:i<xs.length) {y:U.T t'} {L:List (aC U)} {u:Value}
  (hle:off+L.length<=U.size t') (hy:E.dec t' (setCells (E.enc t' xs[i]) off L)=some y) {t:TypeId} {m:Nat} (hm:iO P t=some m) (hlen:L.length=m) (hsz:u.cells.size=L.length)
  (hrel:∀k (G:k<L.length),Rel E w ρ st L[k] (u.cells.toList.getD k undef)) (hone:∀q∈u.cells.toList,q.oneCell'=true):
  n'=xs.length/\base<=b/\∃S cs',(Instr.storeAt t (.pointer (some ⟨b,i*U.size t'+off,none⟩)) u).run P w=.ok () (w.setRow b S)/\
   (w.setRow b S).ownsRow base (U.ety t') (U.size t') (.slice (some ⟨b,0,none⟩) n' cap) (xs.set i y).length cs'/\
   ∀j (h:j<(xs.set i y).length) k (G:k<(E.enc t' (xs.set i y)[j]).length),Rel E w ρ st (E.enc t' (xs.set i y)[j])[k] (cs'.getD (j*U.size t'+k) undef):=by
 obtain⟨ti,hti,htis⟩:=oH hm;have hvl:u.cells.toList.length=L.length:=KI;rcases h2.2 with ⟨h0,_⟩|⟨gb,cap',cur,heq,J,Z,hn,hcm,hcs,htake⟩
 ·cases h0
 simp only[JI,QJ,KQ,and_true] at heq;obtain⟨rfl,rfl,rfl⟩:=heq;have hil:(i+1)*U.size t'<=xs.length*U.size t':=QC _ hi;have hnl:xs.length*U.size t'<=cap*U.size t':=QC _ hn;have Oo:(i+1)*U.size t'=i*U.size t'+U.size t':=by grind
 have hrun:=run_storeCells_at P b (i*U.size t'+off) (U.ety t') u.cells.toList 0 cur w Z KI hone;simp only[JB] at hrun;refine⟨rfl,J,(cur.toList.take (i*U.size t'+off)++u.cells.toList++cur.toList.drop (i*U.size t'+off+u.cells.toList.length)).toArray,(cur.toList.take (i*U.size t'+off)++u.cells.toList++cur.toList.drop (i*U.size t'+off+u.cells.toList.length)).take (xs.length*U.size t'),?_,?_,?_⟩
 ·simp_all[Instr.storeAt,Instr.sureAddr,storeVar,sizeOf,typeInfo]
 ·have I:(xs.set i y).length=xs.length:=XQ;refine⟨?_,.inr ⟨b,cap,_,by grind,J,setRow_heap w b cur _ _ (0,0) Z,KI,hcm,?_,by grind⟩⟩
  ·grind
  grind
 ·intro j hj k G;have I:(xs.set i y).length=xs.length:=XQ;rw[I] at hj;have hk':k<U.size t':=by rw[E.enc_len] at G;exact G
  have hjl:(j+1)*U.size t'<=xs.length*U.size t':=QC _ hj;have hj1:(j+1)*U.size t'=j*U.size t'+U.size t':=by grind
  have hget:∀q,q<xs.length*U.size t'->((cur.toList.take (i*U.size t'+off)++u.cells.toList++cur.toList.drop (i*U.size t'+off+u.cells.toList.length)).take (xs.length*U.size t')).getD q undef=
    (cur.toList.take (i*U.size t'+off)++u.cells.toList++cur.toList.drop (i*U.size t'+off+u.cells.toList.length)).getD q undef:=fun q hq=>by
   grind
  rw[hget _ KI];have hcur:∀q,q<xs.length*U.size t'->cs.getD q undef=cur.toList.getD q undef:=fun q hq=>by
   grind
  by_cases V:j=i
  ·subst V;have hyj:(xs.set j y)[j]'KI=y:=XQ;have O:∀k (G:k<(setCells (E.enc t' xs[j]) off L).length),Rel E w ρ st (setCells (E.enc t' xs[j]) off L)[k]
     ((cur.toList.take (j*U.size t'+off)++u.cells.toList++cur.toList.drop (j*U.size t'+off+u.cells.toList.length)).getD (j*U.size t'+k) undef):=fun k G=>by
    have fJ:=G;rw[Kz,E.enc_len] at fJ;have:=O2 L u.cells.toList (E.enc t' xs[j]) off ((cur.toList.drop (j*U.size t')).take (U.size t')) KI (by rw[E.enc_len];omega)
     (by rw[E.enc_len];grind) hrel (fun k G=>by
      have Gu:k<U.size t':=by rw[E.enc_len] at G;exact G
      grind) k G
    grind [aMK]
   have:=P7 hy (f:=fun k=>(cur.toList.take (j*U.size t'+off)++u.cells.toList++cur.toList.drop (j*U.size t'+off+u.cells.toList.length)).getD (j*U.size t'+k) undef) O k (by grind);grind
  ·have hyj:(xs.set i y)[j]'KI=xs[j]:=by
    grind
   have:=h3 j hj k (by grind);rw[hcur _ KI] at this;have e:(cur.toList.take (i*U.size t'+off)++u.cells.toList++cur.toList.drop (i*U.size t'+off+u.cells.toList.length)).getD (j*U.size t'+k) undef=cur.toList.getD (j*U.size t'+k) undef:=by
    simp only[List.getD_eq_getElem?_getD];congr 1;have hcl:cur.toList.length=cap*U.size t':=KI;simp only[KZ,List.getElem?_append,KU,hcl];rcases Nat.lt_or_gt_of_ne V with hlt|hgt
    ·have:(j+1)*U.size t'<=i*U.size t':=QC _ hlt;grind
    ·have:(i+1)*U.size t'<=j*U.size t':=QC _ hgt;rw[QF KI,QF KI];rw[KO];congr 1;omega
   grind
theorem aLv (h:RR E n N w0 ρ s a w) {look:Nat->Option (aT U)} (I:∀id ob,look id=some ob->s.objs id=some ob)
  {p x:aC U} {v u:Value} (hp:Rel E w ρ (aD N ρ w) p v) (hx:Rel E w ρ (aD N ρ w) x u) {id:Nat} {ob:aT U} (L:storeAt E look p x.cellsOf=some (id,ob))
  {t:TypeId} {m:Nat} (hm:iO P t=some m) (hlen:x.cellsOf.length=m):
  ∃w' ρ',(Instr.storeAt t v u).run P w=.ok () w'/\RR E n N w0 ρ' (s.obj id ob) a w':=by
 obtain⟨ti,hti,htis⟩:=oH hm;unfold storeAt at L;have hall:x.cellsOf.all (storable look)=true:=by
  grind
 rw[hall] at L;simp only[QY] at L;obtain⟨hsz,hrel,hone⟩:=aIB h I hx hall;have hvl:u.cells.toList.length=x.cellsOf.length:=KI;split at L
 ·-- a variable
  rename_i G off;split at L
  ·rename_i l hl';have hc:Nat.ble (off+x.cellsOf.length) l.length=true:=by
    grind
   rw[hc] at L;simp only[QY,QJ,QX] at L;obtain⟨rfl,rfl⟩:=L;have hle:=QR hc;obtain⟨b,c,ty,h1,h2,h3,h4,h5⟩:=h.objs _ _ (I _ _ hl');cases hp with
   |ptr _ _ f S=>
    rw[h1] at S;simp only[QJ,QX,true_and,Value.pointer.injEq,KQ,and_true] at S;subst S;have hrun:=run_storeCells_at P b off ty u.cells.toList 0 c w h3 KI hone;simp only[JB] at hrun;refine⟨w.setRow b (c.toList.take off++u.cells.toList++c.toList.drop (off+u.cells.toList.length)).toArray,dJ ρ G 0 (.pointer (some ⟨b,0,none⟩)),?_,?_⟩
    ·simp_all[Instr.storeAt,Instr.sureAddr,storeVar,sizeOf,typeInfo]
    ·have hold:∀g J,ρ G=some (g,J)->(g=0/\J=.pointer (some ⟨b,0,none⟩))\/((∀a,J≠ .pointer a)/\g<0):=fun g J hr=>by
      grind
     have hsame:∀f,f<w.heap.size->(∀g J,ρ G=some (g,J)->blk J≠some f)->(w.setRow b (c.toList.take off++u.cells.toList++c.toList.drop (off+u.cells.toList.length)).toArray).heap[f]?=w.heap[f]?:=fun f _ O=>
      setRow_other w b f _ (fun e=>O _ _ h1 (by simp[blk,e]))
     have hnew:∀f,blk (.pointer (some ⟨b,0,none⟩))=some f->(∃g J,ρ G=some (g,J)/\blk J=some f)\/(w.heap.size<=f):=fun f S=>.inl ⟨_,_,h1,S⟩
     have Z:∀ob,s.objs G=some ob->ob.simple=true:=fun ob ho=>by rw[I _ _ hl'] at ho;cases ho;rfl
     refine h.upd G 0 _ _ Z hold (Cd h2 w _) hsame hnew ?_;refine⟨b,_,ty,by simp[dJ],h2,setRow_heap w b c _ ty (0,0) h3,?_,fun k hk=>?_⟩
     ·grind [Kz]
     ·have fJ:=O2 x.cellsOf u.cells.toList l off c.toList KI hle KI hrel (fun k hk=>by simp_all) k hk;have:=h.tJ G 0 _ Z hold (Cd h2 w _) hsame hnew fJ;simp_all
  grind
 ·-- an element of an own row
  rename_i G g i off sz;split at L
  ·rename_i t' g' xs hl';have hc:(Nat.beq g g'&&Nat.beq sz (U.size t')&&Nat.ble (off+x.cellsOf.length) (U.size t'))=true:=by
    grind
   rw[hc] at L;simp only[QY] at L;simp only[QW] at hc;obtain⟨⟨oA,uE⟩,Gw⟩:=hc;obtain rfl:=QQ oA;obtain rfl:=QQ uE;have hle:=QR Gw;split at L
   ·rename_i y hy;simp only[QJ,QX] at L;obtain⟨rfl,rfl⟩:=L;obtain⟨u1,cs,h1,hpp,h2,h3⟩:=h.objs _ _ (I _ _ hl');cases hp with
    |eptrOld _ _ _ _ _ g' J v hr hg=>
     grind
    |eptr _ _ _ _ _ b n' cap hr hi=>
     rw[h1] at hr;simp only[QJ,QX,true_and] at hr;subst hr;have hnx:n'=xs.length:=by
      rcases h2.2 with ⟨h0,_⟩|⟨_,_,_,heq,_⟩
      ·cases h0
      grind
     have hi':i<xs.length:=KI;have hxi:xs.getD i (E.dflt t')=xs[i]:=by grind
     rw[hxi] at hy;obtain⟨_,hbase,V,cs',hrun,hown,hrl⟩:=vg (P:=P) h2 h3 hi' hle hy hm hlen hsz hrel hone;have Z:∀ob,s.objs G=some ob->ob.simple=true:=fun ob ho=>by rw[I _ _ hl'] at ho;cases ho;rfl
     have hold:∀g1 J,ρ G=some (g1,J)->(g1=g/\J=.slice (some ⟨b,0,none⟩) n' cap)\/((∀a,J≠ .pointer a)/\g1<g):=fun g1 J hr=>by
      grind
     have hsame:∀f,f<w.heap.size->(∀g J,ρ G=some (g,J)->blk J≠some f)->(w.setRow b V).heap[f]?=w.heap[f]?:=fun f _ O=>
      setRow_other w b f _ (fun e=>O _ _ h1 (by simp[blk,e]))
     have hnew:∀f,blk (.slice (some ⟨b,0,none⟩) n' cap)=some f->(∃g J,ρ G=some (g,J)/\blk J=some f)\/(w.heap.size<=f):=fun f S=>.inl ⟨_,_,h1,S⟩
     have hb:=Cd hbase w V;refine⟨_,_,hrun,h.upd G g _ _ Z hold hb hsame hnew ?_⟩;exact⟨_,cs',by simp[dJ],hpp,hown,fun j hj k hk=>h.tJ G g _ Z hold hb hsame hnew (hrl j hj k hk)⟩
   grind
  grind
 ·-- an element of a slice in an own row
  rename_i G i g j off sz;split at L
  ·rename_i t' g0 gm xs hl';split at L
   ·rename_i t1 ys hmr;have hcs:=aZC L;clear L;obtain⟨hc,L⟩:=hcs;simp only[QW] at hc;obtain⟨uE,Gw⟩:=hc;obtain rfl:=QQ uE;have hle:=QR Gw;split at L
    ·rename_i y hy;split at L
     ·rename_i z hz;simp only[QJ,QX] at L;obtain⟨rfl,rfl⟩:=L;have hms:=Ay h I hmr;have hgm:g=gm:=by
       grind [sH,Nat.eq_of_beq_eq_true]
      subst hgm;cases hp with
      |meptrOld _ _ _ _ _ _ g' J v hr hg=>
       grind
      |meptr _ _ _ _ _ _ b n' cap hr hi=>
       obtain⟨_,ds,hvp,h2,h3⟩:=hms _ _ hr;have hnx:n'=ys.length:=by
        rcases h2.2 with ⟨h0,_⟩|⟨_,_,_,heq,_⟩
        ·cases h0
        grind
       have hj:j<ys.length:=KI;have hyj:ys.getD j (E.dflt t1)=ys[j]:=by grind
       rw[hyj] at hy;obtain⟨_,hbase,V,ds',hrun,hown,hrl⟩:=vg (P:=P) h2 h3 hj hle hy hm hlen hsz hrel hone;have hb:=Cd hbase w V;have hoth:∀nm g1 u1,nm≠ .mem G i->ρ nm=some (g1,u1)->∀f,blk u1=some f->(w.setRow b V).heap[f]?=w.heap[f]?:=fun nm g1 u1 O fD f S=>
        setRow_other w b f _ (fun e=>h.sep _ _ _ _ _ _ f fD hr O S (by simp[blk,e]))
       have c:Chg N (fun q=>q=G) w0.heap.size ρ ρ w (w.setRow b V):=⟨fun _ _=>rfl,fun _ _ _ _ fD=>.inl fD,hb,fun f _ O=>setRow_other w b f _ (fun e=>O _ _ _ rfl hr (by simp[blk,e])),
        fun nm g1 u1 f hd fD S=>.inl ⟨nm,g1,u1,hd,fD,S⟩,fun nm nm' g1 g2 u1 u2 f _ _ fD mN O cJ=>h.sep _ _ _ _ _ _ f fD mN O cJ⟩
       refine⟨_,ρ,hrun,h.change c rfl (fun q hq=>?_) (fun nm g1 u1 hd fD=>?_) (fun q ob hq ho=>?_) (fun q ob hq _=>⟨.deep t' g0 g (xs.set i z),by rw[hq];simp[ASt.obj]⟩)⟩
       ·grind [fX,ASt.obj]
       ·refine⟨_,by rw[hd];simp[ASt.obj];rfl,fun e=>by cases e⟩
       ·subst hq;have:(s.obj q (.deep t' g0 g (xs.set i z))).objs q=some (.deep t' g0 g (xs.set i z)):=by simp[ASt.obj]
        rw[this] at ho;obtain rfl:=QU ho;obtain⟨u1,cs,r1,r2,r3,r4,r5,r6⟩:=h.objs _ _ (I _ _ hl');have keep:∀{nm:Name} {g1:Nat} {u1:Value} {e:TypeId} {m k:Nat} {cs:List Value},nm≠ .mem q i->ρ nm=some (g1,u1)->w.ownsRow w0.heap.size e m u1 k cs->(w.setRow b V).ownsRow w0.heap.size e m u1 k cs:=fun O fD hw=>by
         refine⟨hw.1,?_⟩;rcases hw.2 with hn'|⟨g',cap,cur,rfl,hb,hg,rest⟩
         ·grind
         ·exact .inr ⟨g',cap,cur,rfl,hb,by rw[hoth _ _ _ O fD g' rfl];exact hg,rest⟩
        refine⟨u1,cs,r1,r2,by grind,r4,fun k hk=>r5 k (by grind),fun k hk=>?_⟩;have hk':k<xs.length:=by grind
        obtain⟨t2,zs,v2,Bz,p1,p2,p3,p4,p5,p6⟩:=r6 k hk'
        by_cases hki:k=i
        ·subst hki;rw[hr] at p2;simp only[QJ,QX,true_and] at p2;subst p2;refine⟨t1,ys.set j y,_,ds',?_,hr,p3,hvp,hown,fun i hi k hk=>c.rel (hrl i hi k hk)⟩;simp only[List.getElem_set_self];exact E.unsl_ok _ _ _ _ hz
        ·have e1:(xs.set i z)[k]=xs[k]:=by grind
         rw[e1];exact⟨t2,zs,v2,Bz,p1,p2,p3,p4,keep (fun e=>hki (Name.mem.inj e).2) p2 p5,fun i hi k hk=>c.rel (p6 i hi k hk)⟩
     grind
    grind
   grind
  grind
 grind
end
section
variable {U:eO} {E:Enc U} {n:Nat} {N:Nat->Prop} {w0:Fr} {w w':World} {ρ ρ':Own} {s:ASt U} {a:Act} {P:Program}
theorem RR.tK (h:RR E n N w0 ρ s a w) {id:Nat} (hf:s.objs id=none):∀g u,ρ id=some (g,u)->False:=fun g u f=>by
 obtain⟨ob,ho,_⟩:=h.dom _ _ _ f;rw[show (Name.ob id).id=id from rfl,hf] at ho;cases ho
theorem RR.yo (h:RR E n N w0 ρ s a w) {id:Nat} (hf:s.objs id=none) {l:List (aC U)} {c:Array Value} (ty:TypeId) (V:c.size=l.length)
  (S:∀k (L:k<l.length),Rel E w ρ (aD N ρ w) l[k] (c.getD k undef)):
  RR E n N w0 (dJ ρ id 0 (.pointer (some ⟨w.heap.size,0,none⟩))) (s.obj id (.cells l)) a (w.alloc (.cells c ty)):=by
 have I:=h.tK hf;have hold:∀g u,ρ id=some (g,u)->(g=0/\u=.pointer (some ⟨w.heap.size,0,none⟩))\/((∀a,u≠ .pointer a)/\g<0):=fun g u O=>(I g u O).elim
 have J:Below w0.heap.size w (w.alloc (.cells c ty)):=(Below.refl _ _).alloc h.below.size _;have j:∀b,b<w.heap.size->(∀g u,ρ id=some (g,u)->blk u≠some b)->(w.alloc (.cells c ty)).heap[b]?=w.heap[b]?:=fun b hb _=>heap_alloc_old w _ hb
 have G:∀b,blk (.pointer (some ⟨w.heap.size,0,none⟩))=some b->(∃g u,ρ id=some (g,u)/\blk u=some b)\/(w.heap.size<=b):=fun b hb=>by
  grind [blk]
 have f:∀ob,s.objs id=some ob->ob.simple=true:=fun ob ho=>by grind
 refine h.upd id 0 _ _ f hold J j G ?_;exact⟨w.heap.size,c,ty,by simp[dJ],h.below.size,heap_alloc_new w _,V,fun k L=>h.tJ id 0 _ f hold J j G (S k L)⟩
theorem RR.newRow (h:RR E n N w0 ρ s a w) {id O:Nat} {I:Value} {t:U.τ} {xs:List (U.T t)} {cs:List Value} (f:∀ob,s.objs id=some ob->ob.simple=true)
  (hold:∀g u,ρ id=some (g,u)->(∀a,u≠ .pointer a)/\g<O) (hg:w.grownBy w' ((ρ id).bind fun p=>blk p.2))
  (J:w'.ownsRow w0.heap.size (U.ety t) (U.size t) I xs.length cs)
  (L:∀b,blk I=some b->(∃g u,ρ id=some (g,u)/\blk u=some b)\/(w.heap.size<=b))
  (hl:∀i (hi:i<xs.length) k (V:k<(E.enc t xs[i]).length),Rel E w ρ (aD N ρ w) (E.enc t xs[i])[k] (cs.getD (i*U.size t+k) undef)):
  RR E n N w0 (dJ ρ id O I) (s.obj id (.row t O xs)) a w':=by
 have G:∀g u,ρ id=some (g,u)->(g=O/\u=I)\/((∀a,u≠ .pointer a)/\g<O):=fun g u S=>.inr (hold g u S)
 have Z:Below w0.heap.size w w':=(Below.refl _ _).grown hg h.below.size (fun k V=>by
  cases S:ρ id with
  |none=>grind
  |some p=>
   rw[S] at V;exact((h.own (g:=p.1) (u:=p.2) S).2 k V).1)
 have j:∀b,b<w.heap.size->(∀g u,ρ id=some (g,u)->blk u≠some b)->w'.heap[b]?=w.heap[b]?:=fun b hb hne=>by
  refine hg.block b hb (fun e=>?_);cases S:ρ id with
  |none=>grind
  |some p=>
   grind
 have hpp:∀a,I≠ .pointer a:=fun a e=>by
  rcases J.2 with ⟨h0,_⟩|⟨_,_,_,h0,_⟩<;>rw[h0] at e<;>cases e
 refine h.upd id O I _ f G Z j L ?_;exact⟨I,cs,by simp[dJ],hpp,J,fun i hi k V=>h.tJ id O I f G Z j L (hl i hi k V)⟩
theorem xB {t:TypeId} {l:List (aC U)} (f:zeroCells P t=some l):
  ∃z,(zeroValue t).run P w=.ok z w/\z.cells.size=l.length/\∀(st:Nat->Prop) k (u:k<l.length),Rel E w ρ st l[k] (z.cells.getD k undef):=by
 unfold zeroCells at f;split at f
 ·rename_i i hi;split at f
  ·rename_i z j;obtain rfl:=QU f;simp_all[zeroValue,typeInfo,P8]
  grind
 grind
theorem bBR (h:RR E n N w0 ρ s a w) {id:Nat} (hf:s.objs id=none) {t:TypeId} {l:List (aC U)} (u:zeroCells P t=some l):
  ∃w' ρ',(Instr.alloc t true (.tuple #[])).run P w=.ok (.pointer (some ⟨w.heap.size,0,none⟩)) w'/\RR E n N w0 ρ' (s.obj id (.cells l)) a w'/\ρ' id=some (0,.pointer (some ⟨w.heap.size,0,none⟩)):=by
 obtain⟨z,j,f,G⟩:=xB (E:=E) (w:=w) (ρ:=ρ) u;refine⟨w.alloc (.cells z.cells t),_,?_,h.yo hf t f (G _),by simp[dJ]⟩;simp_all[Instr.alloc,newVar,newRow]
theorem bBS {C:Cfg U} (h:RR C.E n N w0 ρ s a w) {id:Nat} (hf:s.objs id=none) {t:TypeId} {x:(k:U.κ)×U.K k} (hm:C.opqOf t=some x):
  ∃w' ρ',(Instr.alloc t true (.tuple #[])).run C.P w=.ok (.pointer (some ⟨w.heap.size,0,none⟩)) w'/\RR C.E n N w0 ρ' (s.obj id (.opq x.1 x.2)) a w'/\ρ' id=some (0,.pointer (some ⟨w.heap.size,0,none⟩)):=by
 obtain⟨w',J,hb,L⟩:=C.opqOK t x hm w w0.heap.size h.below.size;have G:=h.tK hf;have f:∀ob,s.objs id=some ob->ob.simple=true:=fun ob ho=>by grind
 have S:=h.vU f;refine⟨w',dJ ρ id 0 (.pointer (some ⟨w.heap.size,0,none⟩)),J,?_,by simp[dJ]⟩;refine h.upd id 0 _ _ f (fun g u O=>(G g u O).elim) (hb.mono h.below.size) (fun b I _=>hb.block b I) (fun b I=>?_) ?_
 ·grind [blk]
 ·show C.E.rep x.1 x.2 w' w0.heap.size (dJ ρ id 0 _ (.ob id)) (fun j=>dJ ρ id 0 _ (.mem id j));grind [dJ]
theorem bA4 (h:RR E n N w0 ρ s a w) {look:Nat->Option (aT U)} (f:∀id ob,look id=some ob->s.objs id=some ob) {id:Nat} (hf:s.objs id=none) (t:TypeId)
  {x:aC U} {v:Value} (G:Rel E w ρ (aD N ρ w) x v) (I:x.cellsOf.all (storable look)=true):
  ∃w' ρ',(Instr.box t v).run P w=.ok (.pointer (some ⟨w.heap.size,0,none⟩)) w'/\RR E n N w0 ρ' (s.obj id (.cells x.cellsOf)) a w'/\ρ' id=some (0,.pointer (some ⟨w.heap.size,0,none⟩)):=by
 obtain⟨j,u,_⟩:=aIB h f G I;refine⟨w.alloc (.cells v.cells t),_,?_,h.yo hf t j (fun k J=>by simp_all),by simp[dJ]⟩;rfl
theorem aWb (f:List Value):∀(off:Nat) (cs:Array Value) (i:Nat),(f.zipIdx i).foldl (fun cs (p:Value×Nat)=>cs.setIfInBounds (off+p.2) p.1) cs=(f.zipIdx (off+i)).foldl (fun cs (p:Value×Nat)=>cs.setIfInBounds p.2 p.1) cs:=by
 induction f with
 |nil=>simp_all
 |cons v f j=>
  intro off cs i;simp only[List.zipIdx_cons,JY];rw[j off _ (i+1)];rfl
theorem aWa (f:List Value):∀(off:Nat) (cs:Array Value),off+f.length<=cs.size->(f.zipIdx off).foldl (fun cs (p:Value×Nat)=>cs.setIfInBounds p.2 p.1) cs=(cs.toList.take off++f++cs.toList.drop (off+f.length)).toArray:=by
 induction f with
 |nil=>
  simp_all
 |cons v f j=>
  intro off cs h;simp only[QN] at h;simp only[List.zipIdx_cons,JY];rw[j (off+1) _ (by grind)];congr 1;have u:off<cs.toList.length:=by grind
  simp only[Array.toList_setIfInBounds];grind [List.take_succ_eq_append_getElem,List.take_set_of_le,List.drop_set_of_lt]
theorem Zm {st:Nat->Prop} {look:Nat->Option (aT U)} (hst:∀(x:aC U) v,Rel E w ρ st x v->storable look x=true->v.oneCell'=true) {u place':Nat->Option (Nat×Nat)} (hp:∀i q,u i=some q->place' i=some q):
  ∀(f:List (Nat×aC U)) (parts':List (Nat×Value)) (l I:List (aC U)) (c:Array Value),f.length=parts'.length->
   (∀k (h:k<f.length) (h':k<parts'.length),f[k].1=parts'[k].1/\Rel E w ρ st f[k].2 parts'[k].2)->
   oY look u l f=some I->c.size=l.length->(∀k (h:k<l.length),Rel E w ρ st l[k] (c.getD k undef))->
   ∃L,Instr.fill place' c parts'=some L/\L.size=I.length/\∀k (h:k<I.length),Rel E w ρ st I[k] (L.getD k undef):=by
 intro f
 induction f with
 |nil=>
  intro parts' l I c S _ hf hc hl;have:parts'=[]:=List.eq_nil_of_length_eq_zero (by grind);subst this;simp only[oY,QJ] at hf;subst hf;exact⟨c,rfl,hc,hl⟩
 |cons p f ih=>
  intro parts' l I c S G hf hc hl;obtain⟨i,x⟩:=p;cases parts' with
  |nil=>grind
  |cons p' parts'=>
   obtain⟨i',v⟩:=p';obtain⟨h1,h2⟩:=G 0 XQ XQ;simp only[JZ] at h1 h2;subst h1;simp only[oY] at hf;split at hf
   ·cases hf
   ·rename_i off size Z;have j:(x.cellsOf.all (storable look)&&Nat.beq x.cellsOf.length size&&Nat.ble (off+x.cellsOf.length) l.length)=true:=by
     grind
    rw[j] at hf;simp only[QY] at hf;simp only[QW] at j;obtain⟨⟨oA,uE⟩,Gw⟩:=j;have hsz:=QQ uE;have hle:=QR Gw
    -- the value's cells
    have hv:v.cells.size=x.cellsOf.length/\∀k (V:k<x.cellsOf.length),Rel E w ρ st x.cellsOf[k] (v.cells.toList.getD k undef):=by
     by_cases hag:∃l,x=.agg l
     ·obtain⟨la,rfl⟩:=hag;cases h2 with
      |agg _ vs hn hla=>
       refine⟨hn,fun k V=>?_⟩;show Rel E w ρ st la[k] (vs.toList.getD k undef);rw[zC];exact hla k V
     ·have hcc:x.cellsOf=[x]:=by
       cases x<;>first|rfl|grind
      grind [cells_one]
    have hcs:∀k (h:k<(setCells l off x.cellsOf).length),Rel E w ρ st (setCells l off x.cellsOf)[k] ((c.toList.take off++v.cells.toList++c.toList.drop (off+v.cells.toList.length)).getD k undef):=
     O2 x.cellsOf v.cells.toList l off c.toList (by grind) hle KI hv.2 (fun k V=>by simp_all)
    have hvl:v.cells.toList.length=x.cellsOf.length:=by grind
    obtain⟨L,hc',O,J⟩:=ih parts' (setCells l off x.cellsOf) I (c.toList.take off++v.cells.toList++c.toList.drop (off+v.cells.toList.length)).toArray (by grind)
     (fun k h h'=>G (k+1) (by grind) (by grind)) hf
     (by grind [Kz]) (fun k V=>by simp_all)
    refine⟨L,?_,O,J⟩;simp only[Instr.fill,hp _ _ Z];have h3:¬(v.cells.size≠size\/off+v.cells.size > c.size):=KI;have h4:(decide (v.cells.size≠size)||decide (off+v.cells.size > c.size))=false:=by grind
    rw[QF (by grind)];have e:v.cells.zipIdx.foldl (fun cs (p:Value×Nat)=>cs.setIfInBounds (off+p.2) p.1) c=(c.toList.take off++v.cells.toList++c.toList.drop (off+v.cells.toList.length)).toArray:=by
     rw[<- Array.foldl_toList,Array.toList_zipIdx,aWb,JB,aWa _ _ _ KI]
    grind
end
section
variable {U:eO} {n:Nat} {N:Nat->Prop} {w0:Fr} {w w':World} {ρ ρ':Own} {s:ASt U} {a:Act}
theorem qY {C:Cfg U} {t:TypeId} {τ:U.τ} (h:lG C t=some τ):
  C.P.underlying t=some (.slice (U.ety τ))/\∃i,C.P.info? (U.ety τ)=some i/\i.size=U.size τ:=by
 grind [lG,Nat.eq_of_beq_eq_true,oH]
theorem oV {t f:U.τ} {xs:List (U.T f)} {ys:List (U.T t)} (h:oD t f xs=some ys):∃e:f=t,e▸xs=ys:=by
 unfold oD at h;split at h
 ·grind
 grind
def k6 (E:Enc U) (w:World) (ρ:Own) (st:Nat->Prop) (t:U.τ) (xs:List (U.T t)) (v:Value):Prop:=
 ((∃G,v=.slice G 0 0)/\xs=[])\/∃(b o u:Nat) (f:Nat->Value),v=.slice (some ⟨b,o,none⟩) xs.length u/\xs.length<=u/\
  (∀j,j<xs.length*U.size t->w.cell? ⟨b,o+j,none⟩=some (f j))/\
  ∀i (h:i<xs.length) k (I:k<(E.enc t xs[i]).length),Rel E w ρ st (E.enc t xs[i])[k] (f (i*U.size t+k))
theorem Bx {E:Enc U} {st:Nat->Prop} {base:Nat} {t:U.τ} {xs:List (U.T t)} {u:Value} {cs:List Value} (S:w.ownsRow base (U.ety t) (U.size t) u xs.length cs)
  (h3:∀i (h:i<xs.length) k (hk:k<(E.enc t xs[i]).length),Rel E w ρ st (E.enc t xs[i])[k] (cs.getD (i*U.size t+k) undef)):k6 E w ρ st t xs u:=by
 rcases S.2 with ⟨h0,f⟩|⟨V,J,cur,I,O,G,f,hcm,hcs,L⟩
 ·exact .inl ⟨⟨_,h0⟩,List.eq_nil_of_length_eq_zero f⟩
 ·refine .inr ⟨V,0,J,fun j=>cs.getD j undef,I,f,fun j Z=>?_,h3⟩;rw[JD,cell_of_row w V j cur _ (0,0) G];have h6:cs[j]?=cur[j]?:=by
   grind
  have:j<cs.length:=by rw[S.1];exact Z
  grind
theorem RR.Ld {E:Enc U} (h:RR E n N w0 ρ s a w) {id:Nat} {t:U.τ} {g:Nat} {xs:List (U.T t)} (ho:s.objs id=some (.row t g xs)):
  ∃u f,ρ id=some (g,u)/\(∀a,u≠ .pointer a)/\w.ownsRow w0.heap.size (U.ety t) (U.size t) u xs.length f/\k6 E w ρ (aD N ρ w) t xs u/\
   ∀i (h:i<xs.length) k (j:k<(E.enc t xs[i]).length),Rel E w ρ (aD N ρ w) (E.enc t xs[i])[k] (f.getD (i*U.size t+k) undef):=by
 obtain⟨u,f,J,hp,I,G⟩:=h.objs _ _ ho;grind [Bx]
theorem aX9 {E:Enc U} {st:Nat->Prop} {base:Nat} {f:U.τ} {G:List (U.T f)} {u:Value} {cs:List Value} (h2:w.ownsRow base (U.ety f) (U.size f) u G.length cs)
  (h3:∀i (h:i<G.length) k (hk:k<(E.enc f G[i]).length),Rel E w ρ st (E.enc f G[i])[k] (cs.getD (i*U.size f+k) undef)) {lo hi c:Nat} {O:Option Addr} (hle:lo<=hi)
  (Z:(O=none/\c=0/\lo=hi)\/∃b n J o,u=.slice (some ⟨b,0,none⟩) n J/\hi<=n/\O=some ⟨b,o,none⟩/\(lo<hi->o=lo*U.size f)/\hi-lo<=c):
  k6 E w ρ st f ((G.take hi).drop lo) (.slice O (hi-lo) c):=by
 rcases Z with ⟨rfl,rfl,rfl⟩|⟨b,n',J,o,rfl,hn,rfl,ho,hcap⟩
 ·refine .inl ⟨⟨none,by grind⟩,?_⟩;grind
 ·rcases h2.2 with ⟨h0,_⟩|⟨gb,cap',cur,I,hbase,V,hnn,hcm,hcs,htake⟩
  ·cases h0
  simp only[JI,QJ,KQ,and_true] at I;obtain⟨rfl,rfl,rfl⟩:=I;have L:((G.take hi).drop lo).length=hi-lo:=by grind
  refine .inr ⟨b,o,c,fun k=>cs.getD (lo*U.size f+k) undef,by grind,KI,fun j hj=>?_,fun i hi' k hk=>?_⟩
  ·rw[L] at hj;have S:lo<hi:=by
    grind
   rw[ho S,cell_of_row w b _ cur _ (0,0) V];have hin:lo*U.size f+j<G.length*U.size f:=by
    have h4:(lo+(hi-lo))*U.size f<=G.length*U.size f:=QC _ KI;grind
   have h6:cs[lo*U.size f+j]?=cur[lo*U.size f+j]?:=by
    grind
   have:lo*U.size f+j<cs.length:=by rw[h2.1];omega
   grind
  grind
theorem P3 {E:Enc U} (h:RR E n N w0 ρ s a w) {look:Nat->Option (aT U)} (G:∀id ob,look id=some ob->s.objs id=some ob) {t:U.τ}
  {x:aC U} {v:Value} (O:Rel E w ρ (aD N ρ w) x v) {ys:List (U.T t)} (I:rowOf E look t x=some ys):k6 E w ρ (aD N ρ w) t ys v:=by
 unfold rowOf at I;split at I
 ·split at I
  ·rename_i id g _ t2 L zs S;have J:Nat.beq g L=true:=by grind
   rw[J] at I;simp only[QY] at I;obtain rfl:=QQ J;obtain⟨rfl,rfl⟩:=oV I;obtain⟨u,cs,h1,hp,h2,h3,_⟩:=h.Ld (G _ _ S);cases O with
   |osl _ _ Z j hp'=>
    grind
   |oslOld _ _ L Z v j hg=>
    grind
  grind
 ·rename_i t2 zs;obtain⟨rfl,rfl⟩:=oV I;cases O with
  |lO _=>exact .inl ⟨⟨_,rfl⟩,rfl⟩
  |sle _ ad=>exact .inl ⟨⟨_,rfl⟩,rfl⟩
  |sl _ _ b o cap f hb V J S=>exact .inr ⟨b,o,cap,f,rfl,V,J,S⟩
 ·obtain rfl:=QU I;cases O;exact .inl ⟨⟨_,rfl⟩,rfl⟩
 ·split at I
  ·rename_i t2 zs hm;obtain⟨rfl,rfl⟩:=oV I;have hms:=Ay h G hm;cases O with
   |mslOld _ _ _ L Z v j hg=>
    grind
   |msl _ _ _ u j=>
    grind [Bx]
  grind
 ·rename_i id g lo hi sz;split at I
  ·rename_i t2 L zs S;have J:(Nat.beq g L&&Nat.beq sz (U.size t2))=true:=by grind
   rw[J] at I;simp only[QY] at I;simp only[QW] at J;obtain rfl:=QQ J.1;obtain rfl:=QQ J.2;obtain⟨rfl,rfl⟩:=oV I;obtain⟨u,cs,h1,hp,h2,_,h3⟩:=h.Ld (G _ _ S);cases O with
   |ovwOld _ _ _ _ _ L Z v j hg=>
    grind
   |ovw _ _ _ _ _ Z ad c j _ hle had=>
    rw[h1] at j;simp only[QJ,QX,true_and] at j;subst j;grind [aX9]
  grind
 grind
theorem aQ6 (w:World) (row:Option Nat):w.grownBy w row:=⟨rfl,rfl,rfl,QP _,fun _ _ _=>rfl⟩
theorem lQ {u:Value} (h:∀a,u≠ .pointer a):u.ownBlock=blk u:=by
 cases u<;>first|rfl|skip
 ·grind
 ·rename_i o _ _;cases o<;>rfl
def Ri (w:World) (m size:Nat) (f:Nat->Value) (y:Value):Prop:=
 ((∃G,y=.slice G 0 0)/\m=0)\/∃(b o u:Nat),y=.slice (some ⟨b,o,none⟩) m u/\m<=u/\∀j,j<m*size->w.cell? ⟨b,o+j,none⟩=some (f j)/\(f j).oneCell'=true
theorem J3 {P:Program} {base:Nat} {t ty e:TypeId} (hu:P.underlying t=some (.slice e)) {i:TypeInfo} (hi:P.info? e=some i) {z:Value} (hz:i.zero=some z) {size:Nat} (his:i.size=size)
  (hzs:z.cells.size=size) (hpos:0<size) (hby:1<=i.bytes) {u y:Value} {n m:Nat} {cs:List Value} (I:w.ownsRow base e size u n cs) (hpu:∀a,u≠ .pointer a) {f:Nat->Value}
  (hy:Ri w m size f y) (O:(n+m)*i.bytes<=140737488355328) (L:base<=w.heap.size):
  ∃v' w',(Builtin.append_ #[t,t] ty #[u,y]).run P w=.ok v' w'/\w'.ownsRow base e size v' (n+m) (cs++(List.range (m*size)).map f)/\w.grownBy w' u.ownBlock/\(∀p,v'≠ .pointer p)/\
   ∀b,blk v'=some b->blk u=some b\/w.heap.size<=b:=by
 have hle:n+m<=maxLen:=by
  have:(n+m)*1<=(n+m)*i.bytes:=Nat.mul_le_mul_left _ hby;unfold maxLen;omega
 rcases hy with ⟨⟨ad,rfl⟩,rfl⟩|⟨b,o,S,rfl,hcap,hc⟩
 ·refine⟨u,w,?_,by grind,aQ6 _ _,hpu,fun b hb=>.inl hb⟩;rcases I.2 with ⟨rfl,_⟩|⟨gb,S,cur,rfl,L,hgb,hn,_⟩
  ·cases ad<;>simp[Builtin.append_,QV hu,sizeOf,typeInfo,hi,Builtin.lenOf,Builtin.firstCells,loadCells,loadCellsFrom]
  ·cases ad<;>simp[Builtin.append_,QV hu,sizeOf,typeInfo,hi,Builtin.lenOf,Builtin.firstCells,hn,storeCells,loadCells,loadCellsFrom]
 ·have hnl:((List.range (m*size)).map f).length=m*size:=XQ;have V:∀x∈(List.range (m*size)).map f,x.oneCell'=true:=fun x hx=>by
   grind
  have J:∀j x,((List.range (m*size)).map f)[j]?=some x->w.cell? ((⟨b,o,none⟩:Addr).add j)=some x:=fun j x hx=>by
   grind [Addr.wT]
  obtain⟨v',w',G,hown',hgrow,hnil⟩:=run_append_own (P:=P) w base t ty e i z size i.bytes hu hi hz his rfl hzs hpos u n cs I
   ⟨b,o,none⟩ m S ((List.range (m*size)).map f) hnl J V hle O L
  have hpv:∀p,v'≠ .pointer p:=fun p e=>by
   rcases hown'.2 with ⟨h0,_⟩|⟨_,_,_,h0,_⟩<;>rw[h0] at e<;>cases e
  refine⟨v',w',G,hown',hgrow,hpv,fun b' hb'=>?_⟩;rcases I.2 with ⟨rfl,eb⟩|⟨gb,Z,cur,rfl,L,hgb,hn,hcm,hcs,htake⟩
  ·refine .inr ?_;subst eb;have hcs0:cs=[]:=List.eq_nil_of_length_eq_zero (by rw[I.1];simp);subst hcs0;obtain⟨v2,w2,hrun2,hown2,_⟩:=run_append_own (P:=P) w w.heap.size t ty e i z size i.bytes hu hi hz his rfl hzs hpos (.slice none 0 0) 0 [] (JV _ _ _ _)
    ⟨b,o,none⟩ m S ((List.range (m*size)).map f) hnl J V KI KI (QP _)
   rw[hrun2] at G;simp only[Result.ok.injEq] at G;obtain⟨rfl,rfl⟩:=G;exact(hown2.lt b' (by grind [lQ])).1
  ·by_cases hroom:n+m<=Z
   ·have hr:=run_append_room (P:=P) w t ty e i hu hi gb n Z cur hgb ⟨b,o,none⟩ m S ((List.range (m*size)).map f) (by grind) J V hroom (by
     rw[hnl,hcs,his,<- Nat.add_mul];exact QC _ hroom)
    rw[hr] at G;simp only[Result.ok.injEq] at G;obtain⟨rfl,_⟩:=G;exact .inl hb'
   ·have hr:=run_append_grow (P:=P) w t ty e i z hu hi hz ⟨gb,0,none⟩ n Z cs (by rw[I.1,his]) (I.cells (g:=gb) rfl) ⟨b,o,none⟩ m S
     ((List.range (m*size)).map f) (by grind) J KI (by grind [maxLen]) (growslice_fits KI O)
    grind [blk]
theorem aIS {C:Cfg U} (h:RR C.E n N w0 ρ s a w) {t ty:TypeId} {τ:U.τ} (hτ:lG C t=some τ) {i:TypeInfo} (hi:C.P.info? (U.ety τ)=some i) {z:Value} (hz:i.zero=some z)
  (hzs:z.cells.size=U.size τ) (hby:1<=i.bytes) {id:Nat} {u y:Value} {xs ys:List (U.T τ)} {cs:List Value}
  (I:w.ownsRow w0.heap.size (U.ety τ) (U.size τ) u xs.length cs) (hpu:∀a,u≠ .pointer a)
  (hxs:∀i (h:i<xs.length) k (hk:k<(C.E.enc τ xs[i]).length),Rel C.E w ρ (aD N ρ w) (C.E.enc τ xs[i])[k] (cs.getD (i*U.size τ+k) undef))
  (hy:k6 C.E w ρ (aD N ρ w) τ ys y) (L:(xs.length+ys.length)*i.bytes<=140737488355328) (g':Nat)
  (hid:(∃g,ρ id=some (g,u)/\g<g')\/(ρ id=none/\u=.slice none 0 0)) (O:∀ob,s.objs id=some ob->ob.simple=true):
  ∃v' w',(Builtin.append_ #[t,t] ty #[u,y]).run C.P w=.ok v' w'/\RR C.E n N w0 (dJ ρ id g' v') (s.obj id (.row τ g' (xs++ys))) a w'/\∀p,v'≠ .pointer p:=by
 obtain⟨hu,i',hi',his⟩:=qY hτ;rw[hi] at hi';obtain rfl:=QU hi';have hold:∀g u',ρ id=some (g,u')->(∀a,u'≠ .pointer a)/\g<g':=fun g u' hr=>by
  grind
 have hgr:∀w',w.grownBy w' u.ownBlock->w.grownBy w' ((ρ id).bind fun p=>blk p.2):=fun w' hg=>by
  refine⟨hg.os,hg.tape,hg.output,hg.size,fun k hk hne=>hg.block k hk (fun e=>?_)⟩;rcases hid with ⟨g0,h0,_⟩|⟨h0,rfl⟩
  ·grind [lQ]
  ·cases e
 have hsz:=C.E.pos τ;obtain⟨f,hc,hl⟩:∃f,Ri w ys.length (U.size τ) f y/\∀i (h:i<ys.length) k (hk:k<(C.E.enc τ ys[i]).length),Rel C.E w ρ (aD N ρ w) (C.E.enc τ ys[i])[k] (f (i*U.size τ+k)):=by
  rcases hy with ⟨⟨ad,rfl⟩,rfl⟩|⟨b,o,cap,f,rfl,hcap,hc,hl⟩
  ·exact⟨fun _=>undef,.inl ⟨⟨ad,rfl⟩,rfl⟩,fun i hi=>absurd hi XQ⟩
  ·refine⟨f,.inr ⟨b,o,cap,rfl,hcap,fun j hj=>⟨hc j hj,?_⟩⟩,hl⟩;have hq:j / U.size τ<ys.length:=Nat.div_lt_of_lt_mul (by grind);have hm:j % U.size τ<(C.E.enc τ ys[j / U.size τ]).length:=by rw[C.E.enc_len];exact Nat.mod_lt _ hsz
   have:=hl (j / U.size τ) hq (j % U.size τ) hm;have e:j / U.size τ*U.size τ+j % U.size τ=j:=by grind [Nat.div_add_mod]
   rw[e] at this;obtain⟨G,Z⟩:=C.E.enc_flat τ _ _ (QH hm);refine this.sF Z (fun _ _ _ hr=>(h.own hr).1) (fun id g he=>?_) (fun id g i off sz he=>?_) (fun id i g he=>?_) (fun id i g j off sz he=>?_)
   ·rw[he] at G;cases G
   ·rw[he] at G;cases G
   ·rw[he] at G;cases G
   ·rw[he] at G;cases G
 obtain⟨v',w',hrun,S,V,hpv,hblk⟩:=J3 (P:=C.P) (ty:=ty) hu hi hz his hzs hsz hby I hpu hc L h.below.size;refine⟨v',w',hrun,?_,hpv⟩;have hlen:(xs++ys).length=xs.length+ys.length:=XQ;refine h.newRow O hold (hgr w' V) (by rw[hlen];exact S) (fun b' J=>?_) (fun j hj k hk=>?_)
 ·rcases hblk b' J with J|J
  ·rcases hid with ⟨g0,h0,_⟩|⟨h0,rfl⟩
   ·grind
   ·cases J
  omega
 ·have hk':k<U.size τ:=by rw[C.E.enc_len] at hk;exact hk
  by_cases hjx:j<xs.length
  ·have e:(xs++ys)[j]=xs[j]:=KY hjx;have hin:j*U.size τ+k<cs.length:=by
    rw[I.1];have:(j+1)*U.size τ<=xs.length*U.size τ:=QC _ hjx;grind
   grind
  ·have yZ:j-xs.length<ys.length:=KI;have e:(xs++ys)[j]=ys[j-xs.length]:=List.getElem_append_right KI;have:=hl (j-xs.length) yZ k (by grind);simp only[e];have hjm:j*U.size τ=xs.length*U.size τ+(j-xs.length)*U.size τ:=by
    rw[<- Nat.add_mul];grind
   have h4:(j-xs.length+1)*U.size τ<=ys.length*U.size τ:=QC _ yZ;rw[Nat.add_mul,Nat.one_mul] at h4;have e2:(cs++(List.range (ys.length*U.size τ)).map f).getD (j*U.size τ+k) undef=f ((j-xs.length)*U.size τ+k):=by
    have h5:¬j*U.size τ+k<cs.length:=by rw[I.1];omega
    have h6:j*U.size τ+k-cs.length=(j-xs.length)*U.size τ+k:=by rw[I.1];omega
    grind
   grind
end
theorem aZB (p:Prop) (l:List Prop):dZ (p::l)↔p/\dZ l:=by
 cases l with
 |nil=>simp[dZ]
 |cons q r=>rfl
theorem aZA (l:List Prop):dZ l↔∀p∈l,p:=by
 induction l with
 |nil=>exact⟨fun _ p hp=>absurd hp List.not_mem_nil,fun _=>trivial⟩
 |cons p l f=>rw[aZB,List.forall_mem_cons,f]
section
variable {U:eO} {n:Nat} {N:Nat->Prop} {w0:Fr} {w w':World} {ρ ρ':Own} {s:ASt U} {a:Act}
theorem cC {α:Type} {b:Bool} {x:Option α} {y:α} (h:cond b x none=some y):b=true/\x=some y:=by
 grind
theorem ll {α:Type} {b:Bool} {x:Option α} {y:α} (h:cond b none x=some y):b=false/\x=some y:=by
 grind
theorem bBb {C:Cfg U} (h:RR C.E n N w0 ρ s a w) {look:Nat->Option (aT U)} (j:∀id ob,look id=some ob->s.objs id=some ob) {d:Nat} (hf:look d=none->s.objs d=none)
  {argTypes:Array TypeId} {ty:TypeId} {x y:aC U} {u v:Value} (hx:Rel C.E w ρ (aD N ρ w) x u) (hy:Rel C.E w ρ (aD N ρ w) y v)
  {cs:List Prop} {r:aC U} {ob:Option (Nat×aT U)} (ho:na C look d argTypes x y=some (cs,r,ob)) (hc:dZ cs):
  ∃J w' ρ',(Builtin.append_ argTypes ty #[u,v]).run C.P w=.ok J w'/\RR C.E n N w0 ρ' (s.putObj ob) a w'/\Rel C.E w' ρ' (aD N ρ' w') r J:=by
 unfold na at ho;split at ho
 ·rename_i t t' hat;have hbo:=cC ho;clear ho;obtain⟨hb,ho⟩:=hbo;obtain rfl:=QQ hb;have S:argTypes=#[t,t]:=by grind
  subst S;split at ho
  ·rename_i τ hτ;split at ho
   ·rename_i i hi;split at ho
    ·rename_i z hz;have hbo2:=cC ho;clear ho;obtain⟨dR,ho⟩:=hbo2;simp only[QW] at dR;have V:=QQ dR.1;have hby:=QR dR.2;split at ho
     ·rename_i ys hys;have Z:=P3 h j hy hys;split at ho
      ·split at ho
       ·rename_i O;simp only[QJ,QX] at ho;obtain⟨rfl,rfl,rfl⟩:=ho;cases hx;have G:ys.length*i.bytes<=140737488355328:=hc;have L:ρ d=none:=by
         have hfr:=h.tK (hf O);generalize ρ d=q at hfr;cases q with
         |none=>rfl
         |some p=>grind
        obtain⟨J,w',I,hR,hp⟩:=aIS (ty:=ty) h hτ hi hz V hby (id:=d) (xs:=[]) (cs:=[]) (JV _ _ _ _) (fun a e=>by cases e) (fun i hi=>absurd hi XQ) Z
         (by grind) 0 (.inr ⟨L,rfl⟩) (fun ob ho=>by grind)
        exact⟨J,w',_,I,by simpa[ASt.putObj] using hR,.osl d 0 J (by simp[dJ]) hp⟩
       grind
      ·rename_i id g;split at ho
       ·rename_i xs f;simp only[QJ,QX] at ho;obtain⟨rfl,rfl,rfl⟩:=ho;have G:(xs.length+ys.length)*i.bytes<=140737488355328:=hc;unfold rowOf at f;simp only at f;split at f
        ·rename_i t2 g' zs hl;have hbx:=cC f;clear f;obtain⟨hbb,f⟩:=hbx;obtain rfl:=QQ hbb;obtain⟨rfl,rfl⟩:=oV f;obtain⟨u1,cs1,h1,wI,h2,h3,h4⟩:=h.Ld (j _ _ hl);have hu:u1=u:=by
          cases hx with
          |osl _ _ u' hr' hp'=>
           grind
          |oslOld _ _ g' u' v hr' hg=>
           grind
         subst hu;obtain⟨J,w',I,hR,hp⟩:=aIS (ty:=ty) h hτ hi hz V hby (id:=id) h2 wI h4 Z G (g+1) (.inl ⟨g,h1,KI⟩) (fun ob ho=>by rw[j _ _ hl] at ho;cases ho;rfl);exact⟨J,w',_,I,by simpa[ASt.putObj] using hR,.osl id (g+1) J (by simp[dJ]) hp⟩
        grind
       grind
      grind
     grind
    grind
   grind
  grind
 grind
theorem aHe {E:Enc U} {st:Nat->Prop} {t:U.τ}:∀(m:Nat) (l:List (aC U)) (xs:List (U.T t)) (f:Nat->Value),Ca E t m l=some xs->
  (∀k (h:k<l.length),Rel E w ρ st l[k] (f k))->xs.length=m/\m*U.size t<=l.length/\∀i (h:i<xs.length) k (L:k<(E.enc t xs[i]).length),Rel E w ρ st (E.enc t xs[i])[k] (f (i*U.size t+k)):=by
 intro m
 induction m with
 |zero=>
  grind [Ca]
 |succ m J=>
  intro l xs f j V;simp only[Ca] at j;split at j
  ·rename_i x O G u;obtain rfl:=QU j;have I:=E.dec_len t _ _ G;have S:U.size t<=l.length:=by
    grind
   obtain⟨h1,h2,Z⟩:=J _ _ (fun k=>f (U.size t+k)) u (fun k h=>by
    grind)
   refine⟨by grind,?_,fun i h k L=>?_⟩
   ·grind
   ·cases i with
    |zero=>
     simp only[JZ,Nat.zero_mul,JD];exact P7 G (f:=f) (fun k h=>by
      grind) k (by grind)
    |succ i=>
     grind
  grind
theorem vl (z:List (aC U)):∀(m k:Nat),k<m*z.length->((List.replicate m z).flatten)[k]?=z[k % z.length]?:=by
 intro m
 induction m with
 |zero=>omega
 |succ m f=>
  intro k h;simp only[List.replicate_succ,List.flatten_cons,List.getElem?_append]
  by_cases j:k<z.length
  ·grind [Nat.mod_eq_of_lt]
  grind [Nat.mod_eq_sub_mod]
theorem aII {C:Cfg U} (h:RR C.E n N w0 ρ s a w) {look:Nat->Option (aT U)} (I:∀id ob,look id=some ob->s.objs id=some ob) {d:Nat} (hf:s.objs d=none)
  {t:TypeId} {τ:U.τ} (hτ:lG C t=some τ) {z:List (aC U)} (hz:zeroCells C.P (U.ety τ)=some z) {len:Nat} (hzl:z.length=U.size τ) (hlen:len*U.size τ<=16777216)
  {f:List (Nat×aC U)} {parts':Array (Nat×Value)} (hpl:f.length=parts'.size)
  (hp:∀k (h:k<f.length) (h':k<parts'.toList.length),f[k].1=parts'.toList[k].1/\Rel C.E w ρ (aD N ρ w) f[k].2 parts'.toList[k].2)
  {l:List (aC U)} (hl:oY look (fun i=>some (i*U.size τ,U.size τ)) ((List.replicate len z).flatten) f=some l) {xs:List (U.T τ)} (hxs:Ca C.E τ len l=some xs):
  ∃v' w' ρ',(Instr.buildSlice t len parts').run C.P w=.ok v' w'/\RR C.E n N w0 ρ' (s.obj d (.row τ 0 xs)) a w'/\Rel C.E w' ρ' (aD N ρ' w') (.osl d 0) v':=by
 obtain⟨hu,i,hi,G⟩:=qY hτ;obtain⟨L,hzr,hzsz,hzrel⟩:=xB (E:=C.E) (w:=w) (ρ:=ρ) hz;have S:=C.E.pos τ
 -- the zero row
 have J:∃base:Array Value,base.size=((List.replicate len z).flatten).length/\(∀k (h:k<((List.replicate len z).flatten).length),Rel C.E w ρ (aD N ρ w) ((List.replicate len z).flatten)[k] (base.getD k undef))/\
   base=(Array.range (len*U.size τ)).map (fun k=>L.cells[k % L.cells.size]!):=by
  refine⟨_,by simp[hzl],fun k hk=>?_,rfl⟩;have hk':k<len*z.length:=by simp_all
  have hkm:k % z.length<z.length:=Nat.mod_lt _ KI;have e1:((List.replicate len z).flatten)[k]=z[k % z.length]:=by
   have:=vl z len k hk';grind
  have e2:((Array.range (len*U.size τ)).map (fun k=>L.cells[k % L.cells.size]!)).getD k undef=L.cells.getD (k % z.length) undef:=by
   have h1:k<len*U.size τ:=by grind
   have h2:k % z.length<L.cells.size:=KI;simp_all
  grind
 obtain⟨base,hbs,hbr,hbe⟩:=J;obtain⟨Z,j,hc's,V⟩:=Zm (look:=look) (place':=fun i=>some (i*U.size τ,U.size τ)) (fun x v hx hs=>xM h I hx hs) (fun i q hq=>hq) f parts'.toList _ l base KI hp hl hbs hbr;obtain⟨hxl,hle,hxr⟩:=aHe len l xs (fun k=>Z.getD k undef) hxs V;have hll:l.length=len*U.size τ:=by
  have:∀(ps:List (Nat×aC U)) (l0 l1:List (aC U)),oY look (fun i=>some (i*U.size τ,U.size τ)) l0 ps=some l1->l1.length=l0.length:=by
   intro ps
   induction ps with
   |nil=>grind [oY]
   |cons p ps ih=>
    grind [oY,Kz]
  grind
 refine⟨.slice (some ⟨w.heap.size,0,none⟩) len len,w.alloc (.cells Z (U.ety τ)),dJ ρ d 0 (.slice (some ⟨w.heap.size,0,none⟩) len len),?_,?_,.osl d 0 _ (by simp[dJ]) (fun a e=>by cases e)⟩
 ·have lV:¬len*i.size > 2^24:=by grind
  rw[G] at lV
  by_cases h0:len*U.size τ=0
  ·have O:(Array.range (len*U.size τ)).map (fun k=>(#[]:Array Value)[k % (#[]:Array Value).size]!)=base:=by
    grind
   simp only[Instr.buildSlice,QE,QV hu,QL,sizeOf,typeInfo,run_program,hi,JO,G,QF lV,JQ h0,O,j,newRow,run_newObj];rfl
  ·rw[hbe] at j;simp only[Instr.buildSlice,QE,QV hu,QL,sizeOf,typeInfo,run_program,hi,JO,G,QF lV,QF h0,hzr,j,newRow,run_newObj];rfl
 ·refine h.newRow (fun ob ho=>by grind) (fun g u hr=>(h.tK hf g u hr).elim) (World.grownBy_alloc w _ _) ⟨?_,.inr ⟨w.heap.size,len,Z,by grind,h.below.size,heap_alloc_new w _,KI,?_,KI,?_⟩⟩ (fun b hb=>?_) (fun i hi k hk=>?_) (cs:=Z.toList)
  ·grind
  ·unfold maxLen;have:len*1<=len*U.size τ:=Nat.mul_le_mul_left _ S;omega
  ·grind [List.take_of_length_le]
  ·grind [blk]
  ·have:=hxr i hi k hk;simp_all
theorem bA0 {C:Cfg U} (h:RR C.E n N w0 ρ s a w) {look:Nat->Option (aT U)} (J:∀id ob,look id=some ob->s.objs id=some ob)
  {t:TypeId} {τ:U.τ} (hτ:lG C t=some τ) {z:List (aC U)} (hz:zeroCells C.P (U.ety τ)=some z) {len:Nat} (hzl:z.length=U.size τ) (hlen:len*U.size τ<=16777216)
  {f:List (Nat×aC U)} {parts':Array (Nat×Value)} (hpl:f.length=parts'.size)
  (hp:∀k (h:k<f.length) (h':k<parts'.toList.length),f[k].1=parts'.toList[k].1/\Rel C.E w ρ (aD N ρ w) f[k].2 parts'.toList[k].2)
  {l:List (aC U)} (hl:oY look (fun i=>some (i*U.size τ,U.size τ)) ((List.replicate len z).flatten) f=some l) {xs:List (U.T τ)} (hxs:Ca C.E τ len l=some xs):
  ∃v' w',(Instr.buildSlice t len parts').run C.P w=.ok v' w'/\RR C.E n N w0 ρ s a w'/\Rel C.E w' ρ (aD N ρ w') (.sl τ xs) v':=by
 obtain⟨hu,i,hi,I⟩:=qY hτ;obtain⟨O,hzr,hzsz,hzrel⟩:=xB (E:=C.E) (w:=w) (ρ:=ρ) hz;have hpos:=C.E.pos τ
 -- the zero row
 have L:∃base:Array Value,base.size=((List.replicate len z).flatten).length/\(∀k (h:k<((List.replicate len z).flatten).length),Rel C.E w ρ (aD N ρ w) ((List.replicate len z).flatten)[k] (base.getD k undef))/\
   base=(Array.range (len*U.size τ)).map (fun k=>O.cells[k % O.cells.size]!):=by
  refine⟨_,by simp[hzl],fun k hk=>?_,rfl⟩;have hk':k<len*z.length:=by simp_all
  have hkm:k % z.length<z.length:=Nat.mod_lt _ KI;have e1:((List.replicate len z).flatten)[k]=z[k % z.length]:=by
   have:=vl z len k hk';grind
  have e2:((Array.range (len*U.size τ)).map (fun k=>O.cells[k % O.cells.size]!)).getD k undef=O.cells.getD (k % z.length) undef:=by
   have h1:k<len*U.size τ:=by grind
   have h2:k % z.length<O.cells.size:=KI;simp_all
  grind
 obtain⟨base,hbs,hbr,hbe⟩:=L;obtain⟨S,j,hc's,Z⟩:=Zm (look:=look) (place':=fun i=>some (i*U.size τ,U.size τ)) (fun x v hx hs=>xM h J hx hs) (fun i q hq=>hq) f parts'.toList _ l base KI hp hl hbs hbr;obtain⟨hxl,hle,hxr⟩:=aHe len l xs (fun k=>S.getD k undef) hxs Z;have hll:l.length=len*U.size τ:=by
  have:∀(ps:List (Nat×aC U)) (l0 l1:List (aC U)),oY look (fun i=>some (i*U.size τ,U.size τ)) l0 ps=some l1->l1.length=l0.length:=by
   intro ps
   induction ps with
   |nil=>grind [oY]
   |cons p ps ih=>
    grind [oY,Kz]
  grind
 have G:Below w.heap.size w (w.alloc (.cells S (U.ety τ))):=(Below.refl _ _).alloc (QP _) _;refine⟨.slice (some ⟨w.heap.size,0,none⟩) len len,w.alloc (.cells S (U.ety τ)),?_,h.ext G,?_⟩
 ·have lV:¬len*i.size > 2^24:=by grind
  rw[I] at lV
  by_cases h0:len*U.size τ=0
  ·have V:(Array.range (len*U.size τ)).map (fun k=>(#[]:Array Value)[k % (#[]:Array Value).size]!)=base:=by
    grind
   simp only[Instr.buildSlice,QE,QV hu,QL,sizeOf,typeInfo,run_program,hi,JO,I,QF lV,JQ h0,V,j,newRow,run_newObj];rfl
  ·rw[hbe] at j;simp only[Instr.buildSlice,QE,QV hu,QL,sizeOf,typeInfo,run_program,hi,JO,I,QF lV,QF h0,hzr,j,newRow,run_newObj];rfl
 ·have hst:∀b,aD N ρ w b->aD N ρ (w.alloc (.cells S (U.ety τ))) b/\(w.alloc (.cells S (U.ety τ))).heap[b]?=w.heap[b]?:=fun b ⟨q1,q2,q3⟩=>
   ⟨⟨JX q1 G.size,q2,q3⟩,G.block b q1⟩
  subst hxl;refine .sl τ xs w.heap.size 0 xs.length (fun k=>S.getD k undef) ⟨XQ,h.T8 (QP _),fun id g u hr hbl=>?_⟩ (QP _) (fun k hk=>?_) (fun i hi k hk=>?_)
  ·have:=(h.own hr).2 _ hbl;omega
  ·simp_all
  ·exact(hxr i hi k hk).mono hst (fun _ _ _ hr=>.inl hr)
theorem aTc {C:Cfg U} (h:RR C.E n N w0 ρ s a w) {d:Nat} (hf:s.objs d=none)
  {t:TypeId} {τ:U.τ} (hτ:lG C t=some τ) {z:List (aC U)} (hz:zeroCells C.P (U.ety τ)=some z) (hzl:z.length=U.size τ) {e:U.T τ} (he:C.E.dec τ z=some e)
  {i:TypeInfo} (hi:C.P.info? (U.ety τ)=some i) (hby:1<=i.bytes) {k k':IntKind} {c:Int} (h0:0<=c) (hb:c*(i.bytes:Int)<=140737488355328):
  ∃v' w' ρ',(Instr.makeSlice t (.int k c) (.int k' c)).run C.P w=.ok v' w'/\RR C.E n N w0 ρ' (s.obj d (.row τ 0 (List.replicate c.toNat e))) a w'/\Rel C.E w' ρ' (aD N ρ' w') (.osl d 0) v':=by
 obtain⟨hu,i',O,L⟩:=qY hτ;rw[hi] at O;obtain rfl:=QU O;have hpos:=C.E.pos τ;have Z:∃G,i.zero=some G/\z=G.cells.toList.map ofConst:=by
  grind [zeroCells]
 obtain⟨G,hzi,hze⟩:=Z;have hzs:G.cells.size=U.size τ:=by
  grind
 have hle:c<=c*(i.bytes:Int):=by
  have:=Int.mul_le_mul_of_nonneg_left (show (1:Int)<=i.bytes by omega) h0;omega
 have S:=run_make (P:=C.P) w t (U.ety τ) i G hu hi hzi k k' c c h0 (Int.le_refl _) (by grind) KI;have I:∀(st:Nat->Prop) j (J:j<z.length),Rel C.E w ρ st z[j] (G.cells.getD j undef):=by
  simp_all[P8]
 have hcell:∀j,j<c.toNat*U.size τ->(madeCells G.cells (c.toNat*i.size)).getD j undef=G.cells.getD (j % U.size τ) undef:=by
  simp_all[Nat.mod_lt,madeCells]
 refine⟨_,_,dJ ρ d 0 (.slice (some ⟨w.heap.size,0,none⟩) c.toNat c.toNat),S,?_,.osl d 0 _ (by simp[dJ]) (fun a e=>by cases e)⟩;refine h.newRow (fun ob ho=>by grind) (fun g u hr=>(h.tK hf g u hr).elim) (World.grownBy_alloc w _ _) ⟨?_,.inr ⟨w.heap.size,c.toNat,madeCells G.cells (c.toNat*i.size),by grind,h.below.size,heap_alloc_new w _,XQ,?_,?_,?_⟩⟩ (fun b hb=>?_) (fun j J q V=>?_) (cs:=(madeCells G.cells (c.toNat*i.size)).toList)
 ·simp[madeCells,L]
 ·unfold maxLen;omega
 ·simp[madeCells,L]
 ·grind [List.take_of_length_le,madeCells]
 ·grind [blk]
 ·rw[KP] at J;simp only[List.getElem_replicate] at V ⊢;have hql:q<U.size τ:=by rw[C.E.enc_len] at V;exact V
  have hdr:=P7 (E:=C.E) (w:=w) (ρ:=ρ) (st:=aD N ρ w) he (f:=fun j=>G.cells.getD j undef) (fun j J=>I _ j J);have hlt:j*U.size τ+q<c.toNat*U.size τ:=by
   have:(j+1)*U.size τ<=c.toNat*U.size τ:=QC _ J;grind
  grind [Nat.mul_comm,Nat.mul_add_mod,Nat.mod_eq_of_lt,zC]
end
section
variable {U:eO} {n:Nat} {N:Nat->Prop} {w0:Fr} {w w':World} {ρ ρ':Own} {s:ASt U} {a:Act}
def cO:Own:=fun _=>none
def fF (N:Nat->Prop) (w:World) (b:Nat):Prop:=b<w.heap.size/\¬N b
def tA (E:Enc U) (w:World) (N:Nat->Prop) (xs:List (aC U)) (args:Array Value):Prop:=
 args.size=xs.length/\∀k (h:k<xs.length),Rel E w cO (fF N w) xs[k] (args.getD k undef)
def jT (E:Enc U) (base:Nat) (N:Nat->Prop) (w:World) (r:aC U) (v:Value):Prop:=
 ∃ρ:Own,Rel E w ρ (aD N ρ w) (r.yL (fun k=>k)) v/\
  (∀k x,r.news[k]?=some x->gF E w ρ (aD N ρ w) base k x.obj)/\
  (∀nm g u,ρ nm=some (g,u)->∃x,r.news[nm.id]?=some x/\(x.1=false->∃k,nm=.ob k))/\
  ∀nm f g G u j b,ρ nm=some (g,u)->ρ f=some (G,j)->nm≠f->blk u=some b->blk j≠some b
def Di (C:Cfg U) (f:FuncId) (m:List (aC U)->aT U->Option (List Prop×aC U×aT U)) (w0:World):Prop:=
 (∀(j:Array Value) (w:World),(callFunc f j).run C.P w=.ok (.enter f j) w)/\
 ∀(L:Nat->Prop) (ρ:Own) (w:World) (j:Array Value) (I:Nat) (xs:List (aC U)) (ob G:aT U) (S:List Prop) (r:aC U),
  Below w0.heap.size w0 w->(∀b,L b->b<w.heap.size/\∀nm g u,ρ nm=some (g,u)->blk u≠some b)->
  (∀nm g u,ρ nm=some (g,u)->nm.id=I/\(ob.simple=true->nm=.ob I))->
  (∀nm J g V u O b,ρ nm=some (g,u)->ρ J=some (V,O)->nm≠J->blk u=some b->blk O≠some b)->
  gF C.E w ρ L w0.heap.size I ob->j.size=xs.length->(∀k (h:k<xs.length),Rel C.E w ρ L xs[k] (j.getD k undef))->
  ob.closed=true->m xs ob=some (S,r,G)->dZ S->G.closed=true->(r.yF||Gc I r G)=true->ownArg 0 xs=some (I,I)->
  Calls C.P f j w fun e w'=>∃v ρ',e=.returned v/\((r.yF=true->Rel C.E w' cO (fun _=>False) r v)/\(Gc I r G=true->Rel C.E w' ρ' (fun _=>False) r v))/\
   gF C.E w' ρ' (fun b=>(L b\/w.heap.size<=b\/∃nm g u,ρ nm=some (g,u)/\blk u=some b)/\b<w'.heap.size/\∀nm g u,ρ' nm=some (g,u)->blk u≠some b) w0.heap.size I G/\
   (∀nm g u,ρ' nm=some (g,u)->nm.id=I/\(G.simple=true->nm=.ob I))/\Chg (fun _=>False) (fun i=>i=I) w0.heap.size ρ ρ' w w'
def bBe (C:Cfg U):Prop:=∀f m,C.sum f=some m->(∀(j:Array Value) (w:World),(callFunc f j).run C.P w=.ok (.enter f j) w)/\
 ∀(N:Nat->Prop) (w:World) (j:Array Value) (xs:List (aC U)) (u:List Prop) (r:aC U),C.inv w->(∀b,N b->b<w.heap.size)->tA C.E w N xs j->m xs=some (u,r)->dZ u->
  Calls C.P f j w fun e w'=>∃v,e=.returned v/\jT C.E w.heap.size N w' r v/\Below w.heap.size w w'
def bBf (C:Cfg U) (w0:World):Prop:=∀f m,C.sum f=some m->(∀(j:Array Value) (w:World),(callFunc f j).run C.P w=.ok (.enter f j) w)/\
 ∀(N:Nat->Prop) (w:World) (j:Array Value) (xs:List (aC U)) (u:List Prop) (r:aC U),Below w0.heap.size w0 w->(∀b,N b->b<w.heap.size)->tA C.E w N xs j->m xs=some (u,r)->dZ u->
  Calls C.P f j w fun e w'=>∃v,e=.returned v/\jT C.E w.heap.size N w' r v/\Below w.heap.size w w'
def aE (C:Cfg U):Prop:=bBe C/\∀f m,C.eff f=some m->∀w0:World,C.inv w0->Di C f m w0
def fY (C:Cfg U) (w0:World):Prop:=bBf C w0/\∀f m,C.eff f=some m->Di C f m w0
theorem aE.at {C:Cfg U} (h:aE C) {w0:World} (hi:C.inv w0):fY C w0:=
 ⟨fun f m hm=>⟨(h.1 f m hm).1,fun N w j xs u r hb=>(h.1 f m hm).2 N w j xs u r (C.invOK w0 w hi hb)⟩,fun f m hm=>h.2 f m hm w0 hi⟩
theorem Rel.pure {E:Enc U} {st st':Nat->Prop} {x:aC U} {v:Value} (f:x.pure=true) (h:Rel E w ρ st x v):Rel E w' ρ' st' x v:=by
 cases h with
 |raw v=>exact .raw v
 |int k n=>exact .int k n
 |bool b=>exact .bool b
 |str s=>exact .str s
 |nils=>exact .nils
 |ifc0=>exact .ifc0
 |ifc1 t v=>exact .ifc1 t v
 |_=>simp[aC.pure] at f
theorem Xf (g:Nat->aC U->aC U):∀(l:List (aC U)) (k:Nat),(lI g k l).length=l.length:=by
 intro l
 induction l with
 |nil=>intro k;rfl
 |cons c l f=>grind [lI]
theorem aCw (g:Nat->aC U->aC U):∀(l:List (aC U)) (k i:Nat) (h:i<(lI g k l).length) (f:i<l.length),(lI g k l)[i]=g (k+((l.take i).flatMap iP).length) l[i]:=by
 intro l
 induction l with
 |nil=>grind
 |cons c l j=>
  intro k i h f;cases i with
  |zero=>rfl
  |succ i=>
   grind [lI]
theorem Xe (g:Nat->aC U->aC U):∀(l:List (aC U)) (k:Nat),(kZ g k l).length=l.length:=by
 intro l
 induction l with
 |nil=>intro k;rfl
 |cons c l f=>grind [kZ]
theorem aCv (g:Nat->aC U->aC U):∀(l:List (aC U)) (k i:Nat) (h:i<(kZ g k l).length) (f:i<l.length),(kZ g k l)[i]=oP g (k+((l.take i).flatMap gU).length) l[i]:=by
 intro l
 induction l with
 |nil=>grind
 |cons c l j=>
  intro k i h f;cases i with
  |zero=>rfl
  |succ i=>
   grind [kZ]
theorem aHB {α β:Type} (f:α->List β) (l:List α) (i:Nat) (h:i<l.length) (j:Nat) (y:β) (u:(f l[i])[j]?=some y):(l.flatMap f)[((l.take i).flatMap f).length+j]?=some y:=by
 have e:l=l.take i++(l[i]::l.drop (i+1)):=by simp_all
 grind
def om (p:aC U->Prop):aC U->Prop
 | .tup l=>∀c∈l,(match c with | .agg m=>∀d∈m,p d|d=>p d)
 | .agg m=>∀d∈m,p d
 |d=>p d
theorem Mq {E:Enc U} {ρ ρ':Own} {st st':Nat->Prop} {g L:Nat->aC U->aC U} {p:aC U->Prop} {r:aC U} {v:Value}
  (ep:om p r)
  (Z:∀k c u,p c->(∀x,iP c=[x]->r.news[k]?=some x)->Rel E w ρ st (g k c) u->Rel E w' ρ' st' (L k c) u) (h:Rel E w ρ st (Xg g r) v):Rel E w' ρ' st' (Xg L r) v:=by
 have agg:∀(k:Nat) (m:List (aC U)) (v:Value),(∀d∈m,p d)->(∀j y,(m.flatMap iP)[j]?=some y->r.news[k+j]?=some y)->Rel E w ρ st (.agg (lI g k m)) v->Rel E w' ρ' st' (.agg (lI L k m)) v:=by
  intro k m v hpm J h;cases h with
  |agg _ O hsz V=>
   refine .agg _ O (by grind [Xf]) (fun i hi=>?_);have f:i<m.length:=by grind [Xf]
   have G:=V i (by rw[Xf];omega);rw[aCw g m k i (by grind) f] at G;rw[aCw L m k i hi f];refine Z _ _ _ (hpm _ (QH f)) (fun x hc=>?_) G;refine J _ _ ?_;have:=aHB iP m i f 0 x (by grind);omega
 cases r with
 |tup l=>
  cases h with
  |tup _ O hsz V=>
   refine .tup _ O (by grind [Xe]) (fun i hi=>?_);have f:i<l.length:=by grind [Xe]
   have G:=V i (by rw[Xe];omega);rw[aCv g l 0 i (by grind) f,JD] at G;rw[aCv L l 0 i hi f,JD];have I:=ep _ (QH f);have J:∀j y,(gU l[i])[j]?=some y->(aC.tup l).news[((l.take i).flatMap gU).length+j]?=some y:=fun j y S=>aHB gU l i f j y S
   generalize l[i]=c at G I J ⊢;cases c with
   |agg m=>exact agg _ m _ I J G
   |_=>
    refine Z _ _ _ I (fun x hc=>?_) G;have:=J 0 x (by simp only[gU];grind);omega
 |agg m=>
  exact agg 0 m v ep (fun j y S=>by rw[JD];exact S) h
 |_=>
  refine Z 0 _ v ep (fun x hc=>?_) h;simp only[aC.news,gU];grind
theorem ss {E:Enc U} {st:Nat->Prop}:∀(d:Nat) (x:aC U) (v:Value),stays d x=true->Rel E w ρ st x v->Rel E w ρ' st x v:=by
 intro d
 induction d with
 |zero=>
  intro x v j h;cases x<;>first|exact h.flat rfl| (simp[stays] at j)
 |succ d I=>
  intro x v j h;cases x with
  |ref l off=>
   simp only[stays,QT] at j;cases h with
   |ref _ _ b o f hb O G=>exact .ref l off b o f hb O (fun k u=>I _ _ (j _ (QH u)) (G k u))
  |fn f l=>
   simp only[stays,QT] at j;cases h with
   |fn _ _ J L G=>exact .fn f l J L (fun k u=>I _ _ (j _ (QH u)) (G k u))
  |_=>first|exact h.flat rfl| (simp[stays] at j)
theorem aIZ {f:aC U->Option (aC U×Bool)}:∀(l ys:List (aC U)) (b:Bool),Qw f l=some (ys,b)->ys.length=l.length/\∀i (h:i<l.length) (Z:i<ys.length),∃j,f l[i]=some (ys[i],j)/\(b=false->j=false):=by
 intro l
 induction l with
 |nil=>
  intro ys b h;cases h;grind
 |cons v l G=>
  intro ys b h;simp only[Qw] at h;split at h
  ·rename_i x bx xs bs L u;cases h;obtain⟨V,I⟩:=G _ _ u;refine⟨by grind,fun i hi J=>?_⟩;cases i with
   |zero=>grind
   |succ i=>
    obtain⟨j,S,O⟩:=I i (by grind) (by grind);grind
  grind
theorem aK5 {f:TypeId->aC U->Option (aC U×Bool)}:∀(j:List TypeId) (l ys:List (aC U)) (b:Bool),Rj f j l=some (ys,b)->ys.length=l.length/\∀i (h:i<l.length) (h':i<ys.length),∃t u,f t l[i]=some (ys[i],u)/\(b=false->u=false):=by
 intro j
 induction j with
 |nil=>
  intro l ys b h;cases l with
  |nil=>
   cases h;grind
  |cons _ _=>cases h
 |cons t j I=>
  intro l ys b h;cases l with
  |nil=>cases h
  |cons v l=>
   simp only[Rj] at h;split at h
   ·rename_i x bx xs bs O G;cases h;obtain⟨Z,J⟩:=I _ _ _ G;refine⟨by grind,fun i hi L=>?_⟩;cases i with
    |zero=>grind
    |succ i=>
     obtain⟨t',u,V,S⟩:=J i (by grind) (by grind);grind
   grind
theorem aIH {C:Cfg U} (h:RR C.E n N w0 ρ s a w) {look:Nat->Option (aT U)} (j:∀id ob,look id=some ob->s.objs id=some ob):∀(d:Nat) (ty:TypeId)
  (x y:aC U) (own:Bool) (v:Value),Rel C.E w ρ (aD N ρ w) x v->byC C look d ty x=some (y,own)->
  Rel C.E w cO (fF N w) y v/\(own=false->Rel C.E w cO (aD N ρ w) y v):=by
 have weak:∀{y:aC U} {v:Value},Rel C.E w cO (aD N ρ w) y v->Rel C.E w cO (fF N w) y v:=fun h=>h.mono (fun b hb=>⟨⟨hb.1,hb.2.1⟩,rfl⟩) (fun _ _ _ hr=>by cases hr)
 have G:∀{nm:Name} {g:Nat} {u:Value} {b:Nat},ρ nm=some (g,u)->blk u=some b->fF N w b:=fun hu hb=>⟨((h.own hu).2 _ hb).2,h.qE hu hb⟩
 have sl_out:∀{nm:Name} {g:Nat} {u:Value} {t:U.τ} {xs:List (U.T t)},ρ nm=some (g,u)->k6 C.E w ρ (aD N ρ w) t xs u->Rel C.E w cO (fF N w) (.sl t xs) u:=fun {nm g u t xs} hr h3=>by
  rcases h3 with ⟨⟨ad,rfl⟩,rfl⟩|⟨b,o,cap,f,rfl,O,hc,hl'⟩
  ·exact .slE t ad
  ·refine .sl t xs b o cap f (G hr rfl) O hc (fun i hi k I=>?_);have:=hl' i hi k I;exact(this.flat (ρ':=cO) (C.E.enc_flat t _ _ (QH I)).1).mono (fun b hb=>⟨⟨hb.1,hb.2.1⟩,rfl⟩) (fun _ _ _ hr=>by cases hr)
 intro d
 induction d with
 |zero=>intro ty x y own v S hb;cases hb
 |succ d ih=>
  intro ty x y own v S hb;simp only[byC] at hb;split at hb
  ·split at hb
   ·rename_i id g _ t g' xs V;obtain⟨cJ,dR⟩:=cC hb;clear hb;simp only[QJ,QX] at dR;obtain⟨rfl,rfl⟩:=dR;obtain rfl:=QQ cJ;refine⟨?_,fun e=>by cases e⟩;obtain⟨u,cs,h1,hp,h2,h3,_⟩:=h.Ld (j _ _ V);have hu:u=v:=by
     cases S with
     |osl _ _ u' L hp'=>
      grind
     |oslOld _ _ g' u' v L hg=>
      grind
    grind
   ·rename_i id g _ t g' gm xs V;obtain⟨cJ,dR⟩:=cC hb;clear hb;simp only[QJ,QX] at dR;obtain⟨rfl,rfl⟩:=dR;obtain rfl:=QQ cJ;refine⟨?_,fun e=>by cases e⟩;obtain⟨u,cs,h1,hp,h2,hs,hno,h3⟩:=h.objs _ _ (j _ _ V);have hu:u=v:=by
     cases S with
     |osl _ _ u' L hp'=>
      grind
     |oslOld _ _ g' u' v L hg=>
      grind
    subst hu;have hel:∀i (hi:i<xs.length) k (I:k<(C.E.enc t xs[i]).length),Rel C.E w cO (fF N w) (C.E.enc t xs[i])[k] (cs.getD (i*U.size t+k) undef):=fun i hi k I=>by
     grind [Bx]
    rcases Bx h2 (E:=C.E) (st:=fF N w) (ρ:=cO) hel with ⟨⟨ad,rfl⟩,rfl⟩|⟨b,o,cap,f,rfl,O,hc,hl'⟩
    ·exact .slE t ad
    ·exact .sl t xs b o cap f (G h1 rfl) O hc hl'
   grind
  ·split at hb
   ·rename_i id i g _ t1 Z hm;simp only[QJ,QX] at hb;obtain⟨rfl,rfl⟩:=hb;refine⟨?_,fun e=>by cases e⟩;have hms:=Ay h j hm;cases S with
    |mslOld _ _ _ g' u' v L hg=>
     grind
    |msl _ _ _ u L=>
     grind [Bx]
   grind
  ·split at hb
   ·simp only[QJ,QX] at hb;obtain⟨rfl,rfl⟩:=hb;cases S;exact⟨.lO _,fun _=>.lO _⟩
   grind
  ·split at hb
   ·rename_i id off _ l V;split at hb
    ·rename_i Z bs J;cases hb;obtain⟨e1,e2⟩:=aIZ _ _ _ J;refine⟨?_,fun e=>by cases e⟩;obtain⟨b,c,ty',h1,h2,h3,h4,h5⟩:=h.objs _ _ (j _ _ V);cases S with
     |ptr _ _ b' hb'=>
      rw[h1] at hb';simp only[QJ,QX,true_and,Value.pointer.injEq,KQ,and_true] at hb';subst hb';have:=Rel.ref (E:=C.E) (w:=w) (ρ:=cO) (st:=fF N w) Z off b 0 (fun k=>c.getD k undef) (G h1 rfl) (fun k I=>by
       rw[JD,cell_of_row w b k c ty' (0,0) h3];simp_all) (fun k I=>by
        grind)
      grind
    grind
   grind
  ·split at hb
   ·rename_i f l _ Z bs J;cases hb;obtain⟨e1,e2⟩:=aIZ _ _ _ J;cases S with
    |fn _ _ vs hn V=>
     refine⟨.fn f Z vs KI (fun k I=>?_),fun ho=>.fn f Z vs KI (fun k I=>?_)⟩
     ·grind
     grind
   grind
  ·rename_i l;split at hb
   ·rename_i cJ;simp only[QJ,QX] at hb;obtain⟨rfl,rfl⟩:=hb;have:Rel C.E w cO (aD N ρ w) (.agg l) v:=by
     cases S with
     |agg _ vs hn V=>
      refine .agg l vs hn (fun k I=>?_);have h1:=QT.1 cJ _ (QH I);have hfl:l[k].flat=true:=by
       grind
      exact(V k I).flat hfl
    grind
   ·split at hb
    ·rename_i Z bs J;cases hb;obtain⟨e1,e2⟩:=aK5 _ _ _ _ J;cases S with
     |agg _ vs hn V=>
      refine⟨.agg Z vs KI (fun k I=>?_),fun ho=>.agg Z vs KI (fun k I=>?_)⟩
      ·grind
      grind
    grind
  all_goals first
   | (simp only[QJ,QX] at hb
      obtain⟨rfl,rfl⟩:=hb;have:=S.flat (ρ':=cO) rfl;grind)
   | (cases hb;done)
   |skip
  grind [ss]
theorem aIQ {C:Cfg U} (h:RR C.E n N w0 ρ s a w) {look:Nat->Option (aT U)} (j:∀id ob,look id=some ob->s.objs id=some ob):
  ∀(u:List TypeId) (xs ys:List (aC U)) (own:Bool) (f:List Value),f.length=xs.length->(∀k (h:k<xs.length),Rel C.E w ρ (aD N ρ w) xs[k] (f.getD k undef))->Cl C look u xs=some (ys,own)->
   ys.length=xs.length/\(∀k (h:k<ys.length),Rel C.E w cO (fF N w) ys[k] (f.getD k undef))/\(own=false->∀k (h:k<ys.length),Rel C.E w cO (aD N ρ w) ys[k] (f.getD k undef)):=by
 intro u
 induction u with
 |nil=>
  grind [Cl]
 |cons t u O=>
  intro xs ys own f V J ho;cases xs with
  |nil=>simp[Cl] at ho
  |cons x xs=>
   cases f with
   |nil=>grind
   |cons v f=>
    simp only[Cl] at ho;split at ho
    ·rename_i y b G S hb I;simp only[QJ,QX] at ho;obtain⟨rfl,rfl⟩:=ho;have L:=J 0 XQ;simp only[JZ,List.getD_cons_zero] at L;obtain⟨h1,h2⟩:=aIH h j 5 t x y b v L hb;obtain⟨h3,h4,h5⟩:=O xs G S f (by grind) (fun k Z=>J (k+1) (by grind)) I;grind
    grind
theorem aIR {C:Cfg U} (h:RR C.E n N w0 ρ s a w) {look:Nat->Option (aT U)} (G:∀id ob,look id=some ob->s.objs id=some ob) (m:List (aC U)->Option (List Prop×aC U))
  (L:List TypeId) (xs ys:List (aC U)) (own:Bool) (f:List Value) (V:f.length=xs.length) (O:∀k (h:k<xs.length),Rel C.E w ρ (aD N ρ w) xs[k] (f.getD k undef)) (ho:mj C look m L xs=some (ys,own)):
   ys.length=xs.length/\(∀k (h:k<ys.length),Rel C.E w cO (fF N w) ys[k] (f.getD k undef))/\(own=false->∀k (h:k<ys.length),Rel C.E w cO (aD N ρ w) ys[k] (f.getD k undef)):=by
 unfold mj at ho;cases hb:(xs.all yn&&(m xs).isSome) with
 |false=>
  rw[hb,QK] at ho;grind [aIQ]
 |true=>
  rw[hb,QY] at ho;simp only[QJ,QX] at ho;obtain⟨rfl,rfl⟩:=ho;rw[QW] at hb;have S:∀(I:Nat->Prop) k (h:k<xs.length),Rel C.E w cO I xs[k] (f.getD k undef):=fun I k J=>by
   have u:=QT.1 hb.1 _ (QH J);have j:=O k J
   revert u j
   generalize xs[k]=x;generalize f.getD k undef=v;intro u j;cases x<;>first
    | (cases u;done)
    | (cases j;exact .nils)
    | (cases j;exact .int _ _)
  grind
def Name.down (base:Nat):Name->Name
 | .ob id=>.ob (id-base)
 | .mem id i=>.mem (id-base) i
theorem Name.aY0 (base:Nat) (nm:Name):(nm.down base).id=nm.id-base:=by cases nm<;>rfl
theorem Name.aYZ {base:Nat} {nm f:Name} (h:base<=nm.id) (u:base<=f.id) (e:nm.down base=f.down base):nm=f:=by
 cases nm with
 |ob i=>
  cases f with
  |ob j=>
   have:=Name.ob.inj e;have I:base<=i:=h;have G:base<=j:=u;grind
  |mem j k=>cases e
 |mem i l=>
  cases f with
  |ob j=>cases e
  |mem j k=>
   obtain⟨e1,J⟩:=Name.mem.inj e;have I:base<=i:=h;have G:base<=j:=u;grind
def mJ (ρ f:Own) (base m:Nat):Own:=fun nm=>if base<=nm.id/\nm.id<base+m then f (nm.down base) else ρ nm
theorem aQB:∀(f:List (eA U)) (s:ASt U) (b:Nat),(rA s b f).tmps=s.tmps:=by
 intro f
 induction f with
 |nil=>intro s b;rfl
 |cons r f j=>
  intro s b;simp only[rA];rw[j];rfl
theorem wj:∀(f:List (eA U)) (s:ASt U) (b k:Nat) (x:eA U),f[k]?=some x->(rA s b f).objs (b+k)=some x.obj:=by
 have out:∀(f:List (eA U)) (s:ASt U) (b id:Nat),id<b->(rA s b f).objs id=s.objs id:=by
  intro f
  induction f with
  |nil=>intro s b id _;rfl
  |cons r f j=>
   intro s b id h;simp only[rA];rw[j _ _ _ KI];show cond (Nat.beq id b) _ (s.objs id)=_;grind [fX]
 intro f
 induction f with
 |nil=>grind
 |cons r f j=>
  intro s b k x h;simp only[rA];cases k with
  |zero=>
   simp only[List.getElem?_cons_zero,QJ] at h;cases h;rw[out _ _ _ _ KI];show cond (Nat.beq (b+0) b) _ _=_;simp
  |succ k=>
   grind
theorem aQC:∀(f:List (eA U)) (s:ASt U) (b id:Nat),¬(b<=id/\id<b+f.length)->(rA s b f).objs id=s.objs id:=by
 intro f
 induction f with
 |nil=>intro s b id _;rfl
 |cons r f j=>
  intro s b id h;simp only[rA];simp only[QN] at h;rw[j _ _ _ KI];show cond (Nat.beq id b) _ (s.objs id)=_;grind [fX]
theorem eA.T4 (x:eA U) (h:x.obj.simple=true):x.1=false:=by
 obtain⟨d,t,xs⟩:=x;cases d with
 |false=>rfl
 |true=>cases h
theorem gF.join {E:Enc U} {w w':World} {J ρ':Own} {st st':Nat->Prop} {base f k k':Nat} {x:eA U} (h:gF E w J st base k x.obj) (hb:f<=base) (hw:∀b,base<=b->w'.heap[b]?=w.heap[b]?)
  (hob:ρ' (.ob k')=J (.ob k)) (hmem:∀i,ρ' (.mem k' i)=J (.mem k i))
  (G:∀(t:U.τ) (z:U.T t) (c:aC U) (v:Value),(x.1=false->t=x.2.1)->(x.1=true->∃y ys,E.enc x.2.1 y=[.sl t ys])->c∈E.enc t z->Rel E w J st c v->Rel E w' ρ' st' c v):gF E w' ρ' st' f k' x.obj:=by
 have row:∀{u:Value} {e:TypeId} {m n:Nat} {I:List Value},w.ownsRow base e m u n I->w'.ownsRow f e m u n I:=fun h2=>by
  refine⟨h2.1,?_⟩;rcases h2.2 with hn|⟨gb,V,cur,r1,r2,r3,rest⟩
  ·grind
  ·exact .inr ⟨gb,V,cur,r1,JT hb r2,by grind,rest⟩
 obtain⟨d,t,xs⟩:=x;cases d with
 |false=>
  obtain⟨u,I,q1,S,O,L⟩:=h;exact⟨u,I,by grind,S,row O,fun i hi k Z=>G t _ _ _ (fun _=>rfl) (fun e=>by cases e) (QH Z) (L i hi k Z)⟩
 |true=>
  obtain⟨u,I,q1,S,O,L,q5,q6⟩:=h;refine⟨u,I,by grind,S,row O,L,fun j hj=>by grind,fun j hj=>?_⟩;grind
theorem RR.join {E:Enc U} (h:RR E n N w0 ρ s a w) (hb:Below w.heap.size w w') {base:Nat} {f:List (eA U)} {G:Own} {Nr:Nat->Prop}
  (hfree:∀k,k<f.length->s.objs (base+k)=none)
  (L:∀(k:Nat) (x:eA U),f[k]?=some x->gF E w' G (aD Nr G w') w.heap.size k x.obj) (O:∀nm g u,G nm=some (g,u)->∃x,f[nm.id]?=some x/\(x.1=false->∃k,nm=.ob k))
  (hsep:∀nm V g g' u u' b,G nm=some (g,u)->G V=some (g',u')->nm≠V->blk u=some b->blk u'≠some b)
  (hconv:∀(k:Nat) (x:eA U) (t:U.τ) (z:U.T t) (c:aC U) (v:Value),f[k]?=some x->(x.1=false->t=x.2.1)->(x.1=true->∃y ys,E.enc x.2.1 y=[.sl t ys])->c∈E.enc t z->Rel E w' G (aD Nr G w') c v->Rel E w' (mJ ρ G base f.length) (aD N (mJ ρ G base f.length) w') c v):
  RR E n N w0 (mJ ρ G base f.length) (rA s base f) a w':=by
 have hblk:∀nm g u b,G nm=some (g,u)->blk u=some b->w.heap.size<=b/\b<w'.heap.size:=fun nm g u b hk hbl=>by
  obtain⟨x,hx,Z⟩:=O _ _ _ hk;have hro:=L _ _ hx;cases nm with
  |ob k=>
   obtain⟨g',u',q1,_,q2⟩:=hro.val;have q1':G (.ob k)=some (g',u'):=q1;grind
  |mem k i=>
   have hns:x.obj.simple=false:=by
    cases hq:x.obj.simple with
    |false=>rfl
    |true=>
     obtain⟨_,e⟩:=Z (x.T4 hq);cases e
   exact(hro.ry hns hk).2 b hbl
 have hin:∀nm:Name,base<=nm.id/\nm.id<base+f.length->mJ ρ G base f.length nm=G (nm.down base):=fun nm hi=>by grind [mJ]
 have hout:∀nm:Name,¬(base<=nm.id/\nm.id<base+f.length)->mJ ρ G base f.length nm=ρ nm:=fun nm hi=>by grind [mJ]
 have hnone:∀nm:Name,base<=nm.id/\nm.id<base+f.length->ρ nm=none:=fun nm hi=>by
  cases S:ρ nm with
  |none=>rfl
  |some p=>
   obtain⟨ob,hob,_⟩:=h.dom _ p.1 p.2 S;have:=hfree (nm.id-base) KI;grind
 have c:Chg N (fun id=>base<=id/\id<base+f.length) w0.heap.size ρ (mJ ρ G base f.length) w w':=by
  refine⟨fun nm hn=>hout nm hn,fun nm g u J S=>(by grind),hb.mono h.below.size,fun b I _=>hb.block b I,fun nm g u b J S hbl=>?_,fun nm V g g' u u' b J hd' S hr' hne cJ=>?_⟩
  ·grind
  grind [Name.aYZ]
 refine h.change c (aQB _ _ _) (fun id hn=>aQC f s base id hn) (fun nm g u J S=>?_) (fun id ob J ho=>?_) (fun id ob J _=>by
  have I:id-base<f.length:=KI;grind)
 ·rw[hin nm J] at S;obtain⟨x,hx,Z⟩:=O _ _ _ S;rw[Name.aY0] at hx;have:=wj f s base (nm.id-base) _ hx;rw[show base+(nm.id-base)=nm.id by omega] at this;refine⟨_,this,fun hs=>?_⟩;obtain⟨k,e⟩:=Z (x.T4 hs);cases nm with
  |ob i=>grind
  |mem i j=>cases e
 ·have I:id-base<f.length:=KI;have hrk:f[id-base]?=some f[id-base]:=JW I;have:=wj f s base (id-base) _ hrk;rw[show base+(id-base)=id by omega,ho] at this;cases this;refine(L _ _ hrk).join h.below.size (fun _ _=>rfl) ?_ (fun i=>?_) (fun t z c v h1 h2 h3 h4=>hconv _ _ t z c v hrk h1 h2 h3 h4)
  ·exact hin (.ob id) J
  ·exact hin (.mem id i) J
theorem S9 {r:aC U} (h:r.Vu=true):om (fun c=>Gd c=true) r:=by
 cases r with
 |tup l=>
  intro c j;have:=QT.1 h c j;cases c with
  |agg m=>exact fun d f=>QT.1 this d f
  |_=>exact this
 |agg m=>exact fun d f=>QT.1 h d f
 |_=>exact h
theorem aGo {E:Enc U} {r:aC U} (h:r.fresh E=true):om (fun c=>Br E c=true) r:=by
 cases r with
 |tup l=>
  intro c j;have:=QT.1 h c j;cases c with
  |agg m=>exact fun d f=>QT.1 this d f
  |_=>exact this
 |agg m=>exact fun d f=>QT.1 h d f
 |_=>exact h
theorem aGn {E:Enc U} {r:aC U} (h:r.fresh E=true):∀(k:Nat) (x:eA U),r.news[k]?=some x->(x.1=false->E.plain x.2.1=true)/\(x.1=true->∃j,E.inner x.2.1=some j/\E.plain j=true):=by
 have one:∀(c:aC U),Br E c=true->∀y∈iP c,(y.1=false->E.plain y.2.1=true)/\(y.1=true->∃j,E.inner y.2.1=some j/\E.plain j=true):=by
  intro c u y f;cases c with
  |new t xs=>
   simp only[iP,JJ] at f;subst f;exact⟨fun _=>u,fun e=>by cases e⟩
  |newd t xs=>
   grind [iP,Br]
  |_=>simp[iP] at f
 have I:∀(c:aC U),Zg E c=true->∀y∈gU c,(y.1=false->E.plain y.2.1=true)/\(y.1=true->∃j,E.inner y.2.1=some j/\E.plain j=true):=by
  intro c u y f;cases c with
  |agg m=>
   simp only[gU,List.mem_flatMap] at f;obtain⟨d,G,f⟩:=f;exact one d (QT.1 u d G) y f
  |_=>
   simp only[gU] at f;simp only[Zg] at u;grind
 intro k x J;have hm:=List.mem_of_getElem? J;cases r with
 |tup l=>
  simp only[aC.news,List.mem_flatMap] at hm;obtain⟨d,G,f⟩:=hm;exact I d (QT.1 h d G) _ f
 |_=>
  simp only[aC.news] at hm;simp only[aC.fresh] at h;grind
theorem aIF {C:Cfg U} (hs:fY C w0) (h:RR C.E n N w0 ρ s a w) {look:Nat->Option (aT U)} (hlook:∀id ob,look id=some ob->s.objs id=some ob)
  {f:FuncId} {ts:List TypeId} {xs:List (aC U)} {args:Array Value} (hn:args.size=xs.length) (hx:∀k (h:k<xs.length),Rel C.E w ρ (aD N ρ w) xs[k] (args.getD k undef))
  {cs:List Prop} {r:aC U} (ho:zH C look f ts xs=some (cs,r)) (hc:dZ cs):
  (callFunc f args).run C.P w=.ok (.enter f args) w/\Calls C.P f args w fun e w'=>∃v,e=.returned v/\∀base,(∀k,k<r.news.length->s.objs (base+k)=none)->
   ∃ρ',RR C.E n N w0 ρ' (rA s base r.news) a w'/\Rel C.E w' ρ' (aD N ρ' w') (r.yL (base+·)) v:=by
 unfold zH at ho;split at ho
 ·rename_i m hm;split at ho
  ·rename_i ys own hys;split at ho
   ·rename_i kN J V;obtain⟨cJ,dR⟩:=cC ho;clear ho;simp only[QJ,QX] at dR;obtain⟨rfl,rfl⟩:=dR;simp only[QW] at cJ;obtain⟨hok,hfr⟩:=cJ;obtain⟨hcall,Z⟩:=hs.1 f m hm;refine⟨hcall args w,?_⟩;obtain⟨h1,h2,h3⟩:=aIR h hlook m ts xs ys own args.toList KI (fun k S=>by simp_all) hys
    -- a new slice's place
    have osl_conv:∀{G:Own} {w':World} {Nr:Nat->Prop} {base k:Nat} {x:eA U} {u:Value},J.news[k]?=some x->
      (∀(k:Nat) (x:eA U),J.news[k]?=some x->gF C.E w' G (aD Nr G w') w.heap.size k x.obj)->Rel C.E w' G (aD Nr G w') (.osl k 0) u->
      Rel C.E w' (mJ ρ G base J.news.length) (aD N (mJ ρ G base J.news.length) w') (.osl (base+k) 0) u:=by
     intro G w' Nr base k x u S hrow L;have hlt:k<J.news.length:=(JF.1 S).1;have hj:mJ ρ G base J.news.length (.ob (base+k))=G (.ob k):=by
      unfold mJ;rw[JQ ⟨by show base<=base+k;omega,by show base+k<_;omega⟩];show G (.ob (base+k-base))=_;grind
     have Gv:∃u',G (.ob k)=some (0,u'):=by
      have:=hrow k x S;obtain⟨d,t,xs⟩:=x;cases d with
      |false=>
       obtain⟨u',_,q,_⟩:=this;grind
      |true=>
       obtain⟨u',_,q,_⟩:=this;grind
     obtain⟨u',q1⟩:=Gv;cases L with
     |osl _ _ _ q hp=>exact .osl _ 0 _ (by grind) hp
     |oslOld _ _ g' u'' _ q hg=>
      grind
    have j:∀c:aC U,(∃x,iP c=[x]/\∀(f:Nat->Nat) (k:Nat),jZ f k c=.osl (f k) 0)\/(iP c=[]/\∀(f:Nat->Nat) (k:Nat),jZ f k c=c):=fun c=>by
     cases c<;>first|exact .inl ⟨_,rfl,fun _ _=>rfl⟩|exact .inr ⟨rfl,fun _ _=>rfl⟩
    cases own with
    |false=>
     have h4:=h3 rfl;refine(Z (fun b=>N b\/∃nm g u,ρ nm=some (g,u)/\blk u=some b) w args ys _ _ h.below (fun b hb=>?_) ⟨KI,fun k S=>?_⟩ V hc).mono ?_
     ·rcases hb with hb|⟨id,g,u,L,hbl⟩
      ·rcases h.nlt b hb with hb|hb
       ·exact JX hb h.below.size
       ·exact JX (w0.lt b hb) h.kept.1
      ·exact((h.own L).2 b hbl).2
     ·have:=h4 k S;rw[zC] at this;refine this.mono (fun b ⟨q1,q2,q3⟩=>⟨⟨q1,fun hq=>?_⟩,rfl⟩) (fun _ _ _ V=>by cases V);grind
     ·rintro e w' ⟨v,rfl,⟨G,f1,f2,f3,f4⟩,hbw⟩
      have hst:∀base b,aD (fun b=>N b\/∃nm g u,ρ nm=some (g,u)/\blk u=some b) G w' b->aD N (mJ ρ G base J.news.length) w' b:=fun base b ⟨q1,q2,q3⟩=>by
       refine⟨q1,fun hq=>q2 (.inl hq),fun id g u L hbl=>?_⟩;grind [mJ]
      have hfl:∀base (c:aC U) (u:Value),c.flat=true->Rel C.E w' G (aD (fun b=>N b\/∃nm g u,ρ nm=some (g,u)/\blk u=some b) G w') c u->Rel C.E w' (mJ ρ G base J.news.length) (aD N (mJ ρ G base J.news.length) w') c u:=fun base c u hc L=>
       (L.flat (ρ':=cO) hc).mono (fun b hb=>⟨hst base b hb,rfl⟩) (fun _ _ _ V=>by cases V)
      refine⟨v,rfl,fun base I=>⟨mJ ρ G base J.news.length,?_,?_⟩⟩
      ·exact h.join hbw I f2 f3 f4 (fun k x t z c v _ _ _ hcm hv=>hfl base c v (C.E.enc_flat t z c hcm).1 hv)
      ·refine Mq (p:=fun c=>Gd c=true) (S9 hok) (fun k c u hpc hnew L=>?_) f1;rcases j c with ⟨x,O,e⟩|⟨O,e⟩
       ·grind
       ·rw[e] at L ⊢;refine hfl base c u ?_ L;cases c<;>first|exact hpc|cases O
    |true=>
     have hfre:J.fresh C.E=true:=by grind
     refine(Z (fun _=>False) w args ys _ _ h.below (fun b hb=>hb.elim) ⟨KI,fun k S=>?_⟩ V hc).mono ?_
     ·have:=h2 k S;rw[zC] at this;exact this.mono (fun b q=>⟨⟨q.1,fun hq=>hq⟩,rfl⟩) (fun _ _ _ V=>by cases V)
     ·rintro e w' ⟨v,rfl,⟨G,f1,f2,f3,f4⟩,hbw⟩
      refine⟨v,rfl,fun base I=>⟨mJ ρ G base J.news.length,?_,?_⟩⟩
      ·refine h.join hbw I f2 f3 f4 (fun k x t z c v S ht1 ht2 hcm hv=>hv.pure (C.E.plain_ok t z ?_ c hcm));obtain⟨p1,p2⟩:=aGn hfre k x S;cases hd:x.1 with
       |false=>
        grind
       |true=>
        obtain⟨t1,q1,q2⟩:=p2 hd;obtain⟨y,ys,q3⟩:=ht2 hd;obtain⟨zs,q4⟩:=C.E.inner_ok _ _ q1 y;grind
      ·refine Mq (p:=fun c=>Br C.E c=true) (aGo hfre) (fun k c u hpc hnew L=>?_) f1;rcases j c with ⟨x,O,e⟩|⟨O,e⟩
       ·grind
       ·rw[e] at L ⊢;refine L.pure ?_;cases c<;>first|exact hpc|cases O
   grind
  grind
 grind
theorem gF.aHo {E:Enc U} {base k:Nat} {st j:Nat->Prop} {x:eA U} {u:Value} (h:gF E w ρ st base k x.obj) (hin:∀b,base<=b->b<w.heap.size->j b)
  (p1:x.1=false->∀z c v,c∈E.enc x.2.1 z->Rel E w ρ st c v->Rel E w cO j c v) (p2:x.1=true->∀V y ys,E.enc x.2.1 y=[.sl V ys]->∀z c v,c∈E.enc V z->Rel E w ρ st c v->Rel E w cO j c v)
  (hu:Rel E w ρ st (.osl k 0) u):Rel E w cO j (.sl x.2.1 x.2.2) u:=by
 have O:∀{e:TypeId} {m n:Nat} {I:List Value} {v:Value},w.ownsRow base e m v n I->∀b o l c,v=.slice (some ⟨b,o,none⟩) l c->j b:=fun Z b o l c hv=>by
  rcases Z.2 with ⟨h0,_⟩|⟨gb,J,cur,heq,hbase,hgb,_⟩
  ·grind
  grind
 have L:∀{t:U.τ} {xs:List (U.T t)} {v:Value} {I:List Value},w.ownsRow base (U.ety t) (U.size t) v xs.length I->(∀i (h:i<xs.length) k (hk:k<(E.enc t xs[i]).length),Rel E w cO j (E.enc t xs[i])[k] (I.getD (i*U.size t+k) undef))->Rel E w cO j (.sl t xs) v:=fun {t xs v I} Z h3=>by
  rcases Bx Z h3 with ⟨⟨ad,rfl⟩,rfl⟩|⟨b,o,J,f,rfl,S,hc,hl'⟩
  ·exact .slE t ad
  ·exact .sl t xs b o J f (O Z _ _ _ _ rfl) S hc hl'
 have eqv:∀{G:Value},ρ (.ob k)=some (0,G)->G=u:=fun {G} q1=>by
  cases hu with
  |osl _ _ _ q hp=>
   grind
  |oslOld _ _ g' u'' _ q hg=>
   grind
 obtain⟨d,t,xs⟩:=x;cases d with
 |false=>
  obtain⟨G,cs',q1,q2,q3,q4⟩:=h;grind
 |true=>
  obtain⟨G,cs',q1,q2,q3,q4,q5,q6⟩:=h;obtain rfl:=eqv q1;refine L q3 (fun i hi k' hk'=>?_);obtain⟨V,ys,v1,ds,r1,r2,r3,r4,r5,r6⟩:=q6 i hi;have pN:k'=0:=by
   grind
  subst pN;have e1:(E.enc t xs[i])[0]=.sl V ys:=by grind
  show Rel E w cO j (E.enc t xs[i])[0] _;rw[e1,q4,Nat.mul_one,JB,r3];grind
theorem aZ1 {C:Cfg U} (hs:fY C w0) (h:RR C.E n N w0 ρ s a w) {look:Nat->Option (aT U)} (hlook:∀id ob,look id=some ob->s.objs id=some ob)
  {f:FuncId} {ts:List TypeId} {xs:List (aC U)} {args:Array Value} (hn:args.size=xs.length) (hx:∀k (h:k<xs.length),Rel C.E w ρ (aD N ρ w) xs[k] (args.getD k undef))
  {cs:List Prop} {r:aC U} (ho:zH C look f ts xs=some (cs,r)) (hc:dZ cs):
  (callFunc f args).run C.P w=.ok (.enter f args) w/\Calls C.P f args w fun e w'=>∃v,e=.returned v/\RR C.E n N w0 ρ s a w'/\Rel C.E w' ρ (aD N ρ w') r.down v:=by
 unfold zH at ho;split at ho
 ·rename_i m hm;split at ho
  ·rename_i ys own hys;split at ho
   ·rename_i kN r0 O;obtain⟨cJ,dR⟩:=cC ho;clear ho;simp only[QJ,QX] at dR;obtain⟨rfl,rfl⟩:=dR;simp only[QW] at cJ;obtain⟨hok,hfr⟩:=cJ;obtain⟨hcall,Z⟩:=hs.1 f m hm;refine⟨hcall args w,?_⟩;obtain⟨h1,h2,h3⟩:=aIR h hlook m ts xs ys own args.toList KI (fun k hk=>by simp_all) hys;have L:∀c:aC U,(∃x,iP c=[x]/\(∀(f:Nat->Nat) (k:Nat),jZ f k c=.osl (f k) 0)/\hJ c=.sl x.2.1 x.2.2)\/(iP c=[]/\(∀(f:Nat->Nat) (k:Nat),jZ f k c=c)/\hJ c=c):=fun c=>by
     cases c<;>first|exact .inl ⟨_,rfl,fun _ _=>rfl,rfl⟩|exact .inr ⟨rfl,fun _ _=>rfl,rfl⟩
    have hNlt:∀b,N b->b<w.heap.size:=fun b hb=>by
     rcases h.nlt b hb with hb|hb
     ·exact JX hb h.below.size
     ·exact JX (w0.lt b hb) h.kept.1
    have V:∀(w':World) (b:Nat),w.heap.size<=b->b<w'.heap.size->aD N ρ w' b:=fun w' b q1 q2=>⟨q2,fun hq=>by grind,fun nm g u j S=>by have:=((h.own j).2 b S).2;omega⟩
    cases own with
    |false=>
     have h4:=h3 rfl;refine(Z (fun b=>N b\/∃nm g u,ρ nm=some (g,u)/\blk u=some b) w args ys _ _ h.below (fun b hb=>?_) ⟨KI,fun k hk=>?_⟩ O hc).mono ?_
     ·rcases hb with hb|⟨id,g,u,j,S⟩
      ·grind
      ·exact((h.own j).2 b S).2
     ·have:=h4 k hk;rw[zC] at this;refine this.mono (fun b ⟨q1,q2,q3⟩=>⟨⟨q1,fun hq=>?_⟩,rfl⟩) (fun _ _ _ O=>by cases O);grind
     ·rintro e w' ⟨v,rfl,⟨ρr,f1,f2,f3,f4⟩,hbw⟩
      have hst:∀b,aD (fun b=>N b\/∃nm g u,ρ nm=some (g,u)/\blk u=some b) ρr w' b->aD N ρ w' b:=fun b ⟨q1,q2,q3⟩=>
       ⟨q1,fun hq=>q2 (.inl hq),fun id g u j S=>q2 (.inr ⟨id,g,u,j,S⟩)⟩
      have hfl:∀(c:aC U) (u:Value),c.flat=true->Rel C.E w' ρr (aD (fun b=>N b\/∃nm g u,ρ nm=some (g,u)/\blk u=some b) ρr w') c u->Rel C.E w' cO (aD N ρ w') c u:=fun c u hc j=>
       (j.flat (ρ':=cO) hc).mono (fun b hb=>⟨hst b hb,rfl⟩) (fun _ _ _ O=>by cases O)
      refine⟨v,rfl,h.ext hbw,?_⟩;have key:Rel C.E w' cO (aD N ρ w') r0.down v:=by
       refine Mq (p:=fun c=>Gd c=true) (S9 hok) (fun k c u hpc J j=>?_) f1;show Rel C.E w' cO (aD N ρ w') (hJ c) u;rcases L c with ⟨x,G,e1,e2⟩|⟨G,e1,e2⟩
       ·rw[e1] at j;rw[e2];exact(f2 k x (J x G)).aHo (V w') (fun _ z c v I hv=>hfl c v (C.E.enc_flat _ z c I).1 hv) (fun _ t1 _ _ _ z c v I hv=>hfl c v (C.E.enc_flat t1 z c I).1 hv) j
       ·rw[e1] at j;rw[e2];refine hfl c u ?_ j;cases c<;>first|exact hpc|cases G
      exact key.mono (fun b hb=>⟨hb,rfl⟩) (fun _ _ _ O=>by cases O)
    |true=>
     have hfre:r0.fresh C.E=true:=by grind
     refine(Z (fun _=>False) w args ys _ _ h.below (fun b hb=>hb.elim) ⟨KI,fun k hk=>?_⟩ O hc).mono ?_
     ·have:=h2 k hk;rw[zC] at this;exact this.mono (fun b q=>⟨⟨q.1,fun hq=>hq⟩,rfl⟩) (fun _ _ _ O=>by cases O)
     ·rintro e w' ⟨v,rfl,⟨ρr,f1,f2,f3,f4⟩,hbw⟩
      refine⟨v,rfl,h.ext hbw,?_⟩;have key:Rel C.E w' cO (aD N ρ w') r0.down v:=by
       refine Mq (p:=fun c=>Br C.E c=true) (aGo hfre) (fun k c u hpc J j=>?_) f1;show Rel C.E w' cO (aD N ρ w') (hJ c) u;rcases L c with ⟨x,G,e1,e2⟩|⟨G,e1,e2⟩
       ·rw[e1] at j;rw[e2];obtain⟨p1,p2⟩:=aGn hfre k x (J x G);refine(f2 k x (J x G)).aHo (V w') (fun hd z c v I hv=>hv.pure (C.E.plain_ok _ z (p1 hd) c I)) (fun hd t1 y ys hy z c v I hv=>hv.pure (C.E.plain_ok t1 z ?_ c I)) j;obtain⟨t2,q1,q2⟩:=p2 hd;obtain⟨zs,q4⟩:=C.E.inner_ok _ _ q1 y;grind
       ·rw[e1] at j;rw[e2];refine j.pure ?_;cases c<;>first|exact hpc|cases G
      exact key.mono (fun b hb=>⟨hb,rfl⟩) (fun _ _ _ O=>by cases O)
   grind
  grind
 grind
theorem aZ2 {C:Cfg U} (hs:fY C w0) (h:RR C.E n N w0 ρ s a w) {look:Nat->Option (aT U)} (j:∀id ob,look id=some ob->s.objs id=some ob) {dst:Option Nat} (Z:∀d,dst=some d->look d=none->s.objs d=none)
  {f:FuncId} {ts:List TypeId} {xs:List (aC U)} {args:Array Value} (hn:args.size=xs.length) (hx:∀k (h:k<xs.length),Rel C.E w ρ (aD N ρ w) xs[k] (args.getD k undef))
  {cs:List Prop} {r:aC U} {ob:Option (Nat×aT U)} (ho:B0 C look dst f ts xs=some (cs,r,ob)) (L:dZ cs):
  (callFunc f args).run C.P w=.ok (.enter f args) w/\Calls C.P f args w fun e w'=>∃v,e=.returned v/\∃ρ',RR C.E n N w0 ρ' (s.putObj ob) a w'/\Rel C.E w' ρ' (aD N ρ' w') r v:=by
 unfold B0 at ho;split at ho
 ·rename_i kN r0 hr;have O:=fun L=>aIF hs h j hn hx hr L
  split at ho
  ·rename_i V;cases ho;obtain⟨J,I⟩:=O L;refine⟨J,I.mono ?_⟩
   rintro e w' ⟨v,rfl,hv⟩
   obtain⟨ρ',u,G⟩:=hv 0 (fun k hk=>by grind);rw[V] at u;exact⟨v,rfl,ρ',u,G⟩
  ·rename_i x S;split at ho
   ·rename_i d;split at ho
    ·rename_i hlk;cases ho;obtain⟨J,I⟩:=O L;refine⟨J,I.mono ?_⟩
     rintro e w' ⟨v,rfl,hv⟩
     obtain⟨ρ',u,G⟩:=hv d (fun k hk=>by
      grind)
     rw[S] at u;exact⟨v,rfl,ρ',u,G⟩
    grind
   grind
  ·obtain⟨_,ho⟩:=cC ho;cases ho;obtain⟨J,I⟩:=aZ1 hs h j hn hx hr L;refine⟨J,I.mono ?_⟩
   rintro e w' ⟨v,rfl,u,G⟩
   exact⟨v,rfl,ρ,u,G⟩
 grind
end
end Go.Vm
