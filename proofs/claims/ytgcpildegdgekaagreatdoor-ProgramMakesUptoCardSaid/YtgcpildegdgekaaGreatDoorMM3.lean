/- Lemmas, walks and laws of this proof, part 3. Conditions: those that each names. -/
import Derived.Test.YtgcpildegdgekaaGreatDoorMM2
import Derived.LoopN
import Derived.ProofKit
import Derived.OpenShut
import Derived.JoinedCond
import Derived.JoinedOf
import Derived.JoinedAt
import Derived.RowKit3
import Derived.Carry
import Derived.Lib.SmallJoins
import Derived.Deep.Slices
import Derived.Shelf.Small.Bits
import Derived.Shelf.Small.Wraps
import Derived.Shelf.Strings.Search1
import Derived.Shelf.Strings.Search2
import Derived.Shelf.Strings.Search3
import Derived.Shelf.LaysM
import Derived.Shelf.LaysC
import Derived.Shelf.Strings.Shaped
import Derived.Shelf.Strings.SplitShaped
import Derived.Shelf.Strings.Builder1
import Derived.Shelf.Strconv.Itoa3
import Derived.Shelf.Strconv.ErrVarAll
import Derived.Test.YtgcpildegdgekaaGreatDoorProg
import Derived.Test.YtgcpildegdgekaaGreatDoorChecked
import Derived.Lib.IndexMore
import Derived.Test.YtgcpildegdgekaaGreatDoorMM1
import GoSem.Instr.Lookup
import GoSem.Instr.MapUpdate
import Derived.MapKept
import Derived.WalkKit
import Derived.WalkSmall
set_option maxRecDepth 100000
set_option linter.unusedVariables false
namespace Go.Vm
open Go.RowKit
def wpl (P:Program) (ops:Array Oper) (Q:Exit->Act->World->Prop):List Oper->(Act->World->Prop)->Act->World->Prop
 |[],K,a,w=>K a w
 |o::rest,K,a,w=>if Region.wanted o (yielded ops a.tmps) then o.wp P a w (wpl P ops Q rest K) Q else wpl P ops Q rest K (a.put o.dst undef) w
theorem Jk {P:Program} {ops:Array Oper} {Q:Exit->Act->World->Prop}:∀(l m:List Oper) {K:Act->World->Prop} {a:Act} {w:World},wpl P ops Q l (wpl P ops Q m K) a w->wpl P ops Q (l++m) K a w
 |[],m,K,a,w,h=>h
 |o::rest,m,K,a,w,h=>by
  unfold wpl at h;show wpl P ops Q (o::(rest++m)) K a w;unfold wpl;split
  ·rename_i hw;rw[JQ hw] at h;exact Oper.wp_mono (fun a w h=>Jk rest m h) h
  ·rename_i hw;rw[QF hw] at h;exact Jk rest m h
theorem rT {P:Program} {ops:Array Oper} {Q:Exit->Act->World->Prop} {a:Act} {w:World} (h:wpl P ops Q ops.toList (Q .normal) a w):wpOps P ops Q (List.range ops.size) a w:=by
 have I:∀(l:List Oper) (k:Nat),(∀j,l[j]?=ops[k+j]?)->∀a w,wpl P ops Q l (Q .normal) a w->wpOps P ops Q (List.range' k l.length) a w:=by
  intro l
  induction l with
  |nil=>intro k _ a w h;exact h
  |cons o l u=>
   intro k f a w h;have G:ops[k]?=some o:=by simpa using (f 0).symm
   simp only[QN,KB,wpOps,G];have J:=u (k+1) (fun j=>by have:=f (j+1);grind);grind [wpl,Oper.wp_mono]
 grind [Array.length_toList,List.range_eq_range']
section
variable {U:eO}
def vP (o:Oper):Bool:=
 match o.op with
 | .move _ | .pick _ _ _ | .build _ _ | .load _ _ | .nilCheck _ | .makeFunc _ _ _ | .binOp _ _ _ _ _ | .unOp _ _ _ | .fieldAddr _ _ _ | .field _ _ _ | .indexAddr _ _ _ | .index _ _ _ | .extract _ _ | .slice _ _ _ _ _ | .convert _ _ _ | .buildSlice _ _ _=>true
 | .call c=>match c.callee with
  | .builtin .len | .builtin .min | .builtin .max=>true
  | .value _=>true
  | .invoke _ _=>true
  |_=>false
 |_=>false
def qO (ops:Array Oper) (g:Nat):Option Tmp:=(ops[g]?).bind (·.dst)
inductive GS where
 |run
 |skip
 |branch (d:Nat) (b:Bool) (want:Bool)
 |bad
def zB (ops:Array Oper) (j:List (Nat×Bool)) (s:ASt U) (o:Oper):GS:=
 match o.guard with
 |none=>.run
 |some (g,f)=>match qO ops g with
  |none=>.bad
  |some d=>match s.look d with
   | .raw (.tuple u)=>cond (Nat.beq u.size 0) .skip .bad
   | .bool b=>cond (j.any fun p=>Nat.beq p.1 g&&(p.2==f)) (match b==f with
    |true=>.run
    |false=>.bad) (.branch d b f)
   |_=>.bad
def aEf (d:Nat) (o:Oper):Bool:=
 match o.op with
 | .pick (.tmp t) _ _=>Nat.beq t d
 |_=>false
def Ti (d:Nat):List Oper->Option (List Oper×Oper×List Oper)
 |[]=>none
 |o::r=>cond (aEf d o) (some ([],o,r)) (match Ti d r with
    |some (l,p,f)=>some (o::l,p,f)
    |none=>none)
def Fo (ops:Array Oper) (d:Nat) (f:Bool):List Nat->List Oper->Bool
 |_,[]=>true
 |j,o::r=>match o.guard,o.dst with
  |some (g,w'),some t=>match qO ops g with
   |some u=>((Nat.beq u d&&(w'==f))||j.any (Nat.beq u))&&!Nat.beq t d&&Fo ops d f (t::j) r
   |none=>false
  |_,_=>false
def oC (s:ASt U):List Oper->ASt U
 |[]=>s
 |o::r=>oC (s.put o.dst .any) r
def guarded (p:Prop):List Prop->List Prop
 |[]=>[]
 |cs=>[p->dZ cs]
def Y7 (b f:Bool) (x y:Operand) (va vb:aC U):Option (aC U):=
 match va,vb with
 | .bool p,.bool q=>match f with
  |true=>match y with
   | .const (.bool false)=>some (.bool (b&&p))
   |_=>some (.bool (cond b p q))
  |false=>match x with
   | .const (.bool true)=>some (.bool (b||p))
   |_=>some (.bool (cond b q p))
 |_,_=>none
def rL (n:Nat) (o:Oper):Bool:=
 match o.dst with
 |some d=>Nat.blt d n
 |none=>true
def Vv (d:Nat):Nat:=100000+64*d
def Km (C:Cfg U) (s:ASt U) (o:Oper):Option (List Prop×ASt U):=
 match o.op with
 | .call c=>match c.callee with
  | .value x=>match s.eval x with
   | .fn f j=>match zH C s.objs f (c.argTypes.toList++List.replicate j.length 0) (c.args.toList.map s.eval++j) with
    |some (u,r)=>match o.dst with
     |some d=>cond (Nat.ble 2 r.news.length&&Ze s.objs (Vv (C.off+d)) r.news.length) (some (u,(rA s (Vv (C.off+d)) r.news).put o.dst (r.yL (Vv (C.off+d)+·)))) none
     |none=>none
    |none=>none
   |_=>none
  |_=>none
 |_=>none
def step (C:Cfg U) (n:Nat) (s:ASt U) (o:Oper):Option (List Prop×ASt U):=
 cond (rL n o) (match aop C o s.eval s.objs with
  |some (f,v,ob)=>some (f,(s.putObj ob).put o.dst v)
  |none=>match Km C s o with
   |some r=>some r
   |none=>match Tg C s o with
    |some r=>some r
    |none=>match zP C o s.eval s.objs with
     |some (f,v,ob)=>some (f,(s.putObj ob).put o.dst v)
     |none=>none) none
def Cfg.down (C:Cfg U):Cfg U:={C with pur:=true,eff:=fun _=>none,sum:=fun f=>match C.sum f with
 |some m=>some fun xs=>match m xs with
  |some (j,r)=>cond r.Vu (some (j,r.down)) none
  |none=>none
 |none=>none}
def qQ (C:Cfg U) (n:Nat) (ops:Array Oper):Nat->List (Nat×Bool)->List Oper->ASt U->Option (List Prop×ASt U)
 |0,_,_,_=>none
 |f+1,u,l,s=>match l with
  |[]=>some ([],s)
  |o::rest=>match zB ops u s o with
   | .run=>match step C n s o with
    |some (S,s')=>match qQ C n ops f u rest s' with
     |some (I,G)=>some (S++I,G)
     |none=>none
    |none=>none
   | .skip=>cond (rL n o) (qQ C n ops f u rest (s.put o.dst (.raw undef))) none
   | .branch d b j=>match Ti d (o::rest) with
    |some (L,O,J)=>match zB ops u (oC s L) O,O.op with
     | .run,.pick _ x y=>cond (L.all vP&&Fo ops d j [] L&&rL n O&&Nat.blt d n)
       (match qQ C.down n ops f ((match o.guard with|some p=>[p]|none=>[])++u) L (s.set d (.bool j)) with
        |some (S,s1)=>match Y7 b j x y (s1.eval (cond j x y)) ((oC s L).eval (cond j y x)) with
         |some v=>match qQ C n ops f u J ((oC s L).put O.dst v) with
          |some (I,G)=>some (guarded (b=j) S++I,G)
          |none=>none
         |none=>none
        |none=>none) none
     |_,_=>none
    |none=>none
   | .bad=>none
end
section
variable {U:eO} {n:Nat} {N:Nat->Prop} {w0:Fr} {w w':World} {ρ ρ':Own} {s s' s1 s2:ASt U} {a:Act}
theorem RR.weaken {E:Enc U} (h:RR E n N w0 ρ s1 a w) (ho:s2.objs=s1.objs) (j:∀t,s2.tmps t=.any\/s2.tmps t=s1.tmps t):RR E n N w0 ρ s2 a w:=by
 refine⟨h.defers,h.size,fun t=>?_,by rw[ho];exact h.objs,(fun nm g u G=>by obtain⟨ob,I,f⟩:=h.dom nm g u G;exact⟨ob,by grind,f⟩),h.sep,h.below,h.nlt,h.kept,h.free,fun id u hp=>by rw[ho];exact h.pin id u hp,h.nle⟩;rcases j t with e|e
 ·rw[e];exact .any _
 ·rw[e];exact h.tmps t
theorem RR.aQD {E:Enc U} (h:RR E n N w0 ρ s a w) (dst:Option Tmp) (v:Value):RR E n N w0 ρ (s.put dst .any) (a.put dst v) w:=by
 cases dst with
 |none=>exact h
 |some d=>
  refine⟨h.defers,by simpa[Act.put] using h.size,fun t=>?_,h.objs,h.dom,h.sep,h.below,h.nlt,h.kept,h.free,h.pin,h.nle⟩;show Rel E w ρ _ (cond (Nat.beq t d) .any (s.tmps t)) (cond (Nat.blt t 1000000) ((a.tmps.setIfInBounds d v).getD t undef) (w0.hv t))
  by_cases f:t=d
  ·subst f;have:Nat.beq t t=true:=KL t;rw[this];exact .any _
  ·rw[fX f];have j:=h.tmps t;have e:(a.tmps.setIfInBounds d v).getD t undef=a.tmps.getD t undef:=by simp_all[Ne.symm]
   rw[e];exact j
theorem C6 {E:Enc U} {st:Nat->Prop} {b:Bool} {v:Value} (h:Rel E w ρ st (.bool b) v):v=.bool b:=by cases h;rfl
theorem K9 {E:Enc U} (h:RR E n N w0 ρ s a w) {ops:Array Oper} {g d:Nat} (G:qO ops g=some d) {b:Bool} (hb:s.look d=.bool b):yielded ops a.tmps g=some b:=by
 have j:=h.look d;rw[hb] at j;have f:=C6 j;have I:a.tmps[d]?=some (.bool b):=by
  cases u:a.tmps[d]? with
  |none=>
   simp[u] at f;cases f
  |some v=>
   simp_all
 grind [yielded,qO]
theorem aEr {E:Enc U} (h:RR E n N w0 ρ s a w) {ops:Array Oper} {f:List (Nat×Bool)} {o:Oper} (j:zB ops f s o=.run):Region.wanted o (yielded ops a.tmps)=true:=by
 grind [zB,Region.wanted,K9]
theorem aVg {E:Enc U} (h:RR E n N w0 ρ s a w) {ops:Array Oper} {u:List (Nat×Bool)} {o:Oper} (f:zB ops u s o=.skip):Region.wanted o (yielded ops a.tmps)=false:=by
 unfold zB at f;unfold Region.wanted;split at f
 ·cases f
 ·rename_i g I J;rw[J];split at f
  ·cases f
  ·rename_i d G;split at f
   ·rename_i L hv;have j:=h.look d;rw[hv] at j;have S:yielded ops a.tmps g=none:=by
     generalize V:a.tmps.getD d undef=v at j;cases j;unfold yielded;unfold qO at G;rw[G];simp only[Option.bind_some];cases O:a.tmps[d]? with
     |none=>rfl
     |some v=>
      simp_all
    grind
   ·grind
   grind
theorem aVh {ops:Array Oper} {j:List (Nat×Bool)} {o:Oper} {d:Nat} {b f:Bool} (u:zB ops j s o=.branch d b f):
  ∃g,o.guard=some (g,f)/\qO ops g=some d/\s.look d=.bool b:=by
 grind [zB]
theorem wP {o:Oper} (h:rL n o=true):∀d,o.dst=some d->d<n:=fun d f=>by
 simp_all[rL]
theorem aW5 {look:Nat->Option (aT U)} {b:Nat}:∀(m:Nat),Ze look b m=true->∀k,k<m->look (b+k)=none:=by
 intro m
 induction m with
 |zero=>omega
 |succ m f=>
  grind [Ze]
theorem aMA {C:Cfg U} (hs:fY C w0) (h:RR C.E n N w0 ρ s a w) {o:Oper} (hd:∀d,o.dst=some d->d<n) {cs:List Prop} (ho:Km C s o=some (cs,s')) (hc:dZ cs)
  {K:Act->World->Prop} {Q:Exit->Act->World->Prop} (hK:∀ρ' a' w',RR C.E n N w0 ρ' s' a' w'->K a' w'):o.wp C.P a w K Q:=by
 obtain⟨dst,op,ty,pos,after,guard⟩:=o;unfold Km at ho;simp only at ho hd;cases op<;>(try simp only at ho)<;>(try (cases ho;done))
 case call c=>
 obtain⟨Z,args,S⟩:=c;simp only at ho;split at ho
 ·rename_i x;split at ho
  ·rename_i f I hxe;split at ho
   ·rename_i kN r hr;split at ho
    ·rename_i d;obtain⟨G,ho⟩:=cC ho;simp only[QJ,QX] at ho;obtain⟨rfl,rfl⟩:=ho;simp only[QW] at G;have L:=aW5 _ G.2;have J:=h.eval x;rw[hxe] at J;generalize hfv:a.eval x=fv at J;cases J with
     |fn _ _ O hvn hvl=>
     have u:(args.map a.eval++O).size=(args.toList.map s.eval++I).length:=by grind
     obtain⟨hcall,j⟩:=aIF hs h (fun _ _ h=>h) (args:=args.map a.eval++O) u (fun k hk=>by
      by_cases hk':k<args.size
      ·have e:(args.map a.eval++O).getD k undef=a.eval args[k]:=by simp_all
       rw[e];rw[KY (by grind)];simp only[List.getElem_map,Array.getElem_toList];exact h.eval _
      ·have fJ:k-args.size<I.length:=by grind
       have e:(args.map a.eval++O).getD k undef=O.getD (k-args.size) undef:=by
        simp_all
       grind) hr hc
     refine Jl (f:=f) (args:=args.map a.eval++O) ?_ (j.mono ?_)
     ·grind [execOp,resolve,Deferred.ofValue,invoke]
     ·rintro e w' ⟨v,rfl,hv⟩
      obtain⟨ρ',hR,V⟩:=hv (Vv (C.off+d)) L;exact⟨v,rfl,hK ρ' _ w' (hR.put (some d) hd V)⟩
    grind
   grind
  grind
 grind
theorem aMD {C:Cfg U} (h:RR C.E n N w0 ρ s a w) {o:Oper} (O:∀d,o.dst=some d->d<n) {cs:List Prop} (ho:Tg C s o=some (cs,s')) (hc:dZ cs)
  {K:Act->World->Prop} {Q:Exit->Act->World->Prop} (Z:∀ρ' a' w',RR C.E n N w0 ρ' s' a' w'->K a' w'):o.wp C.P a w K Q:=by
 obtain⟨dst,op,ty,pos,J,I⟩:=o;unfold Tg at ho;have hbo:=cC ho;clear ho;obtain⟨_,ho⟩:=hbo;simp only at ho O;split at ho
 ·rename_i t len f d;obtain⟨_,ho⟩:=cC ho;have fin:∀{q:Value} {w':World} {ρ':Own},(Instr.buildSlice t len (f.map fun (p:Nat×Operand)=>(p.1,a.eval p.2))).run C.P w=.ok q w'->RR C.E n N w0 ρ' s' (a.put (some d) q) w'->
    Oper.wp C.P ⟨some d,.buildSlice t len f,ty,pos,J,I⟩ a w K Q:=fun {q w' ρ'} j hR=>by
   refine jU (u:=q) (w':=w') ?_ (Z ρ' _ w' hR);show ((do pure (Next.value (<- Instr.buildSlice t len (f.map fun (p:Nat×Operand)=>(p.1,a.eval p.2)))):Sem Next)).run C.P w=_;simp_all
  split at ho
  ·rename_i r hr;cases ho;obtain⟨q,w',ρ',j,hR⟩:=aYe h (O d rfl) (parts':=f.map fun (p:Nat×Operand)=>(p.1,a.eval p.2)) XQ (yK h f) hr;grind
  ·obtain⟨q,w',ρ',j,hR⟩:=aYc h (O d rfl) (parts':=f.map fun (p:Nat×Operand)=>(p.1,a.eval p.2)) XQ (yK h f) ho;grind
 ·rename_i c d;obtain⟨V,S,L⟩:=c;simp only at ho;split at ho
  ·rename_i x y hargs;have G:S=#[x,y]:=by grind
   subst G;obtain⟨q,w',ρ',j,hR⟩:=aYf (ty:=ty) h (O d rfl) (h.eval x) (h.eval y) ho hc;refine jU (u:=q) (w':=w') ?_ (Z ρ' _ w' hR);simp_all[execOp,resolve,invoke,builtin]
  grind
 ·rename_i t x hi d;obtain⟨_,ho⟩:=cC ho;obtain⟨q,ρ',j,hR⟩:=aQ9 h (O d rfl) (h.eval x) (h.eval hi) ho hc;refine jU (u:=q) (w':=w) ?_ (Z ρ' _ w hR);simp[execOp,j]
 grind
theorem sq {C:Cfg U} (G:fY C w0) (h:RR C.E n N w0 ρ s a w) {o:Oper} {cs:List Prop} (ho:step C n s o=some (cs,s')) (J:dZ cs)
  {K:Act->World->Prop} {Q:Exit->Act->World->Prop} (L:∀ρ' a' w',RR C.E n N w0 ρ' s' a' w'->K a' w'):o.wp C.P a w K Q:=by
 unfold step at ho;obtain⟨I,ho⟩:=cC ho;split at ho
 ·rename_i j v ob f;simp only[QJ,QX] at ho;obtain⟨rfl,rfl⟩:=ho;exact aIU G h (fun _ _ h=>h) (fun _ _ h=>h) (wP I) f J (fun ρ' u w' hR=>L _ _ _ hR)
 ·split at ho
  ·grind [aMA,wP]
  ·rename_i f _ _;split at ho
   ·grind [aMD,wP]
   ·split at ho
    ·rename_i j v ob O;simp only[QJ,QX] at ho;obtain⟨rfl,rfl⟩:=ho;refine aIV G h (fun _ _ h=>h) (fun _ _ h=>h) (wP I) (r:=v) (ob:=ob) ?_ J (fun ρ' u w' hR=>L _ _ _ hR);grind [sZ]
    grind
theorem sy {d:Nat}:∀{l j:List Oper} {f:Oper} {r:List Oper},Ti d l=some (j,f,r)->l=j++f::r/\∃x y,f.op=.pick (.tmp d) x y:=by
 intro l
 induction l with
 |nil=>intro j f r h;cases h
 |cons o l u=>
  grind [Ti,aEf,Nat.eq_of_beq_eq_true]
theorem aHw:∀(l:List Oper) (s:ASt U),(oC s l).objs=s.objs:=by
 intro l
 induction l with
 |nil=>intro s;rfl
 |cons o l f=>
  intro s;rw[oC,f];cases o.dst<;>rfl
theorem aZR:∀(l:List Oper) (s:ASt U) (t:Nat),((∃o∈l,o.dst=some t)\/s.tmps t=.any)/\(oC s l).tmps t=.any\/(∀o∈l,o.dst≠some t)/\(oC s l).tmps t=s.tmps t:=by
 intro l
 induction l with
 |nil=>intro s t;exact .inr ⟨XQ,rfl⟩
 |cons o l j=>
  intro s t;have f:(s.put o.dst .any).tmps t=if o.dst=some t then .any else s.tmps t:=by
   cases u:o.dst with
   |none=>rfl
   |some d=>
    show cond (Nat.beq t d) .any (s.tmps t)=_
    by_cases G:t=d
    ·simp_all
    grind [fX]
  grind [oC]
theorem aMW {C:Cfg U} {ops:Array Oper} {Q:Exit->Act->World->Prop} {d:Nat} {b f:Bool} (hbw:b≠f):
  ∀(j:List Oper) (u:List Nat) (s:ASt U) (a:Act),RR C.E n N w0 ρ s a w->a.tmps.getD d undef=.bool b->(∀t∈u,a.tmps.getD t undef=undef)->Fo ops d f u j=true->
   ∀{K:Act->World->Prop},(∀a',RR C.E n N w0 ρ (oC s j) a' w->a'.tmps.getD d undef=.bool b->K a' w)->wpl C.P ops Q j K a w:=by
 intro j
 induction j with
 |nil=>intro u s a h Z _ _ K J;exact J a h Z
 |cons o j ih=>
  intro u s a h Z O ho K J;simp only[Fo] at ho;split at ho
  ·rename_i g V t hg ht;split at ho
   ·rename_i dg I;simp only[QW,Bool.or_eq_true,KH] at ho;obtain⟨⟨h1,h2⟩,h3⟩:=ho;have htd:t≠d:=fun e=>by
     simp_all
    have hy:yielded ops a.tmps g≠some V:=by
     unfold yielded;unfold qO at I;rw[I];simp only[Option.bind_some];rcases h1 with ⟨L,h5⟩|L
     ·obtain rfl:=QQ L;have wF:V=f:=by grind
      cases hz:a.tmps[dg]? with
      |none=>simp
      |some v=>
       simp_all
     ·obtain⟨t',G,hb⟩:=KV.1 L;obtain rfl:=QQ hb;have:=O _ G;cases hz:a.tmps[dg]? with
      |none=>simp
      |some v=>
       simp_all[undef]
    unfold wpl;rw[QF (by
     grind [Region.wanted])]
    have S:∀t',t'≠t->(a.put o.dst undef).tmps.getD t' undef=a.tmps.getD t' undef:=fun t' hne=>by
     simp_all[Act.put,Ne.symm]
    refine ih (t::u) (s.put o.dst .any) (a.put o.dst undef) (h.aQD _ _) (by grind) (fun t' G=>?_) h3 J
    by_cases hc:t'=t
    ·simp_all[Act.put]
    grind
   grind
  grind
def De (C:Cfg U):Prop:=(∀f m xs j r,C.sum f=some m->m xs=some (j,r)->r.news=[])/\(∀f,C.eff f=none)/\C.pur=true
theorem aYY (c:aC U):iP (hJ c)=[]:=by cases c<;>rfl
theorem Hl:∀(l:List (aC U)) (k:Nat),lI (fun _=>hJ) k l=l.map hJ:=by
 intro l
 induction l with
 |nil=>intro k;rfl
 |cons c l f=>grind [lI]
theorem aH8 (l:List (aC U)):(l.map hJ).flatMap iP=[]:=by
 simp_all[aYY]
theorem aH9 (g:Nat->aC U->aC U) (f:g=fun _=>hJ) (k:Nat) (c:aC U):gU (oP g k c)=[]:=by
 subst f;cases c with
 |agg l=>grind [oP,gU,Hl,aH8]
 |_=>rfl
theorem aHa (r:aC U):r.down.news=[]:=by
 cases r with
 |tup l=>
  show (kZ (fun _=>hJ) 0 l).flatMap gU=[];have:∀(l:List (aC U)) (k:Nat),(kZ (fun _=>hJ) k l).flatMap gU=[]:=by
   intro l
   induction l with
   |nil=>intro k;rfl
   |cons c l f=>
    grind [kZ,aH9]
  grind
 |agg l=>
  show (lI (fun _=>hJ) 0 l).flatMap iP=[];grind [Hl,aH8]
 |_=>rfl
theorem aRt (C:Cfg U):De C.down:=by
 refine⟨fun f m xs j r hf hm=>?_,fun f=>rfl,rfl⟩;grind [Cfg.down,aHa]
theorem aYW (f:Nat->Nat) (k:Nat) (c:aC U):jZ f k (hJ c)=hJ c:=by cases c<;>rfl
theorem aH6 (f:Nat->Nat):∀(l:List (aC U)) (k:Nat),lI (jZ f) k (l.map hJ)=l.map hJ:=by
 intro l
 induction l with
 |nil=>intro k;rfl
 |cons c l j=>grind [lI,aYW]
theorem aH7 (f:Nat->Nat) (k k':Nat) (c:aC U):oP (jZ f) k (oP (fun _=>hJ) k' c)=oP (fun _=>hJ) k' c:=by
 cases c with
 |agg l=>grind [oP,Hl,aH6]
 |_=>rfl
theorem aYX (f:Nat->Nat) (r:aC U):r.down.yL f=r.down:=by
 cases r with
 |tup l=>
  have:∀(l:List (aC U)) (k j:Nat),kZ (jZ f) k (kZ (fun _=>hJ) j l)=kZ (fun _=>hJ) j l:=by
   intro l
   induction l with
   |nil=>intro k j;rfl
   |cons c l u=>
    grind [kZ,aH7]
  exact congrArg aC.tup (this l 0 0)
 |agg l=>
  show aC.agg (lI (jZ f) 0 (lI (fun _=>hJ) 0 l))=_;rw[Hl,aH6,<- Hl l 0];rfl
 |_=>rfl
theorem gF.content {E:Enc U} {base k:Nat} {st:Nat->Prop} {x:eA U} {u:Value} (h:gF E w ρ st base k x.obj) (hst:∀b,st b->fF N w b) (hN:∀b,N b->b<base) (hu:Rel E w ρ st (.osl k 0) u):Rel E w cO (fF N w) (.sl x.2.1 x.2.2) u:=by
 have Z:∀{e:TypeId} {m n:Nat} {O:List Value} {v:Value},w.ownsRow base e m v n O->∀b o l c,v=.slice (some ⟨b,o,none⟩) l c->fF N w b:=fun h2 b o l c hv=>by
  rcases h2.2 with ⟨h0,_⟩|⟨gb,V,cur,I,hbase,hgb,_⟩
  ·grind
  ·rw[hv] at I;simp only[JI,QJ,KQ,and_true] at I;obtain⟨⟨rfl,_⟩,_⟩:=I;exact⟨(QD.1 hgb).1,fun hq=>by grind⟩
 have G:∀{t:U.τ} {xs:List (U.T t)} {v:Value} {O:List Value},w.ownsRow base (U.ety t) (U.size t) v xs.length O->(∀i (h:i<xs.length) k (hk:k<(E.enc t xs[i]).length),Rel E w cO (fF N w) (E.enc t xs[i])[k] (O.getD (i*U.size t+k) undef))->Rel E w cO (fF N w) (.sl t xs) v:=fun {t xs v O} h2 h3=>by
  rcases Bx h2 h3 with ⟨⟨ad,rfl⟩,rfl⟩|⟨b,o,V,f,rfl,hcap,hc,hl'⟩
  ·exact .slE t ad
  ·exact .sl t xs b o V f (Z h2 _ _ _ _ rfl) hcap hc hl'
 have fl:∀{c:aC U} {v:Value},c.flat=true->Rel E w ρ st c v->Rel E w cO (fF N w) c v:=fun hc hv=>(hv.flat (ρ':=cO) hc).mono (fun b hb=>⟨hst b hb,rfl⟩) (fun _ _ _ hr=>by cases hr)
 have S:∀{J:Value},ρ (.ob k)=some (0,J)->J=u:=fun {J} q1=>by
  cases hu with
  |osl _ _ _ q hp=>
   grind
  |oslOld _ _ g' u'' _ q hg=>
   grind
 obtain⟨d,t,xs⟩:=x;cases d with
 |false=>
  obtain⟨J,cs',q1,q2,q3,q4⟩:=h;obtain rfl:=S q1;exact G q3 (fun i hi L j=>fl (E.enc_flat t _ _ (QH j)).1 (q4 i hi L j))
 |true=>
  obtain⟨J,cs',q1,q2,q3,q4,q5,q6⟩:=h;obtain rfl:=S q1;refine G q3 (fun i hi L j=>?_);obtain⟨t1,ys,v1,ds,r1,r2,r3,r4,r5,r6⟩:=q6 i hi;have pN:L=0:=by
   grind
  subst pN;have e1:(E.enc t xs[i])[0]=.sl t1 ys:=by grind
  show Rel E w cO (fF N w) (E.enc t xs[i])[0] _;rw[e1,q4,Nat.mul_one,JB,r3];exact G r5 (fun i hi L j=>fl (E.enc_flat t1 _ _ (QH j)).1 (r6 i hi L j))
theorem jT.down {E:Enc U} {base:Nat} {r:aC U} {v:Value} (hok:r.Vu=true) (S:∀b,N b->b<base) (h:jT E base N w r v):Rel E w cO (fF N w) r.down v:=by
 obtain⟨V,f1,f2,f3,Z⟩:=h;refine Mq (p:=fun c=>Gd c=true) (S9 hok) (fun k c u L G I=>?_) f1;have f:(∃x,iP c=[x]/\jZ (fun k=>k) k c=.osl k 0/\hJ c=.sl x.2.1 x.2.2)\/(iP c=[]/\jZ (fun k=>k) k c=c/\hJ c=c):=by
  cases c<;>first|exact .inl ⟨_,rfl,rfl,rfl⟩|exact .inr ⟨rfl,rfl,rfl⟩
 rcases f with ⟨x,j,e1,J⟩|⟨j,e1,J⟩
 ·rw[e1] at I;show Rel E w cO (fF N w) (hJ c) u;rw[J];exact(f2 k x (G x j)).content (fun b q=>⟨q.1,q.2.1⟩) S I
 ·rw[e1] at I;show Rel E w cO (fF N w) (hJ c) u;rw[J];refine(I.flat (ρ':=cO) ?_).mono (fun b hb=>⟨⟨hb.1,hb.2.1⟩,rfl⟩) (fun _ _ _ O=>by cases O);cases c<;>first|exact L|cases j
theorem fY.down {C:Cfg U} (h:fY C w0):fY C.down w0:=by
 refine⟨fun f m hf=>?_,fun f m hf=>by cases hf⟩;simp only[Cfg.down] at hf;split at hf
 ·rename_i L S;cases hf;refine⟨(h.1 f L S).1,fun N w I xs cs r hb O G hm Z=>?_⟩;simp only at hm;split at hm
  ·rename_i kN r0 V;obtain⟨hok,hm⟩:=cC hm;cases hm;refine((h.1 f L S).2 N w I xs _ _ hb O G V Z).mono ?_
   rintro e w' ⟨v,rfl,hv,J⟩
   refine⟨v,rfl,⟨cO,?_,?_,?_,?_⟩,J⟩
   ·rw[aYX];exact(hv.down hok O).mono (fun b q=>⟨⟨q.1,q.2,fun _ _ _ j=>by cases j⟩,rfl⟩) (fun _ _ _ j=>by cases j)
   ·grind [aHa]
   ·intro k g u j;cases j
   ·intro _ _ _ _ _ _ _ j;cases j
  grind
 grind
theorem bBJ {C:Cfg U} (f:De C) {o:Oper} {ev:Operand->aC U} {look:Nat->Option (aT U)} {cs:List Prop} {v:aC U} {ob:Option (Nat×aT U)} (hp:vP o=true) (h:aop C o ev look=some (cs,v,ob)):ob=none:=by
 have J:∀{x:Option (aC U)},val? x=some (cs,v,ob)->ob=none:=fun {x} h=>by
  unfold val? at h;grind
 have S:∀{x:aC U},val x=some (cs,v,ob)->ob=none:=fun {x} h=>by
  grind [val]
 obtain⟨dst,op,ty,pos,O,L⟩:=o;unfold aop at h;unfold vP at hp;cases op<;>(try simp only at h)<;>(try simp only at hp)<;>(try (cases hp;done))
 case move=>grind
 case convert=>
  grind
 case buildSlice=>
  split at h
  ·split at h
   ·have h:=(cC h).2;split at h
    ·split at h
     ·rw[f.2.2,QY] at h;grind
     ·have e:(C.deep||C.pur)=true:=by rw[f.2.2,Bool.or_true]
      grind
    grind
   grind
  grind
 case nilCheck=>
  grind
 case makeFunc=>
  grind
 case pick=>
  grind
 case build=>
  grind
 case load=>
  split at h
  ·grind
  ·unfold Xd at h;grind
 case binOp=>
  grind
 case unOp=>grind
 case fieldAddr=>
  split at h
  ·unfold Wv at h;grind
  grind
 case field=>
  grind
 case indexAddr=>
  split at h
  ·split at h
   ·grind [Xy]
   ·unfold Xx at h;grind
  grind
 case index=>
  split at h
  ·unfold indexOf at h;grind
  grind
 case slice t x lo hi mx=>
  have hsl:∀{x:aC U} {lo hi:Option (aC U)},vF C t x lo hi=some (cs,v,ob)->ob=none:=fun {x lo hi} h=>by
   unfold vF at h;grind
  grind
 case extract=>
  grind
 case call c=>
  obtain⟨G,V,u⟩:=c;simp only at h hp;split at h
  ·grind
  ·grind
  ·grind
  ·cases hp
  ·rename_i x;split at h
   ·rw[f.2.1] at h;simp only at h;unfold B0 at h;split at h
    ·rename_i kN Z j;have pM:Z.news=[]:=by
      unfold zH at j;split at j
      ·rename_i m hm;split at j
       ·split at j
        ·rename_i I;obtain⟨_,j⟩:=cC j;cases j;exact f.1 _ _ _ _ _ hm I
        grind
       grind
      grind
     grind
    grind
   grind
  grind
theorem bBN {C:Cfg U} (f:De C) {o:Oper} {I:Operand->aC U} {look:Nat->Option (aT U)} {cs:List Prop} {v:aC U} {ob:Option (Nat×aT U)} (hp:vP o=true) (h:Co C o I look=some (cs,v,ob)):ob=none:=by
 obtain⟨dst,op,L,pos,G,u⟩:=o;unfold Co at h;unfold vP at hp;cases op<;>(try simp only at h)<;>(try simp only at hp)<;>(try (cases hp;done))<;>(try (cases h;done))
 case slice t x lo hi O=>
  have J:∀{x:aC U} {lo hi:Option (aC U)},Ad C look t x lo hi=some (cs,v,ob)->ob=none:=fun {x lo hi} h=>by
   unfold Ad at h;grind
  grind
 case indexAddr t x S=>
  unfold Xw at h;grind
 case buildSlice t len j=>
  exfalso;split at h
  ·unfold C5 at h;split at h
   ·split at h
    ·have hb:=(cC h).1;rw[f.2.2] at hb;grind
    grind
   grind
  grind
 grind
theorem bBL {C:Cfg U} (j:De C) {o:Oper} {f:Operand->aC U} {look:Nat->Option (aT U)} {cs:List Prop} {v:aC U} {ob:Option (Nat×aT U)} (hp:vP o=true) (h:zP C o f look=some (cs,v,ob)):ob=none:=by
 grind [zP,bBN]
end
section
variable {U:eO} {n:Nat} {N:Nat->Prop} {w0:Fr} {w w':World} {ρ ρ':Own} {s s' s1 s2:ASt U} {a:Act}
theorem aHp (l m:List Prop):dZ (l++m)↔dZ l/\dZ m:=by
 simp only[aZA,QO];grind
theorem aVf {p:Prop} {cs:List Prop} (h:dZ (guarded p cs)) (hp:p):dZ cs:=by
 cases cs with
 |nil=>trivial
 |cons c cs=>exact h hp
theorem aMB {C:Cfg U} (u:De C) {o:Oper} {r:List Prop×ASt U} (h:Km C s o=some r):False:=by
 unfold Km at h;split at h
 ·split at h
  ·split at h
   ·split at h
    ·rename_i L I j;split at h
     ·obtain⟨f,_⟩:=cC h;simp only[QW] at f;have O:=QR f.1;have J:I.news=[]:=by
       unfold zH at j;split at j
       ·rename_i m hm;split at j
        ·split at j
         ·rename_i G;obtain⟨_,j⟩:=cC j;cases j;exact u.1 _ _ _ _ _ hm G
         grind
        grind
       grind
      grind
     grind
    grind
   grind
  grind
 grind
theorem aLz {C:Cfg U} (f:De C) {o:Oper} {cs:List Prop} (hp:vP o=true) (h:step C n s o=some (cs,s')):s'.objs=s.objs/\∀t,o.dst≠some t->s'.tmps t=s.tmps t:=by
 have J:∀v:aC U,((s.putObj none).put o.dst v).objs=s.objs/\∀t,o.dst≠some t->((s.putObj none).put o.dst v).tmps t=s.tmps t:=fun v=>by
  cases S:o.dst with
  |none=>exact⟨rfl,fun t _=>rfl⟩
  |some d=>
   refine⟨rfl,fun t O=>?_⟩;show cond (Nat.beq t d) v (s.tmps t)=s.tmps t;grind [fX]
 unfold step at h;obtain⟨_,h⟩:=cC h;split at h
 ·grind [bBJ]
 ·split at h
  ·grind [aMB]
  ·split at h
   ·rename_i r I;obtain⟨dst,op,L,pos,G,u⟩:=o;unfold Tg at I;have j:=(cC I).1;rw[f.2.2,Bool.not_true] at j;grind
   grind [bBL]
theorem Q6 (s:ASt U) (dst:Option Tmp) (v:aC U):(s.put dst v).objs=s.objs/\∀t,dst≠some t->(s.put dst v).tmps t=s.tmps t:=by
 cases dst with
 |none=>exact⟨rfl,fun t _=>rfl⟩
 |some d=>
  refine⟨rfl,fun t f=>?_⟩;show cond (Nat.beq t d) v (s.tmps t)=s.tmps t;grind [fX]
theorem aZS (l:List Oper) (s:ASt U):(oC s l).objs=s.objs/\∀t,(∀o∈l,o.dst≠some t)->(oC s l).tmps t=s.tmps t:=by
 refine⟨aHw l s,?_⟩
 induction l generalizing s with
 |nil=>intro t _;rfl
 |cons o l f=>
  grind [oC,Q6]
theorem aYp {ops:Array Oper}:∀(f:Nat) (C:Cfg U) (u:De C) (j:List (Nat×Bool)) (l:List Oper) (s s':ASt U) (cs:List Prop),qQ C n ops f j l s=some (cs,s')->l.all vP=true->
  s'.objs=s.objs/\∀t,(∀o∈l,o.dst≠some t)->s'.tmps t=s.tmps t:=by
 intro f
 induction f with
 |zero=>intro C u j l s s' cs h;cases h
 |succ f ih=>
  intro C u j l s s' cs h hp;unfold qQ at h;split at h
  ·grind
  ·rename_i o rest;simp only[List.all_cons,QW] at hp;split at h
   ·grind [aLz]
   ·grind [Q6]
   ·rename_i d b J hg;split at h
    ·rename_i V Z I G;obtain⟨hl,_⟩:=sy G;split at h
     ·obtain⟨L,h⟩:=cC h;split at h
      ·split at h
       ·split at h
        ·rename_i S s2 Ol;simp only[QJ,QX] at h;obtain⟨rfl,rfl⟩:=h;have O:(o::rest).all vP=true:=by grind
         grind [aZS,Q6]
        grind
       grind
      grind
     grind
    grind
   grind
theorem aMX {ops:Array Oper} {d:Nat} {j:Bool}:∀(f:List Oper) (u:List Nat),Fo ops d j u f=true->∀o∈f,o.dst≠some d:=by
 intro f
 induction f with
 |nil=>grind
 |cons o f G=>
  grind [Fo,Nat.beq_refl]
theorem Pn {ops:Array Oper} {Q:Exit->Act->World->Prop}:∀(f:Nat) (C:Cfg U) (hs:fY C w0) (Z:List (Nat×Bool)) (l:List Oper) (s s':ASt U) (cs:List Prop),qQ C n ops f Z l s=some (cs,s')->dZ cs->
  ∀(ρ:Own) (a:Act) (w:World),RR C.E n N w0 ρ s a w->∀(K:Act->World->Prop),(∀ρ' a' w',RR C.E n N w0 ρ' s' a' w'->K a' w')->wpl C.P ops Q l K a w:=by
 intro f
 induction f with
 |zero=>intro C hs Z l s s' cs h;cases h
 |succ f ih=>
  intro C hs Z l s s' cs h hc ρ a w hR K hK;unfold qQ at h;split at h
  ·simp only[QJ,QX] at h;obtain⟨rfl,rfl⟩:=h;exact hK ρ a w hR
  ·rename_i o rest;split at h
   ·grind [aHp,wpl,aEr,sq]
   ·rename_i hg;obtain⟨hd,h⟩:=cC h;unfold wpl;rw[QF (by grind [aVg])];exact ih C hs _ _ _ _ _ h hc ρ _ w (hR.put o.dst (wP hd) (.raw _)) K hK
   ·rename_i d b G hg;split at h
    ·rename_i S pk I hsp;obtain⟨hl,x0,y0,hpk0⟩:=sy hsp;split at h
     ·rename_i cc x y hgp V;rw[hpk0] at V;simp only[Op.pick.injEq] at V;obtain⟨rfl,rfl,rfl⟩:=V;obtain⟨O,h⟩:=cC h;simp only[QW] at O;obtain⟨⟨⟨hpure,hskip⟩,hdpk⟩,hdn⟩:=O;have hdn:d<n:=QR hdn;split at h
      ·rename_i cs1 s1 wH;split at h
       ·rename_i v hv;split at h
        ·rename_i cs2 s2 Ol;simp only[QJ,QX] at h;obtain⟨rfl,rfl⟩:=h;rw[aHp] at hc;obtain⟨g,hog,hdg,hsd0⟩:=aVh hg;obtain⟨hlt,hsd⟩:=ak hsd0 (fun e=>by cases e);rw[hl];refine Jk S (pk::I) ?_;have J:=hR.tmps d;rw[hsd,u4 hlt] at J;have had:=C6 J
         -- what follows, from a state that is cleared, with the pick's value
         have fin:∀ρ' a' w',RR C.E n N w0 ρ' (oC s S) a' w'->a'.tmps.getD d undef=.bool b->Rel C.E w' ρ' (aD N ρ' w') v (if b=true then a'.eval x0 else a'.eval y0)->
           Region.wanted pk (yielded ops a'.tmps)=true->wpl C.P ops Q (pk::I) K a' w':=fun ρ' a' w' j hb hv' hw=>by
          unfold wpl;rw[JQ hw];refine jU (u:=if b=true then a'.eval x0 else a'.eval y0) (w':=w') ?_ (ih C hs _ _ _ _ _ Ol hc.2 ρ' _ w' (j.put pk.dst (wP hdpk) hv') K hK);have he:a'.eval (.tmp d)=.bool b:=hb;simp_all[execOp,asBool]
         have L:∀ρ' a' w',RR C.E n N w0 ρ' (oC s S) a' w'->Region.wanted pk (yielded ops a'.tmps)=true:=fun ρ' a' w' j=>by
          grind [aEr]
         by_cases hbw:b=G
         ·subst hbw;have hR1:RR C.E n N w0 ρ (s.set d (.bool b)) a w:=by
           refine hR.weaken rfl (fun t=>.inr ?_);show cond (Nat.beq t d) (.bool b) (s.tmps t)=s.tmps t;grind [fX]
          refine ih C.down hs.down _ _ _ _ _ wH (aVf hc.1 rfl) ρ a w hR1 _ (fun ρ' a' w' j=>?_);obtain⟨ho,ht⟩:=aYp f C.down (aRt C) _ _ _ _ _ wH hpure;have hset:(s.set d (.bool b)).tmps d=.bool b:=by
           show cond (Nat.beq d d) _ _=_;grind
          have hd1:s1.tmps d=.bool b:=by
           grind [aMX]
          have hRc:RR C.E n N w0 ρ' (oC s S) a' w':=by
           refine j.weaken ((aHw S s).trans ho.symm) (fun t=>?_);rcases aZR S s t with ⟨_,h2⟩|⟨h1,h2⟩
           ·grind
           ·refine .inr ?_;rw[h2,ht t h1];show s.tmps t=cond (Nat.beq t d) (.bool b) (s.tmps t);grind [fX]
          have had':a'.tmps.getD d undef=.bool b:=by
           have:=j.tmps d;grind [u4,C6]
          refine fin ρ' a' w' hRc had' ?_ (L ρ' a' w' hRc)
          -- the value: what the part computed
          unfold Y7 at hv;split at hv
          ·rename_i p q hvp hvq;have sN:Rel C.E w' ρ' (aD N ρ' w') (s1.eval (cond b x0 y0)) (a'.eval (cond b x0 y0)):=j.eval (cond b x0 y0);grind
          grind
         ·refine aMW hbw S [] s a hR had (fun t ht=>by cases ht) hskip (fun a' j hd'=>?_);refine fin ρ a' w j hd' ?_ (L ρ a' w j);unfold Y7 at hv;split at hv
          ·rename_i p q hvp hvq;have sN:=j.eval (cond G y0 x0);rw[hvq] at sN;cases G with
           |true=>
            have hb:b=false:=by grind
            subst hb;simp only[QY] at sN hv;split at hv
            ·obtain rfl:=QU hv;exact .bool _
            grind
           |false=>
            have hb:b=true:=by grind
            subst hb;simp only[QK] at sN hv;split at hv
            ·obtain rfl:=QU hv;exact .bool _
            grind
          grind
        grind
       grind
      grind
     grind
    grind
   grind
end
structure Ent (U:eO) where
 dst:Option Tmp
 v:aC U
 ob:Option (Nat×aT U)
 looks:List Nat
 ids:List Nat
section
variable {U:eO}
def app (s:ASt U) (e:Ent U):ASt U:=(s.putObj e.ob).put e.dst e.v
def SD (D:Nat->Bool):Nat->ASt U->List (Ent U)->ASt U
 |_,s,[]=>s
 |k,s,e::es=>SD D (k+1) (cond (D k) (app s e) s) es
def wid (e:Ent U):Option Nat:=e.ob.map (·.1)
theorem aQA (s:ASt U) (dst:Option Tmp) (v:aC U) (t:Nat):(s.put dst v).tmps t=if dst=some t then v else s.tmps t:=by
 cases dst with
 |none=>rfl
 |some d=>
  show cond (Nat.beq t d) v (s.tmps t)=_
  by_cases f:t=d
  ·simp_all
  grind [fX]
theorem J4 (s:ASt U) (e:Ent U) (t:Nat):(app s e).tmps t=if e.dst=some t then e.v else s.tmps t:=by
 unfold app;rw[aQA];cases e.ob<;>rfl
theorem J5 (s:ASt U) (e:Ent U) (id:Nat):(app s e).objs id=if wid e=some id then e.ob.map (·.2) else s.objs id:=by
 unfold app wid;have h:((s.putObj e.ob).put e.dst e.v).objs=(s.putObj e.ob).objs:=by cases e.dst<;>rfl
 rw[h];cases e.ob with
 |none=>rfl
 |some p=>
  obtain⟨i,o⟩:=p;show cond (Nat.beq id i) (some o) (s.objs id)=_
  by_cases f:id=i
  ·simp_all
  grind [fX]
theorem K5 {D D':Nat->Bool} {t:Nat}:∀(es:List (Ent U)) (k:Nat) (s s':ASt U),s.tmps t=s'.tmps t->(∀i (h:i<es.length),es[i].dst=some t->D (k+i)=D' (k+i))->(SD D k s es).tmps t=(SD D' k s' es).tmps t:=by
 intro es
 induction es with
 |nil=>intro k s s' h _;exact h
 |cons e es j=>
  intro k s s' h f;refine j (k+1) _ _ ?_ (fun i hi u=>by have:=f (i+1) (by grind) (by grind);grind)
  by_cases u:e.dst=some t
  ·have:=f 0 XQ (by grind);grind [J4]
  grind [J4]
theorem K6 {D D':Nat->Bool} {id:Nat}:∀(es:List (Ent U)) (k:Nat) (s s':ASt U),s.objs id=s'.objs id->(∀i (h:i<es.length),wid es[i]=some id->D (k+i)=D' (k+i))->(SD D k s es).objs id=(SD D' k s' es).objs id:=by
 intro es
 induction es with
 |nil=>intro k s s' h _;exact h
 |cons e es j=>
  intro k s s' h f;refine j (k+1) _ _ ?_ (fun i hi u=>by have:=f (i+1) (by grind) (by grind);grind)
  by_cases u:wid e=some id
  ·have:=f 0 XQ (by grind);grind [J5]
  grind [J5]
theorem Re {D:Nat->Bool}:∀(es:List (Ent U)) (k:Nat) (s:ASt U),(∀i,i<es.length->D (k+i)=false)->SD D k s es=s:=by
 intro es
 induction es with
 |nil=>intro k s _;rfl
 |cons e es j=>
  intro k s h;have f:=h 0 XQ;simp only[JB] at f;simp only[SD,f,QK];exact j (k+1) s (fun i hi=>by have:=h (i+1) (by grind);grind)
theorem bBh {D:Nat->Bool} {t:Nat}:∀(es:List (Ent U)) (k:Nat) (s:ASt U) (i:Nat) (hi:i<es.length),D (k+i)=true->es[i].dst=some t->(∀j (h:j<es.length),i<j->es[j].dst=some t->D (k+j)=false)->
  (SD D k s es).tmps t=es[i].v:=by
 intro es
 induction es with
 |nil=>grind
 |cons e es J=>
  intro k s i hi I u f;cases i with
  |zero=>
   simp only[JB] at I;simp only[JZ] at u ⊢;show (SD D (k+1) (cond (D k) (app s e) s) es).tmps t=e.v;rw[I];have hb:(app s e).tmps t=e.v:=by rw[J4,JQ u]
   rw[<- hb];have:=K5 (D:=D) (D':=fun _=>false) (t:=t) es (k+1) (app s e) (app s e) rfl (fun j L G=>by
    have:=f (j+1) (by grind) KI (by grind);grind)
   simp_all[Re]
  |succ i=>
   simp only[List.getElem_cons_succ] at u ⊢;exact J (k+1) _ i (by grind) (by grind) u (fun j L O G=>by
    have:=f (j+1) (by grind) KI (by grind);grind)
theorem bBj {D:Nat->Bool} {id:Nat}:∀(es:List (Ent U)) (k:Nat) (s:ASt U) (i:Nat) (hi:i<es.length),D (k+i)=true->wid es[i]=some id->(∀j (h:j<es.length),i<j->wid es[j]=some id->D (k+j)=false)->
  (SD D k s es).objs id=es[i].ob.map (·.2):=by
 intro es
 induction es with
 |nil=>grind
 |cons e es J=>
  intro k s i hi I u f;cases i with
  |zero=>
   simp only[JB] at I;simp only[JZ] at u ⊢;show (SD D (k+1) (cond (D k) (app s e) s) es).objs id=_;rw[I];have hb:(app s e).objs id=e.ob.map (·.2):=by rw[J5,JQ u]
   rw[<- hb];have:=K6 (D:=D) (D':=fun _=>false) (id:=id) es (k+1) (app s e) (app s e) rfl (fun j L G=>by
    have:=f (j+1) (by grind) KI (by grind);grind)
   simp_all[Re]
  |succ i=>
   simp only[List.getElem_cons_succ] at u ⊢;exact J (k+1) _ i (by grind) (by grind) u (fun j L O G=>by
    have:=f (j+1) (by grind) KI (by grind);grind)
theorem ASt.ext' {s s':ASt U} (j:∀t,s.tmps t=s'.tmps t) (f:∀id,s.objs id=s'.objs id):s=s':=by
 cases s;cases s';grind [ASt.mk.injEq]
def uR (x y:Ent U):Bool:=
 (match x.dst with
  |some d=>!y.looks.any (Nat.beq d)&&(match y.dst with
   |some e=>!Nat.beq d e
   |none=>true)
  |none=>true)&&
 (match y.dst with
  |some e=>!x.looks.any (Nat.beq e)
  |none=>true)&&
 (match x.ob with
  |some (i,_)=>!y.ids.any (Nat.beq i)&&(match y.ob with
   |some (j,_)=>!Nat.beq i j
   |none=>true)
  |none=>true)&&
 (match y.ob with
  |some (j,_)=>!x.ids.any (Nat.beq j)
  |none=>true)
def waits (o:Oper) (i:Nat):Bool:=o.after.toList.any fun e=>Region.binds .any e&&Nat.beq e.on i
def tH (ops:Array Oper):Nat->Oper->Nat->Bool
 |0,o,i=>waits o i
 |f+1,o,i=>waits o i||o.after.toList.any fun e=>Region.binds .any e&&(Nat.blt i e.on&&(match ops[e.on]? with
  |some j=>tH ops f j i
  |none=>false))
def A8 (ops:Array Oper) (o:Oper) (e:Ent U):Nat->List (Ent U)->Bool
 |_,[]=>true
 |i,x::xs=>(waits o i||uR x e||tH ops 3 o i)&&A8 ops o e (i+1) xs
def wR (ops:Array Oper):List Oper->List (Ent U)->List (Ent U)->Bool
 |[],_,_=>true
 |o::j,done,e::es=>(o.after.toList.all fun f=>!Region.binds .any f||Nat.blt f.on done.length)&&A8 ops o e 0 done&&wR ops j (done++[e]) es
 |_::_,_,[]=>false
def Y8:aC U->List Nat
 | .ptr id _=>[id]
 | .eptr id _ _ _ _=>[id]
 | .osl id _=>[id]
 | .msl id _ _=>[id]
 | .meptr id _ _ _ _ _=>[id]
 | .ovw id _ _ _ _=>[id]
 |_=>[]
def mentions:aC U->List Nat
 | .agg l=>l.flatMap Y8
 | .fn _ l=>l.flatMap Y8
 |c=>Y8 c
def qH (ids:List Nat) (f:Nat->Option (aT U)):Nat->Option (aT U):=fun id=>cond (ids.any (Nat.beq id)) (f id) none
def Gp (C:Cfg U) (o:Oper) (s:ASt U):List Nat:=
 match o.op with
 | .move _=>o.dst.toList.map (C.off+·)
 | .assign _=>o.dst.toList.map (C.off+·)
 |_=>o.dst.toList.map (C.off+·)++o.op.operands.toList.flatMap fun x=>mentions (s.eval x)
def pH (ops:Array Oper) (o:Oper):List Nat:=
 (o.op.operands.toList.filterMap fun | .tmp t=>some t|_=>none)++(match o.guard with
  |some (g,_)=>(qO ops g).toList
  |none=>[])
def both (cs:List Prop) (p:Prop):Prop:=
 match cs with
 |[]=>p
 |c::cs=>dZ (c::cs)/\p
def tG (C:Cfg U) (n:Nat) (ops:Array Oper):List Oper->List (Ent U)->ASt U->(List (Ent U)->ASt U->Prop)->Prop
 |[],es,s,K=>K es s
 |o::r,es,s,K=>
  let run (s:ASt U):Prop:=match sZ C.dm o s.eval (qH (Gp C o s) s.objs) with
   |some (u,v,ob)=>both u (tG C n ops r (es++[⟨o.dst,v,ob,pH ops o,Gp C o s⟩]) ((s.putObj ob).put o.dst v) K)
   |none=>False
  let skip (s:ASt U):Prop:=tG C n ops r (es++[⟨o.dst,.raw undef,none,pH ops o,[]⟩]) (s.put o.dst (.raw undef)) K
  cond (rL n o) (match o.guard with
   |none=>run s
   |some (g,f)=>match qO ops g with
    |none=>False
    |some d=>match s.look d with
     | .raw (.tuple j)=>cond (Nat.beq j.size 0) (skip s) False
     | .bool b=>match b with
      |true=>cond f (run (s.set d (.bool true))) (skip (s.set d (.bool true)))
      |false=>cond f (skip (s.set d (.bool false))) (run (s.set d (.bool false)))
     |_=>False) False
end
section
variable {U:eO} {n:Nat} {N:Nat->Prop} {w0:Fr} {w w':World} {ρ ρ':Own} {s s' s0:ASt U} {a:Act} {C:Cfg U} {ops:Array Oper}
def AL:Nat->Bool:=fun _=>true
theorem bBm (D:Nat->Bool):∀(es:List (Ent U)) (k:Nat) (s:ASt U) (e:Ent U),SD D k s (es++[e])=cond (D (k+es.length)) (app (SD D k s es) e) (SD D k s es):=by
 intro es
 induction es with
 |nil=>intro k s e;rfl
 |cons x es f=>
  grind [SD]
theorem aJX (es:List (Ent U)) (i:Nat):∀(k:Nat) (s:ASt U),SD AL k s (es.take i)=SD (fun j=>decide (j<k+i)) k s es:=by
 induction es generalizing i with
 |nil=>intro k s;simp[SD]
 |cons e es f=>
  intro k s;cases i with
  |zero=>
   grind [Re]
  |succ i=>
   grind [SD,AL]
def Jm (ops:Array Oper) (s:ASt U) (o:Oper):Prop:=
 o.guard=none\/∃g f d b,o.guard=some (g,f)/\qO ops g=some d/\s.look d=.bool b/\b=f
def Mi (ops:Array Oper) (s:ASt U) (o:Oper):Prop:=
 ∃g f d,o.guard=some (g,f)/\qO ops g=some d/\((∃j,s.look d=.raw (.tuple j)/\j.size=0)\/∃b,s.look d=.bool b/\b≠f)
theorem aKe {E:Enc U} (h:RR E n N w0 ρ s a w) {o:Oper} (hw:Jm ops s o):Region.wanted o (yielded ops a.tmps)=true:=by
 unfold Region.wanted;rcases hw with j|⟨g,f,d,b,u,G,hb,rfl⟩
 ·rw[j]
 grind [K9]
theorem aRr {E:Enc U} (h:RR E n N w0 ρ s a w) {o:Oper} (hw:Mi ops s o):Region.wanted o (yielded ops a.tmps)=false:=by
 unfold Region.wanted;obtain⟨g,G,d,J,f,hb⟩:=hw;rw[J];rcases hb with ⟨L,hv,I⟩|⟨b,hb,u⟩
 ·have j:=h.look d;rw[hv] at j;have O:yielded ops a.tmps g=none:=by
   generalize S:a.tmps.getD d undef=v at j;cases j;unfold yielded;unfold qO at f;rw[f];simp only[Option.bind_some];cases I:a.tmps[d]? with
   |none=>rfl
   |some v=>
    simp_all
  grind
 ·simp[K9 h f hb,u]
def j9 (C:Cfg U) (n:Nat) (ops:Array Oper) (s0:ASt U) (es:List (Ent U)) (i:Nat):Prop:=
 ∀h:i<es.length,∃o,ops[i]?=some o/\rL n o=true/\es[i].dst=o.dst/\es[i].looks=pH ops o/\
  ((∃f,Jm ops (SD AL 0 s0 (es.take i)) o/\sZ C.dm o (SD AL 0 s0 (es.take i)).eval (qH es[i].ids (SD AL 0 s0 (es.take i)).objs)=some (f,es[i].v,es[i].ob)/\dZ f/\∀d,o.dst=some d->C.off+d∈es[i].ids)\/
   (Mi ops (SD AL 0 s0 (es.take i)) o/\es[i].v=.raw undef/\es[i].ob=none))
theorem Hr {cs:List Prop} {p:Prop} (h:both cs p):dZ cs/\p:=by
 cases cs with
 |nil=>exact⟨trivial,h⟩
 |cons c cs=>exact h
theorem bBp {es:List (Ent U)} {e:Ent U} {i:Nat} (hi:i<es.length) (h:j9 C n ops s0 es i):j9 C n ops s0 (es++[e]) i:=by
 intro _;have e1:(es++[e])[i]'KI=es[i]:=KY hi;have f:(es++[e]).take i=es.take i:=by grind
 rw[f];simp only[e1];exact h hi
theorem ou:∀(r:List Oper) (es:List (Ent U)) (s:ASt U) (K:List (Ent U)->ASt U->Prop),(∀j,r[j]?=ops[es.length+j]?)->s=SD AL 0 s0 es->(∀i,i<es.length->j9 C n ops s0 es i)->tG C n ops r es s K->
  ∃f,f.length=es.length+r.length/\(∀i,i<f.length->j9 C n ops s0 f i)/\K f (SD AL 0 s0 f):=by
 intro r
 induction r with
 |nil=>
  intro es s K hr hs Z u;exact⟨es,XQ,Z,by rw[<- hs];exact u⟩
 |cons o r ih=>
  intro es s K hr hs Z u;have ho:ops[es.length]?=some o:=by simpa using (hr 0).symm
  have hr':∀(e:Ent U) j,r[j]?=ops[(es++[e]).length+j]?:=fun e j=>by
   have:=hr (j+1);grind
  have go:∀(e:Ent U) (s':ASt U),s'=app s e->(∃o,ops[es.length]?=some o/\rL n o=true/\e.dst=o.dst/\e.looks=pH ops o/\
    ((∃S,Jm ops s o/\sZ C.dm o s.eval (qH e.ids s.objs)=some (S,e.v,e.ob)/\dZ S/\∀d,o.dst=some d->C.off+d∈e.ids)\/(Mi ops s o/\e.v=.raw undef/\e.ob=none)))->
    tG C n ops r (es++[e]) s' K->∃f,f.length=es.length+(o::r).length/\(∀i,i<f.length->j9 C n ops s0 f i)/\K f (SD AL 0 s0 f):=fun e s' hs' hok hx'=>by
   obtain⟨f,h1,h2,h3⟩:=ih (es++[e]) s' K (hr' e) (by grind [bBm,AL]) (fun i hi=>by
    by_cases hc:i<es.length
    ·grind [bBp]
    ·have:i=es.length:=by grind
     subst this;intro _;grind) hx'
   grind
  unfold tG at u;have O:rL n o=true:=by
   grind
  rw[O] at u;simp only[QY] at u;have I:Jm ops s o->(match sZ C.dm o s.eval (qH (Gp C o s) s.objs) with
   |some (S,v,ob)=>both S (tG C n ops r (es++[⟨o.dst,v,ob,pH ops o,Gp C o s⟩]) ((s.putObj ob).put o.dst v) K)
   |none=>False)->∃f,f.length=es.length+(o::r).length/\(∀i,i<f.length->j9 C n ops s0 f i)/\K f (SD AL 0 s0 f):=fun hw u=>by
   split at u
   ·rename_i S v ob hop;obtain⟨hc,u⟩:=Hr u;refine go ⟨o.dst,v,ob,pH ops o,Gp C o s⟩ _ rfl ⟨o,ho,O,rfl,rfl,.inl ⟨S,hw,hop,hc,fun d L=>?_⟩⟩ u
    (unfold Gp;split<;>simp[L])
   grind
  have G:Mi ops s o->tG C n ops r (es++[⟨o.dst,.raw undef,none,pH ops o,[]⟩]) (s.put o.dst (.raw undef)) K->∃f,f.length=es.length+(o::r).length/\(∀i,i<f.length->j9 C n ops s0 f i)/\K f (SD AL 0 s0 f):=fun hw u=>
   go ⟨o.dst,.raw undef,none,pH ops o,[]⟩ _ rfl ⟨o,ho,O,rfl,rfl,.inr ⟨hw,rfl,rfl⟩⟩ u
  split at u
  ·rename_i hn;exact I (.inl hn) u
  ·rename_i g J V;split at u
   ·grind
   ·rename_i d L;split at u
    ·rename_i vs hv;cases hz:Nat.beq vs.size 0 with
     |false=>grind
     |true=>
      rw[hz] at u;exact G ⟨g,J,d,V,L,.inl ⟨vs,hv,QQ hz⟩⟩ u
    ·rename_i b hb;have e:s.set d (.bool b)=s:=by
      have hb:=(ak hb (fun e=>by cases e)).2;have:(s.set d (.bool b)).tmps=s.tmps:=funext fun t=>by
       show cond (Nat.beq t d) (.bool b) (s.tmps t)=s.tmps t;grind [fX]
      exact congrArg (ASt.mk · s.objs) this
     cases b<;>cases J
     ·simp only[QK,e] at u;exact I (.inr ⟨g,false,d,false,V,L,hb,rfl⟩) u
     ·simp only[QY,e] at u;exact G ⟨g,true,d,V,L,.inr ⟨false,hb,XQ⟩⟩ u
     ·simp only[QK,e] at u;exact G ⟨g,false,d,V,L,.inr ⟨true,hb,XQ⟩⟩ u
     ·simp only[QY,e] at u;exact I (.inr ⟨g,true,d,true,V,L,hb,rfl⟩) u
    grind
theorem aKh {ops:Array Oper} {o:Oper} {i:Nat} (f:Nat) (h:waits o i=true):tH ops f o i=true:=by
 cases f with
 |zero=>exact h
 |succ f=>rw[tH,h];rfl
theorem aZU {ops:Array Oper} {o:Oper} {e:Ent U}:∀(xs:List (Ent U)) (i:Nat),A8 ops o e i xs=true->∀j (h:j<xs.length),tH ops 3 o (i+j)=true\/uR xs[j] e=true:=by
 intro xs
 induction xs with
 |nil=>grind
 |cons x xs f=>
  intro i h j u;simp only[A8,QW,Bool.or_eq_true] at h;cases j with
  |zero=>
   grind [aKh]
  |succ j=>
   grind
theorem aZV {ops:Array Oper}:∀(os:List Oper) (done es:List (Ent U)),wR ops os done es=true->os.length=es.length->∀j (L:j<os.length) (u:j<es.length),
  (∀f∈os[j].after.toList,Region.binds .any f=true->f.on<done.length+j)/\∀i (hi:i<done.length+j),tH ops 3 os[j] i=true\/uR ((done++es)[i]'(by grind)) es[j]=true:=by
 intro os
 induction os with
 |nil=>grind
 |cons o os J=>
  intro done es h hlen j L u;cases es with
  |nil=>grind
  |cons e es=>
   simp only[wR,QW] at h;obtain⟨⟨V,S⟩,O⟩:=h;cases j with
   |zero=>
    refine⟨fun f I hb=>?_,fun i hi=>?_⟩
    ·have:=QT.1 V f I;simp_all
    ·have G:i<done.length:=KI;have:=aZU done 0 S i G;grind
   |succ j=>
    have:=J (done++[e]) es O (by grind) j (by grind) (by grind);grind
end
section
variable {U:eO} {n:Nat} {N:Nat->Prop} {w0:Fr} {w w':World} {ρ ρ':Own} {s s' s0:ASt U} {a:Act} {C:Cfg U} {ops:Array Oper}
theorem aTm {ids:List Nat} {f g:Nat->Option (aT U)} (h:∀id∈ids,f id=g id):qH ids f=qH ids g:=by
 grind [qH,Nat.eq_of_beq_eq_true]
theorem bBK {o:Oper} {J j:Operand->aC U} {look:Nat->Option (aT U)} (h:∀x∈o.op.operands,J x=j x):aop C o J look=aop C o j look:=by
 have G:∀ps:Array (Nat×Operand),(∀x∈(ps.toList.map (·.2)).toArray,J x=j x)->(ps.toList.map fun p=>(p.1,J p.2))=(ps.toList.map fun p=>(p.1,j p.2)):=fun ps hp=>
  List.map_congr_left fun p hm=>by
   grind
 obtain⟨dst,op,ty,pos,after,Z⟩:=o;unfold aop;cases op<;>simp only[Op.operands] at h<;>(try rfl)
 case move x=>grind
 case assign x=>grind
 case pick c x y=>grind
 case box t x=>grind
 case build t ps=>grind
 case buildSlice t m ps=>simp only[G ps h]
 case makeSlice t x y=>grind
 case load t x=>grind
 case store t x y=>grind
 case binOp op t x y t'=>grind
 case unOp op t x=>grind
 case nilCheck x=>grind
 case makeInterface t x=>grind
 case lookup t x y ok=>grind
 case makeFunc fn first L=>
  grind [List.map_congr_left]
 case fieldAddr t x f=>grind
 case field t x f=>grind
 case indexAddr t x y=>grind
 case index t x y=>grind
 case extract x i=>grind
 case convert s d x=>grind
 case slice t x lo hi mx=>
  cases mx with
  |some m=>rfl
  |none=>grind
 case call c=>
  obtain⟨V,u,O⟩:=c;have I:∀x∈u.toList,J x=j x:=fun x hx=>h x (by grind [Call.operands])
  have S:u.toList.map J=u.toList.map j:=List.map_congr_left I;simp only[S];grind [Call.operands]
theorem bBO {o:Oper} {u f:Operand->aC U} {look:Nat->Option (aT U)} (h:∀x∈o.op.operands,u x=f x):Co C o u look=Co C o f look:=by
 have J:∀ps:Array (Nat×Operand),(∀x∈(ps.toList.map (·.2)).toArray,u x=f x)->(ps.toList.map fun p=>(p.1,u p.2))=(ps.toList.map fun p=>(p.1,f p.2)):=fun ps hp=>
  List.map_congr_left fun p hm=>by
   grind
 obtain⟨dst,op,Z,pos,S,O⟩:=o;unfold Co;cases op<;>simp only[Op.operands] at h<;>(try rfl)
 case buildSlice t m ps=>grind
 case store t x y=>grind
 case indexAddr t x y=>grind
 case slice t x lo hi V=>
  cases V with
  |some m=>rfl
  |none=>grind
 case call c=>
  obtain⟨I,G,j⟩:=c;have L:∀x∈G.toList,u x=f x:=fun x hx=>h x (by grind [Call.operands])
  simp only;split
  ·grind
  ·grind
  ·rfl
theorem bBM {o:Oper} {j f:Operand->aC U} {look:Nat->Option (aT U)} (h:∀x∈o.op.operands,j x=f x):zP C o j look=zP C o f look:=by
 grind [zP,bBO,List.map_congr_left]
theorem bBP {o:Oper} {j f:Operand->aC U} {look:Nat->Option (aT U)} (h:∀x∈o.op.operands,j x=f x):sZ C o j look=sZ C o f look:=by
 grind [sZ,bBK,bBM]
structure Rf (ops:Array Oper) (es:List (Ent U)):Prop where
 len:es.length=ops.size
 pre:∀j o,ops[j]?=some o->∀ed∈o.after,Region.binds .any ed=true->ed.on<j
 pair:∀i j (hi:i<es.length) (hj:j<es.length) o,i<j->ops[j]?=some o->tH ops 3 o i=true\/uR es[i] es[j]=true
theorem zr {es:List (Ent U)} (h:wR ops ops.toList [] es=true) (u:es.length=ops.size):Rf ops es:=by
 have G:=aZV (ops:=ops) ops.toList [] es h (by grind);refine⟨u,fun j o ho S O hb=>?_,fun i j hi f o L ho=>?_⟩
 ·have f:j<ops.size:=(QD.1 ho).1;simp_all
 ·have J:j<ops.size:=KI;have I:=(QD.1 ho).2;have:=(G j KI f).2 i KI;grind
theorem aKg {o:Oper} {i:Nat} (h:waits o i=true):∃f∈o.after,Region.binds .any f=true/\f.on=i:=by
 obtain⟨f,j,hb⟩:=KV.1 h;grind [Nat.eq_of_beq_eq_true]
def Jh (ops:Array Oper) (D:Nat->Bool):Prop:=∀j o,ops[j]?=some o->D j=true->∀f∈o.after,Region.binds .any f=true->D f.on=true
theorem L4 {D:Nat->Bool} (hcl:Jh ops D) {i:Nat}:∀(f:Nat) (o:Oper),(∀j∈o.after,Region.binds .any j=true->D j.on=true)->tH ops f o i=true->D i=true:=by
 have O:∀o:Oper,(∀j∈o.after,Region.binds .any j=true->D j.on=true)->waits o i=true->D i=true:=fun o hp hw=>by
  grind [aKg]
 intro f
 induction f with
 |zero=>exact O
 |succ f J=>
  intro o hp hw;rw[tH,Bool.or_eq_true] at hw;rcases hw with hw|hw
  ·grind
  ·obtain⟨j,S,hb⟩:=KV.1 hw;simp only[QW] at hb;obtain⟨hb,_,G⟩:=hb;have L:=hp j (by grind) hb;split at G
   ·rename_i I u;exact J I (hcl _ _ u L) G
   grind
theorem Cp {l:List Nat} {d:Nat}:l.any (Nat.beq d)=true↔d∈l:=by
 simp_all
theorem Xi {es:List (Ent U)} (hm:Rf ops es) {D:Nat->Bool} (hcl:Jh ops D) {i:Nat} (hun:D i=false) {j:Nat} (I:j<es.length) (hw:∀G,ops[j]?=some G->tH ops 3 G i=true):D j=false:=by
 have u:j<ops.size:=by rw[<- hm.len];exact I
 have f:ops[j]?=some ops[j]:=Array.getElem?_eq_getElem u;cases J:D j with
 |false=>rfl
 |true=>
  have:=L4 hcl 3 _ (hcl j _ f J) (hw _ f);grind
theorem aYs {i:Nat} {f g:Nat->Bool}:∀(m:Nat),i<m->f i=true->g i=false->(∀k,k<m->k≠i->g k=f k)->(List.range m).countP g+1=(List.range m).countP f:=by
 intro m
 induction m with
 |zero=>omega
 |succ m j=>
  grind [List.range_succ,List.countP_congr]
section
variable {es:List (Ent U)} (hm:Rf ops es) {D:Nat->Bool} (hcl:Jh ops D) {i:Nat} (hi:i<es.length) (hun:D i=false) {o:Oper} (ho:ops[i]?=some o)
 (hpre:∀ed∈o.after,Region.binds .any ed=true->D ed.on=true)
include hm hcl hun ho hpre
theorem bBk {t:Nat} (L:t∈es[i].looks):(SD D 0 s0 es).tmps t=(SD AL 0 s0 (es.take i)).tmps t:=by
 rw[aJX];refine K5 es 0 s0 s0 rfl (fun k f O=>?_);simp only[JD];rcases Nat.lt_trichotomy k i with u|rfl|G
 ·have e:decide (k<i)=true:=by grind
  rw[e];rcases hm.pair k i f hi o u ho with hw|I
  ·grind [L4]
  grind [uR,Cp]
 ·grind
 ·have e:decide (k<i)=false:=by grind
  rw[e];refine Xi hm hcl hun f (fun J j=>?_);rcases hm.pair i k hi f J G j with hw|I
  ·exact hw
  grind [uR,Cp]
theorem bBl {id:Nat} (O:id∈es[i].ids):(SD D 0 s0 es).objs id=(SD AL 0 s0 (es.take i)).objs id:=by
 rw[aJX];refine K6 es 0 s0 s0 rfl (fun k j S=>?_);simp only[JD];have f:∃x,es[k].ob=some (id,x):=by
  simp_all[wid]
 obtain⟨x,f⟩:=f;rcases Nat.lt_trichotomy k i with G|rfl|I
 ·have e:decide (k<i)=true:=by grind
  rw[e];rcases hm.pair k i j hi o G ho with hw|J
  ·grind [L4]
  grind [uR,Cp]
 ·grind
 ·have e:decide (k<i)=false:=by grind
  rw[e];refine Xi hm hcl hun j (fun L u=>?_);rcases hm.pair i k hi j L I u with hw|J
  ·exact hw
  grind [uR,Cp]
end
theorem bBi {es:List (Ent U)} (hm:Rf ops es) {D:Nat->Bool} (hcl:Jh ops D) {i:Nat} (hi:i<es.length) (hun:D i=false) {D':Nat->Bool} (u:∀k,k<es.length->D' k=(D k||decide (k=i))):app (SD D 0 s0 es) es[i]=SD D' 0 s0 es:=by
 have hD'i:D' i=true:=by grind
 refine ASt.ext' (fun t=>?_) (fun id=>?_)
 ·rw[J4]
  by_cases I:es[i].dst=some t
  ·rw[JQ I];refine(bBh es 0 s0 i hi (by grind) I (fun j G L Z=>?_)).symm;rw[JD,u j G];have f:¬j=i:=KI;simp only[f,decide_false,Bool.or_false];refine Xi hm hcl hun G (fun O J=>?_);rcases hm.pair i j hi G O L J with hw|hap
   ·exact hw
   grind [uR,Nat.beq_refl]
  ·rw[QF I];refine K5 es 0 s0 s0 rfl (fun k S V=>?_);rw[JD,u k S];have f:¬k=i:=fun e=>by grind
   grind
 ·rw[J5]
  by_cases I:wid es[i]=some id
  ·rw[JQ I];refine(bBj es 0 s0 i hi (by grind) I (fun j G L Z=>?_)).symm;rw[JD,u j G];have f:¬j=i:=KI;simp only[f,decide_false,Bool.or_false];refine Xi hm hcl hun G (fun O J=>?_);rcases hm.pair i j hi G O L J with hw|hap
   ·exact hw
   grind [wid,uR,Nat.beq_refl]
  ·rw[QF I];refine K6 es 0 s0 s0 rfl (fun k S V=>?_);rw[JD,u k S];have f:¬k=i:=fun e=>by grind
   grind
theorem aT4 {o:Oper} {x:Operand} (j:x∈o.op.operands) {t:Nat} (f:x=.tmp t):t∈pH ops o:=by
 unfold pH;refine QO.2 (.inl (List.mem_filterMap.2 ⟨x,by grind,by rw[f]⟩))
theorem aEs {o:Oper} {g d:Nat} {f:Bool} (j:o.guard=some (g,f)) (u:qO ops g=some d):d∈pH ops o:=by
 grind [pH]
theorem aIW (hs:fY C w0) {es:List (Ent U)} (hm:Rf ops es) (hes:∀i,i<es.length->j9 C n ops s0 es i) {Q:Exit->Act->World->Prop}
  (hK:∀ρ a w,RR C.E n N w0 ρ (SD AL 0 s0 es) a w->Q .normal a w):
  ∀(fuel:Nat) (G:Array Bool) (ρ:Own) (a:Act) (w:World),G.size=ops.size->((List.range ops.size).countP fun k=>!G.getD k true)<=fuel->Jh ops (fun k=>G.getD k true)->
   RR C.E n N w0 ρ (SD (fun k=>G.getD k true) 0 s0 es) a w->wpAny C.P .any ops Q fuel G a w:=by
 have done:∀(G:Array Bool),(∀k,k<ops.size->G.getD k true=true)->SD (fun k=>G.getD k true) 0 s0 es=SD AL 0 s0 es:=fun G h=>by
  refine ASt.ext' (fun t=>K5 es 0 s0 s0 rfl (fun k Z _=>?_)) (fun id=>K6 es 0 s0 s0 rfl (fun k Z _=>?_))
  ·rw[JD];exact h k (by rw[<- hm.len];exact Z)
  ·rw[JD];exact h k (by rw[<- hm.len];exact Z)
 have ready_nil:∀(G:Array Bool),G.size=ops.size->Region.ready .any ops G=[]->∀k,k<ops.size->G.getD k true=true:=fun G hsz hr k=>by
  induction k using Nat.strongRecOn with
  |_ k ih=>
   intro Z;cases hc:G.getD k true with
   |true=>rfl
   |false=>
    have hok:ops[k]?=some ops[k]:=Array.getElem?_eq_getElem Z;have:k∈Region.ready .any ops G:=mem_ready.2 ⟨hc,ops[k],hok,fun e he hb=>by
     have hlt:=hm.pre k _ hok e he hb;grind⟩
    grind
 intro fuel
 induction fuel with
 |zero=>
  intro G ρ a w hsz hcount hcl hR;have hall:∀k,k<ops.size->G.getD k true=true:=fun k Z=>by
   simp_all
  refine⟨?_,hK ρ a w (by simp_all)⟩;rw[List.eq_nil_iff_forall_not_mem];grind [mem_ready]
 |succ fuel ih=>
  intro G ρ a w hsz hcount hcl hR;refine⟨fun h0=>hK ρ a w (by simp_all),fun i hi=>?_⟩;obtain⟨hun,o,ho,hpre⟩:=mem_ready.1 hi;have his:i<ops.size:=(QD.1 ho).1;have J:i<es.length:=by rw[hm.len];omega
  have O:∀ed∈o.after,Region.binds .any ed=true->(fun k=>G.getD k true) ed.on=true:=fun ed hed hb=>by
   grind
  obtain⟨o',ho',hdo,hdst,hlooks,hcase⟩:=hes i J J;rw[ho] at ho';obtain rfl:=QU ho'
  -- the state when i is done too
  have I:∀k,k<es.length->(G.setIfInBounds i true).getD k true=(G.getD k true||decide (k=i)):=fun k Z=>by
   have hks:k<G.size:=by rw[hsz,<- hm.len];exact Z
   by_cases hki:k=i
   ·simp_all
   simp_all[Ne.symm]
  have hstep:=bBi (s0:=s0) hm hcl J hun (D':=fun k=>(G.setIfInBounds i true).getD k true) I;have hcl':Jh ops (fun k=>(G.setIfInBounds i true).getD k true):=fun j oj hoj hD ed hed hb=>by
   have hjs:j<ops.size:=(QD.1 hoj).1;have hlt:=hm.pre j oj hoj ed hed hb;have h1:=I j (by rw[hm.len];omega);have h2:=I ed.on (by rw[hm.len];omega);simp only at hD ⊢;rw[h1] at hD;rw[h2];simp only[Bool.or_eq_true,JN] at hD ⊢;rcases hD with hD|rfl
   ·exact .inl (hcl j oj hoj hD ed hed hb)
   grind
  have V:((List.range ops.size).countP fun k=>!(G.setIfInBounds i true).getD k true)<=fuel:=by
   have h1:=aYs (i:=i) (f:=fun k=>!G.getD k true) (g:=fun k=>!(G.setIfInBounds i true).getD k true) ops.size his (by grind) (by
    grind) (fun k Z hne=>by
    have:=I k (by rw[hm.len];exact Z);grind)
   omega
  have S:∀ρ' a' w',RR C.E n N w0 ρ' (app (SD (fun k=>G.getD k true) 0 s0 es) es[i]) a' w'->wpAny C.P .any ops Q fuel (G.setIfInBounds i true) a' w':=fun ρ' a' w' hR'=>
   ih _ ρ' a' w' (by grind) V hcl' (by grind)
  have htm:∀t∈pH ops o,(SD (fun k=>G.getD k true) 0 s0 es).tmps t=(SD AL 0 s0 (es.take i)).tmps t:=fun t ht=>bBk hm hcl J hun ho O (by grind)
  have hlkt:∀t∈pH ops o,(SD (fun k=>G.getD k true) 0 s0 es).look t=(SD AL 0 s0 (es.take i)).look t:=fun t ht=>by
   grind [ASt.look]
  unfold wpOp;simp only[ho];rcases hcase with ⟨cs,hw,hop,hc,hdid⟩|⟨hw,hv,hob⟩
  ·have hw':Jm ops (SD (fun k=>G.getD k true) 0 s0 es) o:=by
    rcases hw with hn|⟨g,L,d,b,hg,hd,hb,he⟩
    ·exact .inl hn
    ·exact .inr ⟨g,L,d,b,hg,hd,by grind [aEs],he⟩
   rw[JQ (aKe hR hw')];refine .inl ?_;have hev:∀x∈o.op.operands,(SD (fun k=>G.getD k true) 0 s0 es).eval x=(SD AL 0 s0 (es.take i)).eval x:=fun x hx=>by
    cases x with
    |tmp t=>exact hlkt t (aT4 hx rfl)
    |_=>rfl
   have hlk:qH es[i].ids (SD (fun k=>G.getD k true) 0 s0 es).objs=qH es[i].ids (SD AL 0 s0 (es.take i)).objs:=
    aTm (fun id hid=>bBl hm hcl J hun ho O hid)
   have hop':sZ C.dm o (SD (fun k=>G.getD k true) 0 s0 es).eval (qH es[i].ids (SD (fun k=>G.getD k true) 0 s0 es).objs)=some (cs,es[i].v,es[i].ob):=by
    grind [bBP]
   refine aIV (C:=C.dm) hs hR (fun id ob h=>?_) (fun d hd h=>?_) (wP hdo) hop' hc (fun ρ' u w' hR'=>S ρ' _ w' ?_)
   ·grind [qH]
   ·change qH es[i].ids _ (C.off+d)=none at h;unfold qH at h;rw[Cp.2 (hdid d hd)] at h;exact h
   ·unfold app;rw[hdst];exact hR'
  ·have hw':Mi ops (SD (fun k=>G.getD k true) 0 s0 es) o:=by
    obtain⟨g,L,d,hg,hd,hb⟩:=hw;have e:=hlkt d (aEs hg hd);refine⟨g,L,d,hg,hd,?_⟩;grind
   rw[QF (by grind [aRr])];refine S ρ _ w ?_;unfold app;rw[hdst,hv,hob];exact hR.put o.dst (wP hdo) (.raw _)
theorem aYT (O:fY C w0) (f:C.P.follows .mixedOrders=true) {id:Nat} {Q:Exit->Act->World->Prop} (h:RR C.E n N w0 ρ s0 a w) {K:ASt U->Prop}
  (L:tG C n ops ops.toList [] s0 (fun es s'=>wR ops ops.toList [] es=true/\K s')) (V:∀s' ρ' a' w',K s'->RR C.E n N w0 ρ' s' a' w'->Q .normal a' w'):(Code.region id ops true).wp C.P Q a w:=by
 obtain⟨es,J,G,u,I⟩:=ou (s0:=s0) ops.toList [] s0 _ (fun j=>XQ) rfl (fun i hi=>absurd hi XQ) L;have S:es.length=ops.size:=by grind
 refine wp_region_any f (aIW (N:=N) (w0:=w0) O (zr u S) G (fun ρ' a' w' hR=>V _ ρ' a' w' I hR) ops.size (Array.replicate ops.size false) ρ a _ XQ ?_ ?_ ?_)
 ·grind [List.countP_le_length]
 ·intro j o ho hD;have Z:j<ops.size:=(QD.1 ho).1;simp_all
 ·have:SD (fun k=>(Array.replicate ops.size false).getD k true) 0 s0 es=s0:=Re es 0 s0 (fun i hi=>by
   simp_all)
  rw[this];exact h.drew
end
inductive Slot where
 |tmp (t:Nat)
 |cell (id off:Nat)
structure Canon (U:eO) where
 keep:List Nat
 cells:List Nat
 own:List (Slot×Nat×U.τ)
 soft:List (Slot×U.τ)
 deep:List Nat:=[]
section
variable {U:eO}
def yQ (p:Nat->Bool):aC U->Bool
 | .ptr id _=>p id
 | .eptr _ _ _ _ _=>false
 | .osl id _=>p id
 | .ovw id _ _ _ _=>p id
 | .any=>true
 |c=>stays 4 c
def T0 (p:Nat->Bool):aC U->Bool
 | .agg l=>l.all (yQ p)
 | .tup l=>l.all (yQ p)
 | .fn _ l=>l.all (yQ p)
 | .ref l _=>l.all (yQ p)
 |c=>yQ p c
def Ky (s:ASt U):Slot->Option (aC U)
 | .tmp t=>some (s.tmps t)
 | .cell id off=>match s.objs id with
  |some (.cells l)=>l[off]?
  |_=>none
def N8 (s:ASt U) (sl:Slot) (τ:U.τ) (d:Bool):Option (Option Nat×List (U.T τ)):=
 match Ky s sl with
 |some .nils=>cond (!d||Nat.beq (U.size τ) 1) (some (none,[])) none
 |some (.osl j g)=>match s.objs j with
  |some (.row t u xs)=>cond (Nat.beq g u&&!d) (match oD τ t xs with
   |some f=>some (some j,f)
   |none=>none) none
  |some (.deep t u _ xs)=>cond (Nat.beq g u&&d) (match oD τ t xs with
   |some f=>some (some j,f)
   |none=>none) none
  |_=>none
 |_=>none
def Gm (own:List (Slot×Nat×U.τ)) (t:Nat):Option Nat:=
 match own with
 |[]=>none
 | (.tmp t',id,_)::r=>cond (Nat.beq t t') (some id) (Gm r t)
 |_::r=>Gm r t
def wC (own:List (Slot×Nat×U.τ)) (i k:Nat):Option Nat:=
 match own with
 |[]=>none
 | (.cell j f,id,_)::r=>cond (Nat.beq i j&&Nat.beq k f) (some id) (wC r i k)
 |_::r=>wC r i k
def S5 (own:List (Slot×Nat×U.τ)) (i k:Nat) (c:aC U):aC U:=
 match wC own i k with
 |some id=>.osl id 0
 |none=>c
def patch (own:List (Slot×Nat×U.τ)) (i:Nat):Nat->List (aC U)->List (aC U)
 |_,[]=>[]
 |k,c::f=>S5 own i k c::patch own i (k+1) f
def Mf (own:List (Slot×Nat×U.τ)) (i:Nat) (p:Nat->Bool):Nat->List (aC U)->Bool
 |_,[]=>true
 |k,c::f=>(match wC own i k with
  |some _=>true
  |none=>yQ p c)&&Mf own i p (k+1) f
def Xs (s:ASt U) (own:List (Slot×Nat×U.τ)) (p:Nat->Bool):List Nat->Option (Nat->aC U)
 |[]=>some fun _=>.any
 |t::j=>match Xs s own p j with
  |some f=>match Gm own t with
   |some id=>some fun u=>cond (Nat.beq u t) (.osl id 0) (f u)
   |none=>cond (T0 p (s.tmps t)) (some fun u=>cond (Nat.beq u t) (s.tmps t) (f u)) none
  |none=>none
def Bj (s:ASt U) (own:List (Slot×Nat×U.τ)) (p:Nat->Bool):List Nat->Option (Nat->Option (aT U))
 |[]=>some fun _=>none
 |i::j=>match Bj s own p j,s.objs i with
  |some f,some (.cells l)=>cond (Mf own i p 0 l) (some fun u=>cond (Nat.beq u i) (some (.cells (patch own i 0 l))) (f u)) none
  |some f,some (.row t g xs)=>some fun u=>cond (Nat.beq u i) (some (.row t g xs)) (f u)
  |some f,some (.opq k d)=>some fun u=>cond (Nat.beq u i) (some (.opq k d)) (f u)
  |some f,some (.rowF t g xs k m G)=>cond (p m) (some fun u=>cond (Nat.beq u i) (some (.rowF t g xs k m G)) (f u)) none
  |_,_=>none
def Nx (s:ASt U) (G:List Nat) (f:Nat->Option (aT U)):List (Slot×Nat×U.τ)->Option ((Nat->Option (aT U))×List Nat)
 |[]=>some (f,[])
 | (sl,id,τ)::r=>match Nx s G f r,N8 s sl τ (G.any (Nat.beq id)) with
  |some (h,I),some (j,xs)=>match h id with
   |none=>match j with
    |some j=>cond (I.any (Nat.beq j)||(f j).isSome) none (some (fun u=>cond (Nat.beq u id) (some (eA.obj ⟨G.any (Nat.beq id),τ,xs⟩)) (h u),j::I))
    |none=>some (fun u=>cond (Nat.beq u id) (some (eA.obj ⟨G.any (Nat.beq id),τ,xs⟩)) (h u),I)
   |some _=>none
  |_,_=>none
def Ua (τ:U.τ):aC U->aC U
 | .nils=>.sl τ []
 |x=>x
def vE (τ:U.τ):Nat->List (aC U)->List (aC U)
 |_,[]=>[]
 |0,c::f=>Ua τ c::f
 |k+1,c::f=>c::vE τ k f
def N6 (s:ASt U):Slot×U.τ->ASt U
 | (.tmp t,τ)=>⟨fun u=>cond (Nat.beq u t) (Ua τ (s.tmps t)) (s.tmps u),s.objs⟩
 | (.cell i k,τ)=>match s.objs i with
  |some (.cells l)=>⟨s.tmps,fun u=>cond (Nat.beq u i) (some (.cells (vE τ k l))) (s.objs u)⟩
  |_=>s
def Tz:List (Slot×U.τ)->ASt U->ASt U
 |[],s=>s
 |x::l,s=>Tz l (N6 s x)
def ji (s:ASt U) (j:Nat):ASt U:=
 match s.objs j with
 |some (.rowF t g xs i m G)=>match s.objs m with
  |some (.row u f I)=>match Nat.beq G f,U.unsl t u I with
   |true,some y=>(s.obj m (.row u (G+1) [])).obj j (.row t g (xs.set i y))
   |_,_=>s
  |_=>s
 |some (.deepF t g G xs m J)=>match s.objs m with
  |some (.row u f I)=>match Nat.beq J f,U.unsl t u I with
   |true,some y=>(s.obj m (.row u (J+1) [])).obj j (.deep t g G (xs++[y]))
   |_,_=>s
  |_=>s
 |_=>s
def jh (s:ASt U) (x:Slot×Nat×U.τ):ASt U:=
 match Ky s x.1 with
 |some (.osl j _)=>ji s j
 |_=>s
def Zd:List (Slot×Nat×U.τ)->ASt U->ASt U
 |[],s=>s
 |x::l,s=>Zd l (jh s x)
def aIE (m:Canon U) (s:ASt U):Option (ASt U):=
 match Xs s m.own (fun i=>m.cells.any (Nat.beq i)) m.keep,Bj s m.own (fun i=>m.cells.any (Nat.beq i)) m.cells with
 |some f,some g=>match Nx s m.deep g m.own with
  |some (h,_)=>some ⟨f,h⟩
  |none=>none
 |_,_=>none
def canon (m:Canon U) (s:ASt U):Option (ASt U):=aIE m (Zd m.own (Tz m.soft s))
end
section
variable {U:eO} {E:Enc U} {n:Nat} {N:Nat->Prop} {w0:Fr} {w w':World} {ρ ρ':Own} {s s':ASt U} {a:Act}
theorem Aw {st st':Nat->Prop} {p:Nat->Bool} {x:aC U} {v:Value} (j:yQ p x=true) (I:∀id g u,p id=true->ρ id=some (g,u)->ρ' id=some (g,u)) (O:∀b,st b->st' b)
  (h:Rel E w ρ st x v):Rel E w ρ' st' x v:=by
 have G:stays 4 x=true->Rel E w ρ' st' x v:=fun hf=>(ss (ρ':=fun _=>none) 4 _ _ hf h).mono (fun b hb=>⟨O b hb,rfl⟩) (fun _ _ _ f=>by cases f)
 cases x with
 |ptr id off=>
  cases h with
  |ptr _ _ b hb=>exact .ptr id off b (I _ _ _ j hb)
 |any=>exact .any _
 |eptr=>cases j
 |osl id g=>
  cases h with
  |osl _ _ u f hp=>exact .osl id g _ (I _ _ _ j f) hp
  |oslOld _ _ L u v f J=>exact .oslOld id g L u _ (I _ _ _ j f) J
 |ovw id g lo hi V=>
  cases h with
  |ovw _ _ _ _ _ u ad c f hp Z S=>exact .ovw id g lo hi V u ad c (I _ _ _ j f) hp Z S
  |ovwOld _ _ _ _ _ L u v f J=>exact .ovwOld id g lo hi V L u _ (I _ _ _ j f) J
 |_=>exact G j
theorem aRj {st st':Nat->Prop} {p:Nat->Bool} {x:aC U} {v:Value} (O:T0 p x=true) (L:∀id g u,p id=true->ρ id=some (g,u)->ρ' id=some (g,u)) (j:∀b,st b->st' b)
  (h:Rel E w ρ st x v):Rel E w ρ' st' x v:=by
 cases x with
 |agg l=>
  cases h with
  |agg _ J S I=>exact .agg l J S (fun k G=>Aw (QT.1 O _ (QH G)) L j (I k G))
 |tup l=>
  cases h with
  |tup _ J S I=>exact .tup l J S (fun k G=>Aw (QT.1 O _ (QH G)) L j (I k G))
 |fn f l=>
  cases h with
  |fn _ _ J S I=>exact .fn f l J S (fun k G=>Aw (QT.1 O _ (QH G)) L j (I k G))
 |ref l off=>
  cases h with
  |ref _ _ b o f hb V I=>exact .ref l off b o f (j b hb) V (fun k G=>Aw (QT.1 O _ (QH G)) L j (I k G))
 |_=>exact Aw O L j h
def nr (F:Fr) (s:ASt U) (ρ:Own) (a:Act) (w:World):Slot->Value->Prop
 | .tmp t,u=>a.kE F t=u
 | .cell i k,u=>∃l b c f,s.objs i=some (.cells l)/\ρ i=some (0,.pointer (some ⟨b,0,none⟩))/\w.heap[b]?=some (.cells c f (0,0))/\k<l.length/\c.getD k undef=u
theorem N7 (h:RR E n N w0 ρ s a w) {sl:Slot} {x:aC U} (hv:Ky s sl=some x):∃u,nr w0 s ρ a w sl u/\Rel E w ρ (aD N ρ w) x u:=by
 cases sl with
 |tmp t=>
  simp only[Ky,QJ] at hv;subst hv;exact⟨_,rfl,h.tmps t⟩
 |cell i k=>
  simp only[Ky] at hv;split at hv
  ·rename_i l f;obtain⟨b,c,j,J,V,I,S,O⟩:=h.objs _ _ f;have G:=(JF.1 hv).1;have L:=(JF.1 hv).2;refine⟨_,⟨l,b,c,j,f,J,I,G,rfl⟩,?_⟩;grind
  grind
def bBn (E:Enc U) (N:Nat->Prop) (w0:Fr) (ρ:Own) (w:World) (j:Option Nat) (x:eA U) (u:Value):Prop:=
 ∃f:Own,f (.ob 0)=some (0,u)/\(∀nm v q,f nm=some (q,v)->nm.id=0/\q=0)/\(∀i,f (.mem 0 i)=match x.1,j with
   |true,some j=>(ρ (.mem j i)).map fun p=>(0,p.2)
   |_,_=>none)/\gF E w f (aD N ρ w) w0.heap.size 0 x.obj
theorem Zh {ρ ρ':Own} {st:Nat->Prop} {c:aC U} {v:Value} (f:c.flat=true) (h:Rel E w ρ st c v):Rel E w ρ' st c v:=h.flat f
theorem aMU (h:RR E n N w0 ρ s a w) {sl:Slot} {τ:U.τ} {d:Bool} {j:Option Nat} {xs:List (U.T τ)} (f:N8 s sl τ d=some (j,xs)):
  ∃u,nr w0 s ρ a w sl u/\(∀a,u≠ .pointer a)/\bBn E N w0 ρ w j ⟨d,τ,xs⟩ u/\(j=none->u=.slice none 0 0)/\∀i,j=some i->∃g ob,ρ i=some (g,u)/\s.objs i=some ob:=by
 unfold N8 at f;split at f
 ·rename_i hv;have I:=cC f;clear f;obtain⟨hb,f⟩:=I;simp only[QJ,QX] at f;obtain⟨rfl,rfl⟩:=f;obtain⟨u,S,G⟩:=N7 h hv;cases G;refine⟨_,S,(fun a e=>by cases e),⟨fun nm=>match nm with | .ob 0=>some (0,.slice none 0 0)|_=>none,rfl,fun nm v q f=>?_,fun i=>?_,?_⟩,(fun _=>rfl),(fun i e=>by cases e)⟩
  ·simp only at f;split at f
   ·cases f;exact⟨rfl,rfl⟩
   grind
  ·grind
  ·cases d with
   |false=>exact⟨_,[],rfl,(fun a e=>by cases e),JV _ _ _ _,fun i hi=>absurd hi XQ⟩
   |true=>
    refine⟨_,[],rfl,(fun a e=>by cases e),JV _ _ _ _,?_,fun _ _=>rfl,fun i hi=>absurd hi XQ⟩;simp_all
 ·rename_i j' g hv;split at f
  ·rename_i t g' ys hl;have I:=cC f;clear f;obtain⟨hb,f⟩:=I;simp only[QW,KH] at hb;obtain⟨cJ,rfl⟩:=hb;obtain rfl:=QQ cJ;split at f
   ·rename_i zs hz;simp only[QJ,QX] at f;obtain⟨rfl,rfl⟩:=f;obtain⟨rfl,rfl⟩:=oV hz;obtain⟨u,S,G⟩:=N7 h hv;obtain⟨J,cs,h1,hp,h2,h3⟩:=h.objs _ _ hl;have L:J=u:=by
     cases G with
     |osl _ _ Z O hp'=>
      grind
     |oslOld _ _ g' Z v O hg=>
      grind
    subst L;refine⟨J,S,hp,⟨fun nm=>match nm with | .ob 0=>some (0,J)|_=>none,rfl,fun nm v q f=>?_,fun i=>rfl,⟨J,cs,rfl,hp,h2,fun i hi k V=>Zh (E.enc_flat _ _ _ (QH V)).1 (h3 i hi k V)⟩⟩,(fun e=>by cases e),fun i e=>?_⟩
    ·simp only at f;split at f
     ·cases f;exact⟨rfl,rfl⟩
     grind
    grind
   grind
  ·rename_i t g' gm ys hl;have I:=cC f;clear f;obtain⟨hb,f⟩:=I;simp only[QW] at hb;obtain⟨cJ,rfl⟩:=hb;obtain rfl:=QQ cJ;split at f
   ·rename_i zs hz;simp only[QJ,QX] at f;obtain⟨rfl,rfl⟩:=f;obtain⟨rfl,rfl⟩:=oV hz;obtain⟨u,S,G⟩:=N7 h hv;obtain⟨J,cs,h1,hp,h2,hs,hno,h3⟩:=h.objs _ _ hl;have L:J=u:=by
     cases G with
     |osl _ _ Z O hp'=>
      grind
     |oslOld _ _ g' Z v O hg=>
      grind
    subst L;refine⟨J,S,hp,⟨fun nm=>match nm with | .ob 0=>some (0,J) | .mem 0 i=>(ρ (.mem j' i)).map (fun p=>(0,p.2))|_=>none,rfl,fun nm v q f=>?_,fun i=>rfl,⟨J,cs,rfl,hp,h2,hs,fun i hi=>?_,fun i hi=>?_⟩⟩,(fun e=>by cases e),fun i e=>?_⟩
    ·simp only at f;split at f
     ·cases f;exact⟨rfl,rfl⟩
     ·simp only[Option.map_eq_some_iff] at f;obtain⟨p,_,e⟩:=f;cases e;exact⟨rfl,rfl⟩
     grind
    ·grind
    ·obtain⟨t1,Jj,v1,ds,r1,r2,r3,r4,r5,r6⟩:=h3 i hi;exact⟨t1,Jj,v1,ds,r1,by grind,r3,r4,r5,fun i hi k V=>Zh (E.enc_flat _ _ _ (QH V)).1 (r6 i hi k V)⟩
    grind
   grind
  grind
 grind
structure Pack (E:Enc U) (n:Nat) (N:Nat->Prop) (w0:Fr) (ρ:Own) (s:ASt U) (a:Act) (w:World) (g:Nat->Option (aT U)) (own:List (Slot×Nat×U.τ)) (h:Nat->Option (aT U)) (js:List Nat)
  (ρ':Own) (sg:Nat->Option Nat):Prop where
 obs:∀id ob,h id=some ob->(g id=some ob/\∀nm:Name,nm.id=id->ρ' nm=ρ nm)\/(g id=none/\∃x:eA U,ob=x.obj/\gF E w ρ' (aD N ρ w) w0.heap.size id x.obj)
 old:∀id ob,g id=some ob->h id=some ob/\∀nm:Name,nm.id=id->ρ' nm=ρ nm
 dom:∀nm q u,ρ' nm=some (q,u)->∃ob,h nm.id=some ob/\(ob.simple=true->∃k,nm=.ob k)
 src:∀nm q u b,ρ' nm=some (q,u)->blk u=some b->∃j q0,sg nm.id=some j/\ρ (nm.at j)=some (q0,u)
 inj:∀i i' j,sg i=some j->sg i'=some j->i=i'
 sgin:∀i j,sg i=some j->((∃ob,g j=some ob)/\i=j)\/j∈js
 slots:∀sl id τ,(sl,id,τ)∈own->∃u,ρ' (.ob id)=some (0,u)/\nr w0 s ρ a w sl u/\∀a,u≠ .pointer a
theorem Pack.sep {g h:Nat->Option (aT U)} {own:List (Slot×Nat×U.τ)} {js:List Nat} {Z:Nat->Option Nat} (hR:RR E n N w0 ρ s a w) (P:Pack E n N w0 ρ s a w g own h js ρ' Z):
  ∀nm f q V u I b,ρ' nm=some (q,u)->ρ' f=some (V,I)->nm≠f->blk u=some b->blk I≠some b:=by
 intro nm f q V u I b hr J L hb G;obtain⟨j,q0,h1,h2⟩:=P.src _ _ _ b hr hb;obtain⟨j',q0',S,O⟩:=P.src _ _ _ b J G;refine hR.sep _ _ _ _ _ _ b h2 O (fun e=>?_) hb G;have hj:j=j':=by
  grind [Name.sY]
 subst hj;exact L (Name.J0 (P.inj _ _ _ h1 S) e)
theorem aUh (hR:RR E n N w0 ρ s a w) {dp:List Nat} {g:Nat->Option (aT U)} (hg:∀id ob,g id=some ob->∃ob',s.objs id=some ob'/\(ob.simple=true->ob'.simple=true)):
  ∀(own:List (Slot×Nat×U.τ)) (h:Nat->Option (aT U)) (js:List Nat),Nx s dp g own=some (h,js)->∃ρ' sg,Pack E n N w0 ρ s a w g own h js ρ' sg:=by
 intro own
 induction own with
 |nil=>
  intro h js O;simp only[Nx,QJ,QX] at O;obtain⟨rfl,rfl⟩:=O;have hin:∀{nm:Name} {q:Nat} {u:Value},(if (g nm.id).isSome then ρ nm else none)=some (q,u)->(∃ob,g nm.id=some ob)/\ρ nm=some (q,u):=fun {nm q u} G=>by
   grind [Option.isSome_iff_exists]
  refine⟨fun nm=>if (g nm.id).isSome then ρ nm else none,fun i=>if (g i).isSome then some i else none,fun id ob ho=>.inl ⟨ho,fun nm hn=>by grind⟩,fun id ob ho=>⟨ho,fun nm hn=>by grind⟩,fun nm q u G=>?_,fun nm q u b G _=>?_,fun i i' j h1 S=>?_,fun i j h1=>?_,fun _ _ _ hm=>by grind⟩
  ·obtain⟨⟨ob,ho⟩,G⟩:=hin G;refine⟨ob,ho,fun hs=>?_⟩;obtain⟨ob',q1,q2⟩:=hg _ _ ho;obtain⟨ob2,q3,q4⟩:=hR.dom _ _ _ G;grind
  ·grind [Name.bAz]
  ·grind
  grind [Option.isSome_iff_exists]
 |cons o own ih=>
  intro h js O;obtain⟨sl,id,τ⟩:=o;simp only[Nx] at O;generalize hd:dp.any (Nat.beq id)=d at O;split at O
  ·rename_i h1 wB j xs sO hrow;split at O
   ·rename_i hnone;obtain⟨ρ1,tr,P⟩:=ih h1 wB sO;obtain⟨u,hslot,hup,⟨ρx,x1,x2,x3,x4⟩,hnil,hj⟩:=aMU hR hrow;have hfree:∀nm:Name,nm.id=id->ρ1 nm=none:=fun nm hn=>by
     cases I:ρ1 nm with
     |none=>rfl
     |some p=>
      obtain⟨ob,ho,_⟩:=P.dom nm p.1 p.2 I;grind
    have hgn:g id=none:=by
     cases I:g id with
     |none=>rfl
     |some ob=>
      have:=(P.old id ob I).1;grind
    -- the new row, whichever list of old names
    have build:∀(V:List Nat),(∀i∈wB,i∈V)->(∀i,j=some i->i∈V/\i ∉ wB/\g i=none)->
      ∃ρ' sg,Pack E n N w0 ρ s a w g ((sl,id,τ)::own) (fun q=>cond (Nat.beq q id) (some (eA.obj ⟨d,τ,xs⟩)) (h1 q)) V ρ' sg:=fun V yZ hj3=>by
     have hh:∀q,(cond (Nat.beq q id) (some (eA.obj ⟨d,τ,xs⟩)) (h1 q))=if q=id then some (eA.obj ⟨d,τ,xs⟩) else h1 q:=fun q=>by
      simp_all
     let ρ2:Own:=fun nm=>if nm.id=id then ρx (nm.at 0) else ρ1 nm
     have Oh:∀nm:Name,nm.id=id->ρ2 nm=ρx (nm.at 0):=fun nm hn=>by grind
     have L:∀nm:Name,¬nm.id=id->ρ2 nm=ρ1 nm:=fun nm hn=>by grind
     have hobj:gF E w ρ2 (aD N ρ w) w0.heap.size id (eA.obj ⟨d,τ,xs⟩):=by
      refine x4.join (QP _) (fun _ _=>rfl) (Oh (.ob id) rfl) (fun i=>Oh (.mem id i) rfl) (fun t z c v _ _ hc hv=>Zh (E.enc_flat t z c hc).1 hv)
     refine⟨ρ2,fun q=>if q=id then j else tr q,fun q ob ho=>?_,fun q ob ho=>?_,fun nm gq Z G=>?_,fun nm gq Z b G hb=>?_,fun i i' k e1 e2=>?_,fun i k e1=>?_,fun sl' id' τ' hm=>?_⟩
     ·rw[hh] at ho;split at ho
      ·grind
      ·rename_i I;rcases P.obs q ob ho with ⟨S,h3⟩|⟨S,x,h3,h4⟩
       ·grind
       ·refine .inr ⟨S,x,h3,?_⟩;exact h4.join (QP _) (fun _ _=>rfl) (L (.ob q) I) (fun i=>L (.mem q i) I) (fun t z c v _ _ hc hv=>Zh (E.enc_flat t z c hc).1 hv)
     ·have I:q≠id:=fun e=>by grind
      obtain⟨S,h3⟩:=P.old q ob ho;grind
     ·by_cases I:nm.id=id
      ·refine⟨_,by rw[hh,JQ I],fun hs=>?_⟩;have wK:d=false:=(eA.T4 ⟨d,τ,xs⟩ hs:_);cases nm with
       |ob k=>grind
       |mem k i=>
        rw[Oh _ I] at G;have f:ρx (.mem 0 i)=some (gq,Z):=G;grind
      ·rw[L nm I] at G;obtain⟨ob,ho,hs⟩:=P.dom nm gq Z G;grind
     ·by_cases I:nm.id=id
      ·rw[Oh _ I] at G;cases hjj:j with
       |none=>
        cases nm with
        |ob k=>
         have f:ρx (.ob 0)=some (gq,Z):=G;rw[x1] at f;cases f;rw[hnil hjj] at hb;cases hb
        |mem k i=>
         have f:ρx (.mem 0 i)=some (gq,Z):=G;grind
       |some i=>
        refine⟨i,?_⟩;cases nm with
        |ob k=>
         have f:ρx (.ob 0)=some (gq,Z):=G;rw[x1] at f;cases f;obtain⟨g0,ob,S,h3⟩:=hj i hjj;exact⟨g0,by grind,S⟩
        |mem k i2=>
         have f:ρx (.mem 0 i2)=some (gq,Z):=G;rw[x3 i2,hjj] at f;cases d with
         |false=>grind
         |true=>
          simp only[Option.map_eq_some_iff] at f;obtain⟨p,hp,e⟩:=f;cases e;exact⟨p.1,by grind,hp⟩
      ·rw[L nm I] at G;obtain⟨k,q0,S,h3⟩:=P.src nm gq Z b G hb;grind
     ·have key:∀i' k,¬i'=id->j=some k->tr i'=some k->False:=fun i' k hi' hjk hs=>by
       obtain⟨_,q1,q2⟩:=hj3 k hjk;rcases P.sgin i' k hs with ⟨⟨ob,ho⟩,_⟩|hm
       ·grind
       grind
      by_cases hi:i=id
      ·grind
      ·rw[QF hi] at e1
       by_cases hi':i'=id
       ·grind
       ·rw[QF hi'] at e2;exact P.inj _ _ _ e1 e2
     ·by_cases hi:i=id
      ·grind
      ·rw[QF hi] at e1;rcases P.sgin i k e1 with S|S
       ·grind
       grind
     ·rcases List.mem_cons.1 hm with e|hm
      ·simp only[QX] at e;obtain⟨rfl,rfl,rfl⟩:=e;exact⟨u,by rw[Oh _ rfl];exact x1,hslot,hup⟩
      ·obtain⟨u',S,h3,h4⟩:=P.slots sl' id' τ' hm;grind
    split at O
    ·rename_i i;cases J:(wB.any (Nat.beq i)||(g i).isSome) with
     |true=>grind
     |false=>
      rw[J] at O;simp only[QK,QJ,QX] at O;simp only[JG] at J;obtain⟨hany,hgi⟩:=J;obtain⟨rfl,rfl⟩:=O;refine build (i::wB) (fun q I=>QA _ I) (fun q I=>?_);obtain rfl:=QU I;refine⟨QI,fun hm=>?_,by simp_all⟩;grind [Cp]
    simp_all
   grind
  grind
end
section
variable {U:eO} {E:Enc U} {n:Nat} {N:Nat->Prop} {w0:Fr} {w w':World} {ρ ρ':Own} {s s':ASt U} {a:Act}
theorem aUr {own:List (Slot×Nat×U.τ)} {t id:Nat} (h:Gm own t=some id):∃τ,(.tmp t,id,τ)∈own:=by
 induction own with
 |nil=>cases h
 |cons o own j=>
  obtain⟨sl,i,τ⟩:=o;cases sl with
  |tmp t'=>
   grind [Gm,Nat.eq_of_beq_eq_true]
  |cell u f=>
   grind [Gm]
theorem aUs {own:List (Slot×Nat×U.τ)} {i k id:Nat} (h:wC own i k=some id):∃τ,(.cell i k,id,τ)∈own:=by
 induction own with
 |nil=>cases h
 |cons o own u=>
  obtain⟨sl,j,τ⟩:=o;cases sl with
  |tmp t'=>
   grind [wC]
  |cell G f=>
   grind [wC,Nat.eq_of_beq_eq_true]
theorem pS {α:Type} (u t:Nat) (x y:α):cond (Nat.beq u t) x y=if u=t then x else y:=by
 simp_all
theorem aUg {own:List (Slot×Nat×U.τ)} {p:Nat->Bool}:∀(l:List Nat) (f:Nat->aC U),Xs s own p l=some f->
  ∀t,f t=.any\/(∃id τ,(.tmp t,id,τ)∈own/\f t=.osl id 0)\/(f t=s.tmps t/\T0 p (s.tmps t)=true):=by
 intro l
 induction l with
 |nil=>
  intro f hf t;obtain rfl:=QU hf;grind
 |cons u l J=>
  intro f hf t;simp only[Xs] at hf;split at hf
  ·rename_i L I;split at hf
   ·rename_i id G;obtain rfl:=QU hf;simp only[pS];grind [aUr]
   ·have j:=cC hf;clear hf;obtain⟨hb,hf⟩:=j;obtain rfl:=QU hf;simp only[pS];grind
  grind
theorem aDX {own:List (Slot×Nat×U.τ)} {p:Nat->Bool}:∀(l:List Nat) (g:Nat->Option (aT U)),Bj s own p l=some g->
  ∀id ob,g id=some ob->id∈l/\((∃I,s.objs id=some (.cells I)/\ob=.cells (patch own id 0 I)/\Mf own id p 0 I=true)\/
   s.objs id=some ob/\((∃t q xs,ob=.row t q xs)\/(∃t q xs k m L,ob=.rowF t q xs k m L/\p m=true)\/∃k d,ob=.opq k d)):=by
 intro l
 induction l with
 |nil=>
  intro g f id ob ho;obtain rfl:=QU f;cases ho
 |cons i l O=>
  intro g f id ob ho;simp only[Bj] at f;split at f
  ·rename_i J I u G;have j:=cC f;clear f;obtain⟨hb,f⟩:=j;obtain rfl:=QU f;simp only[pS] at ho;grind
  ·rename_i J t q xs u G;obtain rfl:=QU f;simp only[pS] at ho;grind
  ·rename_i J k d u G;obtain rfl:=QU f;simp only[pS] at ho;grind
  ·rename_i J t q xs k m L u G;have j:=cC f;clear f;obtain⟨hb,f⟩:=j;obtain rfl:=QU f;simp only[pS] at ho;grind
  grind
theorem aDY {own:List (Slot×Nat×U.τ)} {p:Nat->Bool}:∀(l:List Nat) (g:Nat->Option (aT U)),Bj s own p l=some g->∀id∈l,∃ob,g id=some ob:=by
 intro l
 induction l with
 |nil=>grind
 |cons i l O=>
  intro g J id L;have G:∀(j:Nat->Option (aT U)) (o:aT U),Bj s own p l=some j->g=(fun u=>cond (Nat.beq u i) (some o) (j u))->∃ob,g id=some ob:=fun j o f e=>by
   subst e;simp only[pS]
   by_cases h:id=i
   ·simp_all
   grind
  simp only[Bj] at J;split at J
  ·rename_i j V f I;exact G j _ f (QU (cC J).2).symm
  ·rename_i j t q xs f I;exact G j _ f (QU J).symm
  ·rename_i j k d f I;exact G j _ f (QU J).symm
  ·rename_i j t q xs k m S f I;exact G j _ f (QU (cC J).2).symm
  grind
theorem S4 (own:List (Slot×Nat×U.τ)) (i:Nat):∀(cs:List (aC U)) (k:Nat),(patch own i k cs).length=cs.length:=by
 intro cs
 induction cs with
 |nil=>intro k;rfl
 |cons c cs f=>grind [patch]
theorem aQT (own:List (Slot×Nat×U.τ)) (i:Nat):∀(cs:List (aC U)) (k j:Nat) (h:j<cs.length),(patch own i k cs)[j]'(by rw[S4];exact h)=S5 own i (k+j) cs[j]:=by
 intro cs
 induction cs with
 |nil=>grind
 |cons c cs f=>
  grind [patch]
theorem aQU {own:List (Slot×Nat×U.τ)} {i:Nat} {p:Nat->Bool}:∀(cs:List (aC U)) (k:Nat),Mf own i p k cs=true->∀j (h:j<cs.length),wC own i (k+j)=none->yQ p cs[j]=true:=by
 intro cs
 induction cs with
 |nil=>grind
 |cons c cs u=>
  intro k f j h G;simp only[Mf,QW] at f;cases j with
  |zero=>
   grind
  |succ j=>
   grind
theorem th {st:Nat->Prop} {τ:U.τ} {x:aC U} {v:Value} (h:Rel E w ρ st x v):Rel E w ρ st (Ua τ x) v:=by
 cases x with
 |nils=>
  cases h;exact .lO τ
 |_=>exact h
theorem tg (τ:U.τ):∀(l:List (aC U)) (k:Nat),(vE τ k l).length=l.length:=by
 intro l
 induction l with
 |nil=>intro k;cases k<;>rfl
 |cons c l f=>
  intro k;cases k with
  |zero=>rfl
  |succ k=>simp[vE,f]
theorem aMS {st:Nat->Prop} {τ:U.τ}:∀(l:List (aC U)) (k:Nat) (f:Nat->Value),(∀j (h:j<l.length),Rel E w ρ st l[j] (f j))->∀j (h:j<(vE τ k l).length),Rel E w ρ st (vE τ k l)[j] (f j):=by
 intro l
 induction l with
 |nil=>
  grind [tg]
 |cons c l u=>
  intro k f hf j h;cases k with
  |zero=>
   grind [th,vE]
  |succ k=>
   cases j with
   |zero=>exact hf 0 XQ
   |succ j=>exact u k (fun i=>f (i+1)) (fun i hi=>hf (i+1) (by grind)) j (by simpa[vE] using h)
theorem aMR (hR:RR E n N w0 ρ s a w) (x:Slot×U.τ):RR E n N w0 ρ (N6 s x) a w:=by
 obtain⟨sl,τ⟩:=x;cases sl with
 |tmp t=>
  refine⟨hR.defers,hR.size,fun u=>?_,hR.objs,hR.dom,hR.sep,hR.below,hR.nlt,hR.kept,hR.free,hR.pin,hR.nle⟩;show Rel E w ρ _ (cond (Nat.beq u t) (Ua τ (s.tmps t)) (s.tmps u)) _;rw[pS];split
  ·rename_i e;subst e;exact th (hR.tmps u)
  ·exact hR.tmps u
 |cell i k=>
  simp only[N6];split
  ·rename_i l G;refine⟨hR.defers,hR.size,hR.tmps,fun id ob ho=>?_,fun nm g u L=>?_,hR.sep,hR.below,hR.nlt,hR.kept,hR.free,fun id u hp=>by
    obtain⟨⟨ob,ho⟩,I⟩:=hR.pin id u hp;grind,hR.nle⟩
   ·simp only[pS] at ho;split at ho
    ·rename_i e;subst e;obtain rfl:=QU ho;obtain⟨b,c,J,Z,I,V,S,O⟩:=hR.objs _ _ G;exact⟨b,c,J,Z,I,V,by rw[tg];exact S,aMS l k _ O⟩
    ·exact hR.objs _ _ ho
   ·obtain⟨ob,j,f⟩:=hR.dom _ _ _ L
    by_cases e:nm.id=i
    ·refine⟨.cells (vE τ k l),by simp_all,fun _=>?_⟩;rw[e,G] at j;cases j;exact f rfl
    ·exact⟨ob,by simp_all[pS],f⟩
  omega
theorem tf:∀(l:List (Slot×U.τ)) (s:ASt U),RR E n N w0 ρ s a w->RR E n N w0 ρ (Tz l s) a w
 |[],_,h=>h
 |x::l,s,h=>tf l _ (aMR h x)
theorem aW3 (h:RR E n N w0 ρ s a w) (j:Nat):∃ρ',RR E n N w0 ρ' (ji s j) a w:=by
 unfold ji;split
 ·rename_i t g xs i m G hj;split
  ·rename_i J gm' ys hm;split
   ·rename_i y hb hy;obtain rfl:=QQ hb;obtain⟨u,cs,h1,hp,h2,hsz,hi,hmr,h3⟩:=h.objs _ _ hj;have hjm:j≠m:=fun e=>by
     grind
    obtain⟨L,hv⟩:=h.kn hm;have hobj1:(s.obj m (.row J (G+1) [])).objs j=some (.rowF t g xs i m G):=by
     show cond (Nat.beq j m) _ (s.objs j)=_;grind [fX]
    refine⟨dJ ρ m (G+1) (.slice none 0 0),?_⟩;have hmono:∀{x:aC U} {v:Value},Rel E w ρ (aD N ρ w) x v->x.flat=true->Rel E w (dJ ρ m (G+1) (.slice none 0 0)) (aD N (dJ ρ m (G+1) (.slice none 0 0)) w) x v:=fun {x v} hx hf=>
     (hx.flat (ρ':=cO) hf).mono (fun b ⟨q1,q2,q3⟩=>⟨⟨q1,q2,fun nm g u I hbl=>by
      unfold dJ at I;split at I
      ·cases I;cases hbl
      grind⟩,rfl⟩) (fun _ _ _ I=>by cases I)
    have hhold:=L;have c:Chg N (fun q=>q=j) w0.heap.size (dJ ρ m (G+1) (.slice none 0 0)) (dJ ρ m (G+1) (.slice none 0 0)) w w:=
     ⟨fun _ _=>rfl,fun _ _ _ _ Z=>.inl Z,Below.refl _ _,fun _ _ _=>rfl,fun nm g1 u1 b' hd Z hb'=>.inl ⟨nm,g1,u1,hd,Z,hb'⟩,fun nm nm' g1 g2 u1 u2 b' _ _ Z mN hne cJ=>L.sep _ _ _ _ _ _ b' Z mN hne cJ⟩
    refine L.change c rfl (fun q f=>?_) (fun nm g1 u1 hd Z=>?_) (fun q ob f ho=>?_) (fun q ob f _=>⟨.row t g (xs.set i y),by
     rw[f];show cond (Nat.beq j j) _ _=_;simp_all⟩)
    ·show cond (Nat.beq q j) _ _=_;rw[fX f];rfl
    ·obtain⟨ob,q1,q2⟩:=L.dom _ _ _ Z;rw[hd,hobj1] at q1;cases q1;refine⟨.row t g (xs.set i y),?_,fun _=>q2 rfl⟩;rw[hd];show cond (Nat.beq j j) _ _=_;simp_all
    ·subst f;have e0:((s.obj m (.row J (G+1) [])).obj q (.row t g (xs.set i y))).objs q=some (.row t g (xs.set i y)):=by
      show cond (Nat.beq q q) _ _=_;simp_all
     rw[e0] at ho;cases ho;refine⟨u,cs,?_,hp,by grind,fun p f k S=>?_⟩
     ·grind [dJ]
     ·rw[KR] at f
      by_cases hqi:p=i
      ·subst hqi;have hey:=E.unsl_ok _ _ _ _ hy;grind
      ·have e1:(xs.set i y)[p]'KI=xs[p]:=by grind
       have fJ:k<(E.enc t xs[p]).length:=by grind
       have:=hmono (h3 p f hqi k fJ) (E.enc_flat t _ _ (QH fJ)).1;grind
   grind
  grind
 ·rename_i t g G xs m V hj;split
  ·rename_i J gm' ys hm;split
   ·rename_i y hb hy;obtain rfl:=QQ hb;obtain⟨u,cs,h1,hp,h2,hsz,hno,hmr,h3⟩:=h.objs _ _ hj;obtain⟨um,csm,m1,mp,m2,m4⟩:=h.objs _ _ hm;have hmj:m≠j:=fun e=>by
     grind
    have hum:cs.getD xs.length undef=um:=by
     generalize cs.getD xs.length undef=c at hmr;cases hmr with
     |osl _ _ u' hr' hp'=>
      grind
     |oslOld _ _ g' u' v hr' hg=>
      grind
    have hmemm:=h.vU (id:=m) (fun ob ho=>by rw[hm] at ho;cases ho;rfl)
    let O:Own:=nX (nX ρ m (some (V+1,.slice none 0 0)) (fun _=>none)) j (ρ (.ob j)) (fun k=>if k=xs.length then some (G,um) else ρ (.mem j k))
    have ej:O (.ob j)=ρ (.ob j):=vK;have ejm:∀k,O (.mem j k)=if k=xs.length then some (G,um) else ρ (.mem j k):=fun k=>vL
    have em:O (.ob m)=some (V+1,.slice none 0 0):=by
     grind [qZ,vK]
    have emm:∀k,O (.mem m k)=none:=fun k=>by
     show nX _ j _ _ (.mem m k)=_;rw[qZ (show (Name.mem m k).id≠j from hmj)];exact vL
    have eout:∀nm:Name,nm.id≠m->nm.id≠j->O nm=ρ nm:=fun nm h1 h2=>by
     grind [qZ]
    have hcase:∀(nm:Name) g u b,(nm.id=m\/nm.id=j)->O nm=some (g,u)->blk u=some b->(nm=.ob j/\ρ (.ob j)=some (g,u))\/(nm=.mem j xs.length/\u=um)\/∃k,k≠xs.length/\nm=.mem j k/\ρ (.mem j k)=some (g,u):=fun nm g u b f I hb=>by
     cases nm with
     |ob q=>
      rcases f with f|f
      ·obtain rfl:q=m:=f;rw[em] at I;cases I;cases hb
      ·obtain rfl:q=j:=f;grind
     |mem q k=>
      rcases f with f|f
      ·obtain rfl:q=m:=f;grind
      ·obtain rfl:q=j:=f;grind
    have c:Chg N (fun q=>q=m\/q=j) w0.heap.size ρ O w w:=by
     refine L7 h hmj eout (fun nm g u f I=>?_) (Below.refl _ _) (fun b hb _=>rfl) (fun nm=>match nm with | .ob q=>.ob q | .mem q k=>if k=xs.length then .ob m else .mem q k) (fun nm g u b f I hb=>?_) (fun nm nm' g g1 u u1 b b1 f hq' I hr' hb cJ he=>?_)
     ·cases nm with
      |ob q=>
       rcases f with f|f
       ·obtain rfl:q=m:=f;grind
       ·obtain rfl:q=j:=f;grind
      |mem q k=>
       rcases f with f|f
       ·obtain rfl:q=m:=f;grind
       ·obtain rfl:q=j:=f;grind
     ·grind
     grind
    obtain⟨o1,o2,o3⟩:=T5 s m j 0 hmj (.row J (V+1) []) (.deep t g G (xs++[y])) .any;refine⟨O,h.change (s':=(s.obj m (.row J (V+1) [])).obj j (.deep t g G (xs++[y]))) c rfl (fun q f=>o1 q (fun e=>f (.inl e)) (fun e=>f (.inr e))) (fun nm g u f I=>?_) (fun q ob f ho=>?_) (fun q ob f _=>by
      rcases f with e|e
      ·exact⟨_,(congrArg _ e).trans o2⟩
      ·exact⟨_,(congrArg _ e).trans o3⟩)⟩
    ·rcases f with f|f
     ·refine⟨_,by rw[f];exact o2,fun _=>?_⟩;cases nm with
      |ob q=>grind
      |mem q k=>
       obtain rfl:q=m:=f;grind
     ·exact⟨_,by rw[f];exact o3,fun e=>by cases e⟩
    ·rcases f with rfl|rfl
     ·rw[show ((s.obj q (.row J (V+1) [])).obj j (.deep t g G (xs++[y]))).objs q=some (.row J (V+1) []) from o2] at ho;cases ho;exact⟨.slice none 0 0,[],em,(fun a e=>by cases e),JV _ _ _ _,fun i hi=>absurd hi XQ⟩
     ·rw[show ((s.obj m (.row J (V+1) [])).obj q (.deep t g G (xs++[y]))).objs q=some (.deep t g G (xs++[y])) from o3] at ho;cases ho;refine⟨u,cs,by grind,hp,by grind,hsz,fun k S=>?_,fun k S=>?_⟩
      ·grind
      ·rw[QM,JE] at S
       by_cases hkl:k=xs.length
       ·subst hkl;refine⟨J,ys,um,csm,?_,by grind,hum,mp,m2,fun i hi k S=>c.rel (m4 i hi k S)⟩;rw[List.getElem_concat_length (by rfl)];exact E.unsl_ok _ _ _ _ hy
       ·obtain⟨t2,ws,v2,Bz,p1,p2,p3,p4,p5,p6⟩:=h3 k KI;refine⟨t2,ws,v2,Bz,?_,by grind,p3,p4,p5,fun i hi k S=>c.rel (p6 i hi k S)⟩;grind
   grind
  grind
 grind
theorem aGp:∀(l:List (Slot×Nat×U.τ)) (s:ASt U) (ρ:Own),RR E n N w0 ρ s a w->∃ρ',RR E n N w0 ρ' (Zd l s) a w
 |[],_,ρ,h=>⟨ρ,h⟩
 |x::l,s,ρ,h=>by
  have:∃ρ',RR E n N w0 ρ' (jh s x) a w:=by
   unfold jh;split
   ·exact aW3 h _
   grind
  obtain⟨ρ',f⟩:=this;exact aGp l _ ρ' f
theorem uI (hR0:RR E n N w0 ρ s a w) {m:Canon U} (oB:canon m s=some s') (hpin:∀id u,w0.pin id=some u->id∈m.cells):∃ρ',RR E n N w0 ρ' s' a w:=by
 obtain⟨ρ1,hR⟩:=aGp m.own _ ρ (tf m.soft s hR0)
 revert hR oB
 unfold canon;generalize Zd m.own (Tz m.soft s)=s;clear hR0
 revert ρ1
 intro ρ hc hR;unfold aIE at hc;split at hc
 ·rename_i f g hf hg;split at hc
  ·rename_i h js O;obtain rfl:=QU hc;have hgs:∀id ob,g id=some ob->∃ob',s.objs id=some ob'/\(ob.simple=true->ob'.simple=true):=fun id ob ho=>by
    rcases(aDX m.cells g hg id ob ho).2 with ⟨V,L,rfl,_⟩|⟨L,_⟩
    ·exact⟨_,L,fun _=>rfl⟩
    grind
   obtain⟨ρ',sg,P⟩:=aUh hR hgs m.own h js O;have hp:∀id q u,(m.cells.any (Nat.beq id))=true->ρ (.ob id)=some (q,u)->ρ' (.ob id)=some (q,u):=fun id q u hid J=>by
    obtain⟨ob,ho⟩:=aDY m.cells g hg id (Cp.1 hid);rw[(P.old id ob ho).2 (.ob id) rfl];exact J
   have I:∀b,aD N ρ w b->aD N ρ' w b:=fun b ⟨S,G,L⟩=>⟨S,G,fun nm q u J hb=>by
    obtain⟨j,q0,_,hr'⟩:=P.src nm q u b J hb;grind⟩
   refine⟨ρ',hR.defers,hR.size,fun t=>?_,fun id ob ho=>?_,P.dom,P.sep hR,hR.below,hR.nlt,hR.kept,fun nm q u b J hb=>?_,fun id u hpi=>by
    obtain⟨ob,ho⟩:=aDY m.cells g hg id (hpin id u hpi);obtain⟨_,hq⟩:=hR.pin id u hpi;obtain⟨S,G⟩:=P.old id ob ho;exact⟨⟨ob,S⟩,by rw[G (.ob id) rfl];exact hq⟩,hR.nle⟩
   ·rcases aUg m.keep f hf t with e|⟨id,τ,hm,e⟩|⟨e,hok⟩
    ·show Rel E w ρ' _ (f t) _;rw[e];exact .any _
    ·show Rel E w ρ' _ (f t) _;rw[e];obtain⟨u,S,G,L⟩:=P.slots _ _ _ hm;rw[show a.kE w0 t=u from G];exact .osl id 0 u S L
    ·show Rel E w ρ' _ (f t) _;rw[e];exact aRj hok hp I (hR.tmps t)
   ·have flat:∀{x:aC U} {v:Value},x.flat=true->Rel E w ρ (aD N ρ w) x v->Rel E w ρ' (aD N ρ' w) x v:=fun hx hv=>
     (hv.flat (ρ':=ρ') hx).mono (fun b hb=>⟨I b hb,rfl⟩) (fun _ _ _ J=>.inl J)
    rcases P.obs id ob ho with ⟨S,G⟩|⟨_,x,rfl,G⟩
    ·rcases(aDX m.cells g hg id ob S).2 with ⟨V,L,rfl,h4⟩|⟨L,hrow⟩
     ·obtain⟨b,c,ty,h5,h6,h7,h8,h9⟩:=hR.objs _ _ L;refine⟨b,c,ty,by rw[G (.ob id) rfl];exact h5,h6,h7,by rw[S4];exact h8,fun k O=>?_⟩;have Z:k<V.length:=by grind [S4]
      rw[aQT _ _ _ _ _ Z,JD];unfold S5;cases hid':wC m.own id k with
      |some id'=>
       obtain⟨τ,hm⟩:=aUs hid';obtain⟨u,Ou,⟨l',b',c',ty',h11,Yh,fg,h14,h15⟩,h16⟩:=P.slots _ _ _ hm;rw[h5] at Yh;simp only[QJ,QX,true_and,Value.pointer.injEq,KQ,and_true] at Yh;subst Yh;rw[h7] at fg;simp only[QJ,Obj.cells.injEq] at fg;obtain⟨rfl,rfl,_⟩:=fg;rw[h15];exact .osl id' 0 u Ou h16
      |none=>exact Aw (aQU V 0 h4 k Z (by grind)) hp I (h9 k Z)
     ·have h5:=hR.objs _ _ L;rcases hrow with ⟨t,q,xs,rfl⟩|⟨t,q,xs,k,m',gm,rfl,hpm⟩|⟨k,d,rfl⟩
      ·obtain⟨u,V,r1,r2,r3,r4⟩:=h5;exact⟨u,V,by rw[G (.ob id) rfl];exact r1,r2,r3,fun i hi k O=>flat (E.enc_flat t _ _ (QH O)).1 (r4 i hi k O)⟩
      ·obtain⟨u,V,r1,r2,r3,r4,r5,r6,r7⟩:=h5;exact⟨u,V,by rw[G (.ob id) rfl];exact r1,r2,r3,r4,r5,Aw (p:=fun i=>m.cells.any (Nat.beq i)) (x:=.osl m' gm) hpm hp I r6,fun i hi hik k O=>flat (E.enc_flat t _ _ (QH O)).1 (r7 i hi hik k O)⟩
      ·exact gF.closed (w:=w) (ob:=.opq k d) rfl (G (.ob id) rfl) (fun j=>G (.mem id j) rfl) (fun b hb=>hb) h5
    ·refine G.join (QP _) (fun _ _=>rfl) rfl (fun _=>rfl) (fun t z c v _ _ hc hv=>?_);exact(hv.flat (ρ':=ρ') (E.enc_flat t z c hc).1).mono (fun b hb=>⟨I b hb,rfl⟩) (fun _ _ _ J=>.inl J)
   ·obtain⟨j,q0,_,hr'⟩:=P.src nm q u b J hb;exact hR.free _ _ _ _ hr' hb
  grind
 grind
end
inductive AEx where
 |normal
 |exit (id:Nat)
 |ret
def AEx.to:AEx->Exit
 | .normal=>.normal
 | .exit id=>.exit id
 | .ret=>.ret
section
variable {U:eO}
def Ul (C:Cfg U) (s:ASt U):ResultVar->Option (aC U)
 | .tmp x=>some (s.look x)
 | .cell x t'=>match behind C.E s.objs (s.look x) with
  |some (l,off)=>partOf C.P t' l off
  |none=>none
def nN (f t:Nat):Bool:=Nat.ble f t&&Nat.blt t (f+1000000)
def hSub (f t:Nat):Nat:=t-f
def hAdd (f t:Nat):Nat:=t+f
def ASt.enter (s:ASt U) (f:Nat) (xs:List (aC U)):ASt U:=
 ⟨fun t=>cond (Nat.blt t 1000000) (xs.getD t (.raw undef)) (cond (nN f t) (s.tmps (hSub f t)) (s.tmps t)),s.objs⟩
def ASt.leave (s:ASt U) (f:Nat):ASt U:=
 ⟨fun t=>cond (Nat.blt t 1000000) (s.tmps (hAdd f t)) (cond (nN f t) .any (s.tmps t)),s.objs⟩
def Fr.hold (F:Fr) (f:Nat) (a:Act):Fr:={F with hv:=fun t=>cond (nN f t) (a.tmps.getD (hSub f t) undef) (F.hv t),ds:=[]}
def Lg (C:Cfg U) (s:ASt U):List ResultVar->Option (List (aC U))
 |[]=>some []
 |r::f=>match Ul C s r,Lg C s f with
  |some x,some xs=>some (x::xs)
  |_,_=>none
def Lf (C:Cfg U) (s:ASt U) (fn:Func):Option (aC U):=
 match Lg C s fn.results.toList with
 |some [x]=>some x
 |some l=>some (.tup l)
 |none=>none
abbrev tD (U:eO):=Nat->Func->Code->ASt U->(AEx->ASt U->Prop)->Prop
def uZ:List Oper->List Oper×Option (Oper×List Oper)
 |[]=>([],none)
 |o::r=>match o.guard,o.op with
  |none,.call c=>match c.callee with
   | .value _=>([],some (o,r))
   |_=>(o::(uZ r).1,(uZ r).2)
  |_,_=>(o::(uZ r).1,(uZ r).2)
def aEh (C:Cfg U) (s:ASt U) (o:Oper):Option (Func×Code×List (aC U)):=
 match o.op with
 | .call c=>match c.callee with
  | .value x=>match s.eval x with
   | .fn f u=>match C.inl f with
    |some (fn,j)=>some (fn,j,c.args.toList.map s.eval++u)
    |none=>none
   |_=>none
  |_=>none
 |_=>none
def kp (X:tD U) (C:Cfg U) (n:Nat) (o:Oper) (s:ASt U) (K:ASt U->Prop):Prop:=
 match aEh C s o with
 |some (fn,f,xs)=>cond (rL n o&&Nat.ble xs.length fn.ntmps&&Nat.ble fn.ntmps 1000000&&Nat.ble 1000000 C.hb)
   (X (1000*(C.off+1+o.dst.getD 999)) fn f (s.enter C.hb xs) fun e s2=>match e with
    | .exit _=>False
    |_=>match Lf C s2 fn with
     |some r=>K ((s2.leave C.hb).put o.dst r)
     |none=>False) False
 |none=>match step C n s o with
  |some (j,s')=>both j (K s')
  |none=>False
def Lc (X:tD U) (C:Cfg U) (n:Nat) (ops:Array Oper):Nat->List Oper->ASt U->(ASt U->Prop)->Prop
 |0,_,_,_=>False
 |f+1,l,s,K=>match uZ l with
  | (j,none)=>match qQ C n ops (j.length+1) [] j s with
   |some (u,s')=>both u (K s')
   |none=>False
  | (j,some (o,G))=>match qQ C n ops (j.length+1) [] j s with
   |some (u,s1)=>both u (kp X C n o s1 fun s2=>Lc X C n ops f G s2 K)
   |none=>False
variable {n n':Nat} {N:Nat->Prop} {w0:Fr} {w w':World} {ρ ρ':Own} {s s':ASt U} {a a':Act} {C:Cfg U}
theorem mb {a b:Nat} (h:a<b):Nat.blt a b=true:=Nat.ble_eq_true_of_le h
theorem Qd {a b:Nat} (h:¬a<b):Nat.blt a b=false:=by
 cases hb:Nat.blt a b
 ·rfl
 ·exact absurd (QR hb) h
theorem bA7 {a b:Nat} (h:Nat.ble a b=true):a<=b:=QR h
theorem bA6 {a b:Nat} (h:Nat.blt a b=true):a<b:=QR h
theorem bBE {l t:Nat} (f:1000000<=l) (u:l<=t) (j:t<l+1000000):1000000<=t/\t-l<1000000:=KI
theorem bBD {l t:Nat} (f:1000000<=l):¬t+l<1000000:=KI
theorem aV3 {f t:Nat} (h:t<1000000):nN f (hAdd f t)=true:=by
 grind [nN,hAdd,Nat.ble_eq_true_of_le,mb]
theorem aV2 {f t:Nat} (j:1000000<=f) (h:nN f t=true):1000000<=t/\hSub f t<1000000:=by
 unfold nN at h;unfold hSub;rw[QW] at h;exact bBE j (bA7 h.1) (bA6 h.2)
theorem aVa {f:Nat} (j:1000000<=f) (t:Nat):¬hAdd f t<1000000:=bBD j
theorem aV9 (f t:Nat):hSub f (hAdd f t)=t:=by
 unfold hSub hAdd;omega
theorem L6 {F:Fr} {t:Nat} (h:t<1000000):a.kE F t=a.tmps.getD t undef:=u4 h
theorem u6 {F:Fr} {t:Nat} (h:¬t<1000000):a.kE F t=F.hv t:=by
 grind [Act.kE,Qd]
theorem aEm {F:Fr} {f t:Nat} (h:nN f t=true):(F.hold f a).hv t=a.tmps.getD (hSub f t) undef:=by
 have e:∀x y:Value,cond (nN f t) x y=x:=fun x y=>by grind
 exact e _ _
theorem aEl {F:Fr} {f t:Nat} (h:nN f t=false):(F.hold f a).hv t=F.hv t:=by
 have e:∀x y:Value,cond (nN f t) x y=y:=fun x y=>by grind
 exact e _ _
theorem aX6 {f t:Nat} {xs:List (aC U)} (h:t<1000000):(s.enter f xs).tmps t=xs.getD t (.raw undef):=by
 grind [ASt.enter,mb]
theorem aX7 {f t:Nat} {xs:List (aC U)} (h:¬t<1000000) (hh:nN f t=true):(s.enter f xs).tmps t=s.tmps (hSub f t):=by
 grind [ASt.enter,Qd]
theorem aX5 {f t:Nat} {xs:List (aC U)} (h:¬t<1000000) (hh:nN f t=false):(s.enter f xs).tmps t=s.tmps t:=by
 grind [ASt.enter,Qd]
theorem aUE {f t:Nat} (h:t<1000000):(s.leave f).tmps t=s.tmps (hAdd f t):=by
 grind [ASt.leave,mb]
theorem aUF {f t:Nat} (h:¬t<1000000) (hh:nN f t=true):(s.leave f).tmps t=.any:=by
 grind [ASt.leave,Qd]
theorem aUD {f t:Nat} (h:¬t<1000000) (hh:nN f t=false):(s.leave f).tmps t=s.tmps t:=by
 grind [ASt.leave,Qd]
def Rb (fn:Func) (args:Array Value):Act:={tmps:=args++Array.replicate (fn.ntmps-args.size) undef,defers:=[]}
theorem aIa {E:Enc U} {st:Nat->Prop} {fn:Func} {xs:List (aC U)} {args:Array Value} (I:args.size=xs.length) (u:∀k (h:k<xs.length),Rel E w ρ st xs[k] (args.getD k undef)) (t:Nat):
  Rel E w ρ st (xs.getD t (.raw undef)) ((Rb fn args).tmps.getD t undef):=by
 have e0:(Rb fn args).tmps=args++Array.replicate (fn.ntmps-args.size) undef:=rfl;rw[e0]
 by_cases G:t<xs.length
 ·have e1:xs.getD t (.raw undef)=xs[t]:=by grind
  have f:(args++Array.replicate (fn.ntmps-args.size) undef).getD t undef=args.getD t undef:=by
   simp_all[Array.getElem?_append]
  grind
 ·have e1:xs.getD t (.raw undef)=.raw undef:=by
   grind
  have f:(args++Array.replicate (fn.ntmps-args.size) undef).getD t undef=undef:=by
   have j:¬t<args.size:=KI;simp only[Array.getD_eq_getD_getElem?,Array.getElem?_append,QF j];grind
  rw[e1,f];exact .raw _
theorem Xv {E:Enc U} {st:Nat->Prop} {fn:Func} {F:Fr} {xs:List (aC U)} {args:Array Value} (hv:∀t,F.hv t=undef) (I:xs.length<=fn.ntmps) (j:fn.ntmps<=1000000) (G:args.size=xs.length) (u:∀k (h:k<xs.length),Rel E w ρ st xs[k] (args.getD k undef)) (t:Nat):
  Rel E w ρ st (xs.getD t (.raw undef)) ((Rb fn args).kE F t):=by
 by_cases f:t<1000000
 ·rw[L6 f];exact aIa G u t
 ·rw[u6 f,hv];have J:xs.length<=t:=JT I (JT j (Nat.le_of_not_lt f));have e1:xs.getD t (.raw undef)=.raw undef:=by grind
  rw[e1];exact .raw _
theorem RR.enter {E:Enc U} (h:RR E n N w0 ρ s a w) (j:Nat) (J:1000000<=j) {fn:Func} {xs:List (aC U)} {args:Array Value} (I:args.size=xs.length) (G:∀k (h:k<xs.length),Rel E w ρ (aD N ρ w) xs[k] (args.getD k undef)) (L:xs.length<=fn.ntmps) (u:fn.ntmps<=1000000):
  RR E fn.ntmps N (w0.hold j a) ρ (s.enter j xs) (Rb fn args) w:=by
 refine⟨rfl,by simp[Rb];omega,fun t=>?_,h.objs,h.dom,h.sep,h.below,h.nlt,h.kept,h.free,h.pin,u⟩
 by_cases f:t<1000000
 ·rw[aX6 f,L6 f];exact aIa I G t
 ·cases hh:nN j t with
  |true=>
   rw[aX7 f hh,u6 f,aEm hh];have:=h.tmps (hSub j t);grind [u4,aV2]
  |false=>
   rw[aX5 f hh,u6 f,aEl hh];have:=h.tmps t;grind [u6]
theorem RR.leave {E:Enc U} (u:RR E n N w0 ρ s a w) {f:Nat} (I:1000000<=f) (h:RR E n' N (w0.hold f a) ρ' s' a' w'):RR E n N w0 ρ' (s'.leave f) a w':=by
 refine⟨u.defers,u.size,fun t=>?_,h.objs,h.dom,h.sep,h.below,h.nlt,h.kept,h.free,h.pin,u.nle⟩
 by_cases j:t<1000000
 ·rw[aUE j,L6 j];have G:=h.tmps (hAdd f t);grind [u6,aVa,aEm,aV3,aV9]
 ·cases hh:nN f t with
  |true=>
   rw[aUF j hh];exact .any _
  |false=>
   rw[aUD j hh,u6 j];have G:=h.tmps t;grind [u6,aEl]
theorem vj (hR:RR C.E n N w0 ρ s a w) {r:ResultVar} {y:aC U} (h:Ul C s r=some y):
  ∃v,(match r with
   | .tmp t=>pure (a.tmps.getD t undef)
   | .cell x t=>do loadVar t (<- asAddr (a.tmps.getD x undef)):Sem Value).run C.P w=.ok v w/\Rel C.E w ρ (aD N ρ w) y v:=by
 unfold Ul at h;split at h
 ·rename_i x;cases h;exact⟨_,rfl,hR.look x⟩
 ·rename_i x t';split at h
  ·rename_i l off hb;obtain⟨b,o,f,hp,j⟩:=aIM hR (fun _ _ h=>h) (hR.look x) hb;grind [aCs,asAddr]
  grind
theorem aOr (hR:RR C.E n N w0 ρ s a w):∀(j:List ResultVar) (xs:List (aC U)),Lg C s j=some xs->∃f,(j.mapM (fun
   | .tmp t=>pure (a.tmps.getD t undef)
   | .cell x t=>do loadVar t (<- asAddr (a.tmps.getD x undef))):Sem (List Value)).run C.P w=.ok f w/\f.length=xs.length/\∀k (h:k<xs.length),Rel C.E w ρ (aD N ρ w) xs[k] (f.getD k undef):=by
 intro j
 induction j with
 |nil=>
  intro xs h;cases h;simp_all
 |cons r j I=>
  intro xs h;simp only[Lg] at h;split at h
  ·rename_i x G J u;cases h;obtain⟨f,h1,Z,V⟩:=I G u;obtain⟨v,S,O⟩:=vj hR J;refine⟨v::f,?_,by grind,fun k L=>?_⟩
   ·simp_all
   grind
  grind
theorem aOq (hR:RR C.E n N w0 ρ s a w) {fn:Func} {r:aC U} (h:Lf C s fn=some r):∃v,(results fn a.tmps).run C.P w=.ok v w/\Rel C.E w ρ (aD N ρ w) r v:=by
 have j:∀l,Lg C s fn.results.toList=some l->∃f:List Value,(fn.results.mapM (fun
   | .tmp t=>pure (a.tmps.getD t undef)
   | .cell x t=>do loadVar t (<- asAddr (a.tmps.getD x undef))):Sem (Array Value)).run C.P w=.ok f.toArray w/\f.length=l.length/\∀k (h:k<l.length),Rel C.E w ρ (aD N ρ w) l[k] (f.getD k undef):=fun l G=>by
  obtain⟨f,u,J,I⟩:=aOr hR _ l G;simp_all[Array.mapM_eq_mapM_toList]
 unfold Lf at h;split at h
 ·rename_i x L;cases h;obtain⟨f,u,J,I⟩:=j _ L
  match f,J with
  |[v],_=>
   refine⟨v,?_,I 0 XQ⟩;simp only[results,QE];exact QG (congrArg (fun r:Result (Array Value)=>r.andThen _) u) rfl
 ·rename_i l S G;cases h;obtain⟨f,u,J,I⟩:=j _ G;refine⟨.tuple f.toArray,?_,.tup _ f.toArray KI (fun k Z=>by simp_all)⟩;have V:¬f.toArray.size=1:=fun e=>by
   have O:l.length=1:=by grind
   match l,O with
   |[x],_=>grind
  simp only[results,QE];refine QG (congrArg (fun r:Result (Array Value)=>r.andThen _) u) ?_;simp_all
 grind
def Rg (C:Cfg U) (N:Nat->Prop) (W:World) (pin:Nat->Option (Nat×Value)) (X:tD U):Prop:=
 ∀(off:Nat) (fn:Func) (c:Code) (s:ASt U) (K:AEx->ASt U->Prop) (F:Fr) (ρ:Own) (a:Act) (w:World) (Q:Exit->Act->World->Prop),F.w0=W->F.pin=pin->X off fn c s K->RR C.E fn.ntmps N F ρ s a w->
  (∀e s' ρ' a' w',K e s'->RR C.E fn.ntmps N F ρ' s' a' w'->Q e.to a' w')->c.wp C.P Q a w
theorem aMJ:∀{l f:List Oper},uZ l=(f,none)->l=f:=by
 intro l
 induction l with
 |nil=>intro f h;cases h;rfl
 |cons o r j=>
  grind [uZ]
theorem aMI:∀{l j f:List Oper} {o:Oper},uZ l=(j,some (o,f))->l=j++o::f/\o.guard=none:=by
 intro l
 induction l with
 |nil=>intro j f o h;cases h
 |cons o r u=>
  grind [uZ]
theorem aY2 {X:tD U} (hs:fY C w0) (hX:Rg C N w0.w0 w0.pin X) (hR:RR C.E n N w0 ρ s a w) {o:Oper} {K0:ASt U->Prop} (h:kp X C n o s K0) {K:Act->World->Prop} {Q:Exit->Act->World->Prop}
  (hK:∀s' ρ' a' w',K0 s'->RR C.E n N w0 ρ' s' a' w'->K a' w'):o.wp C.P a w K Q:=by
 unfold kp at h;split at h
 ·rename_i fn code xs hi;obtain⟨hb,h⟩:(rL n o&&Nat.ble xs.length fn.ntmps&&Nat.ble fn.ntmps 1000000&&Nat.ble 1000000 C.hb)=true/\_:=by
   cases hb:(rL n o&&Nat.ble xs.length fn.ntmps&&Nat.ble fn.ntmps 1000000&&Nat.ble 1000000 C.hb) with
   |false=>rw[hb] at h;exact h.elim
   |true=>rw[hb] at h;exact⟨rfl,h⟩
  simp only[QW] at hb;obtain⟨⟨⟨hd,hl⟩,L⟩,u⟩:=hb;have u:=QR u;have hl:=QR hl;have L:=QR L;obtain⟨dst,op,ty,pos,after,guard⟩:=o;unfold aEh at hi;split at hi
  ·rename_i c hop;simp only at hop;subst hop;obtain⟨callee,args,V⟩:=c;simp only at hi;split at hi
   ·rename_i xo h';split at hi
    ·rename_i f I hxe;split at hi
     ·rename_i fn' code' hinl;cases hi;obtain⟨hf,S,hcall⟩:=C.inlOK _ _ _ hinl;have J:=hR.eval xo;rw[hxe] at J;generalize hfv:a.eval xo=fv at J;cases J with
      |fn _ _ Z hvn hvl=>
      have G:(args.map a.eval++Z).size=(args.toList.map s.eval++I).length:=by grind
      refine Jl (f:=f) (args:=args.map a.eval++Z) ?_ (calls_of_wp hf S ?_)
      ·grind [execOp,resolve,Deferred.ofValue,invoke]
      ·have hRe:=hR.enter C.hb u (fn:=fn) G (fun k hk=>by
        by_cases hk':k<args.size
        ·have e:(args.map a.eval++Z).getD k undef=a.eval args[k]:=by simp_all
         rw[e];rw[KY (by grind)];simp only[List.getElem_map,Array.getElem_toList];exact hR.eval _
        ·have fJ:k-args.size<I.length:=by grind
         have e:(args.map a.eval++Z).getD k undef=Z.getD (k-args.size) undef:=by
          simp_all
         grind) hl L
       refine hX _ fn code _ _ (w0.hold C.hb a) ρ _ w _ rfl rfl h hRe (fun e s' ρ' a' w' j O=>?_);have fin:(match Lf C s' fn with
        |some r=>K0 ((s'.leave C.hb).put dst r)
        |none=>False)->a'.defers=[]/\∃v,(results fn a'.tmps).run C.P w'=.ok v w'/\∃v_1,Ending.returned v=.returned v_1/\K (a.put dst v_1) w':=fun j=>by
        split at j
        ·rename_i r hr;obtain⟨v,h1,h2⟩:=aOq O hr;exact⟨O.defers,v,h1,v,rfl,hK _ ρ' _ _ j ((hR.leave u O).put dst (wP hd) h2)⟩
        grind
       cases e with
       |normal=>exact fin j
       |exit id=>grind
       |ret=>exact fin j
     grind
    grind
   grind
  grind
 grind [Hr,sq]
theorem aOn {X:tD U} {ops:Array Oper} (L:fY C w0) (S:Rg C N w0.w0 w0.pin X) {Q:Exit->Act->World->Prop}:∀(f:Nat) (l:List Oper) (s:ASt U) (j:ASt U->Prop) (ρ:Own) (a:Act) (w:World),Lc X C n ops f l s j->RR C.E n N w0 ρ s a w->
  ∀(K:Act->World->Prop),(∀s' ρ' a' w',j s'->RR C.E n N w0 ρ' s' a' w'->K a' w')->wpl C.P ops Q l K a w:=by
 intro f
 induction f with
 |zero=>intro l s j ρ a w h;exact h.elim
 |succ f J=>
  intro l s j ρ a w h hR K V;unfold Lc at h;split at h
  ·grind [aMJ,Hr,Pn]
  ·rename_i I o G u;obtain⟨rfl,O⟩:=aMI u;grind [Hr,Jk,Pn,wpl,Region.wanted,aY2]
end
section
variable {U:eO}
def iter (B:ASt U->(AEx->ASt U->Prop)->Prop) (m:Nat->Canon U):Nat->Nat->ASt U->(AEx->ASt U->Prop)->Prop
 |0,_,_,_=>False
 |f+1,r,s,K=>B s fun e s'=>match e with
  | .normal=>match canon (m (r+1)) s' with
   |some j=>iter B m f (r+1) j K
   |none=>False
  |e=>match canon (m r) s' with
   |some j=>K e j
   |none=>False
def ASt.Xr (s:ASt U) (c:Operand) (b:Bool):ASt U:=
 match c with
 | .tmp t=>s.set t (.bool b)
 |_=>s
theorem ASt.aUb {s:ASt U} {c:Operand} {b:Bool} (h:s.eval c=.bool b):s.Xr c b=s:=by
 unfold ASt.Xr;split
 ·rename_i t;have hb:s.tmps t=.bool b:=(ak (show s.look t=.bool b from h) (fun e=>by cases e)).2;have:(s.set t (.bool b)).tmps=s.tmps:=funext fun u=>by
   show cond (Nat.beq u t) (.bool b) (s.tmps u)=s.tmps u;grind [fX]
  exact congrArg (ASt.mk · s.objs) this
 ·rfl
def cX (X:tD U) (C:Cfg U) (n:Nat) (M:Nat->Nat->Nat->Canon U) (fuel:Nat):Nat->Code->ASt U->(AEx->ASt U->Prop)->Prop
 |_,.skip,s,K=>K .normal s
 |_,.region _ ops false,s,K=>match C.dep with
  |0=>match qQ C n ops (ops.toList.length+1) [] ops.toList s with
   |some (j,s')=>both j (K .normal s')
   |none=>False
  |_+1=>Lc X C n ops (ops.toList.length+1) ops.toList s fun s'=>K .normal s'
 |_,.region _ ops true,s,K=>tG C n ops ops.toList [] s fun es s'=>cond (wR ops ops.toList [] es) (K .normal s') False
 |cur,.seq x y,s,K=>cX X C n M fuel cur x s fun e s'=>match e with
  | .normal=>cX X C n M fuel cur y s' K
  |e=>K e s'
 |cur,.cond c x y,s,K=>match s.eval c with
  | .bool b=>match b with
   |true=>cX X C n M fuel cur x (s.Xr c true) K
   |false=>cX X C n M fuel cur y (s.Xr c false) K
  |_=>False
 |_,.block id c,s,K=>cX X C n M fuel id c s fun e s'=>match e with
  | .exit f=>cond (Nat.beq f id) (K .normal s') (K (.exit f) s')
  |e=>K e s'
 |cur,.loop c,s,K=>match canon (M C.off cur 0) s with
  |some s'=>iter (cX X C n M fuel cur c) (M C.off cur) fuel 0 s' K
  |none=>False
 |_,.exit id,s,K=>K (.exit id) s
 |_,.ret,s,K=>K .ret s
 |_,_,_,_=>False
def Cfg.at (C:Cfg U) (off:Nat):Cfg U:={C with off:=off,hb:=C.hb+1000000}
def aU (M:Nat->Nat->Nat->Canon U) (fuel:Nat):Nat->Cfg U->tD U
 |0,_=>fun _ _ _ _ _=>False
 |d+1,C=>fun off fn c s K=>cX (aU M fuel d (C.at off)) (C.at off) fn.ntmps M fuel 0 c s K
def exec (C:Cfg U) (n:Nat) (M:Nat->Nat->Nat->Canon U) (fuel cur:Nat) (c:Code) (s:ASt U) (K:AEx->ASt U->Prop):Prop:=cX (aU M fuel C.dep C) C n M fuel cur c s K
variable {n:Nat} {N:Nat->Prop} {w0:Fr} {w w':World} {ρ ρ':Own} {s s':ASt U} {a:Act} {C:Cfg U} {M:Nat->Nat->Nat->Canon U} {fuel:Nat}
theorem aUm {B:ASt U->(AEx->ASt U->Prop)->Prop} {c:Code} {m:Nat->Canon U} (G:∀r id u,w0.pin id=some u->id∈(m r).cells)
  (hB:∀(s:ASt U) (K:AEx->ASt U->Prop) (ρ:Own) (a:Act) (w:World) (Q:Exit->Act->World->Prop),B s K->RR C.E n N w0 ρ s a w->(∀e s' ρ' a' w',K e s'->RR C.E n N w0 ρ' s' a' w'->Q e.to a' w')->c.wp C.P Q a w):
  ∀(f r:Nat) (s:ASt U) (K:AEx->ASt U->Prop) (ρ:Own) (a:Act) (w:World) (Q:Exit->Act->World->Prop),iter B m f r s K->RR C.E n N w0 ρ s a w->(∀e s' ρ' a' w',K e s'->RR C.E n N w0 ρ' s' a' w'->Q e.to a' w')->Code.rounds C.P c Q f a w:=by
 intro f
 induction f with
 |zero=>intro r s K ρ a w Q h;exact h.elim
 |succ f Z=>
  intro r s K ρ a w Q h hR V;rw[rounds_succ];refine hB s _ ρ a w _ h hR (fun e s' ρ' a' w' I O=>?_);cases e with
  |normal=>
   simp only at I;split at I
   ·rename_i L S;obtain⟨J,j⟩:=uI O S (G _);exact Z (r+1) L K J a' w' Q I j V
   grind
  |exit id=>
   simp only at I;split at I
   ·rename_i L S;obtain⟨J,j⟩:=uI O S (G _);exact V _ _ _ _ _ I j
   grind
  |ret=>
   simp only at I;split at I
   ·rename_i L S;obtain⟨J,j⟩:=uI O S (G _);exact V _ _ _ _ _ I j
   grind
theorem aHH {X:tD U} (hs:fY C w0) (hX:Rg C N w0.w0 w0.pin X) (hmix:C.P.follows .mixedOrders=true) (I:∀off cur r id u,w0.pin id=some u->id∈(M off cur r).cells):∀(c:Code) (cur:Nat) (s:ASt U) (K:AEx->ASt U->Prop) (ρ:Own) (a:Act) (w:World) (Q:Exit->Act->World->Prop),
  cX X C n M fuel cur c s K->RR C.E n N w0 ρ s a w->(∀e s' ρ' a' w',K e s'->RR C.E n N w0 ρ' s' a' w'->Q e.to a' w')->c.wp C.P Q a w:=by
 intro c
 induction c with
 |skip=>
  intro cur s K ρ a w Q h hR j;exact wp_skip (j .normal s ρ a w h hR)
 |region id ops draw=>
  intro cur s K ρ a w Q h hR j;cases draw with
  |false=>
   simp only[cX] at h;split at h
   ·split at h
    ·rename_i cs s' Z;obtain⟨J,L⟩:=Hr h;exact wp_region (rT (Pn _ C hs _ _ _ _ _ Z J ρ a w hR _ (fun ρ' a' w' f=>j .normal s' ρ' a' w' L f)))
    grind
   ·exact wp_region (rT (aOn hs hX _ _ s _ ρ a w h hR _ (fun s' ρ' a' w' L f=>j .normal s' ρ' a' w' L f)))
  |true=>
   simp only[cX] at h;refine aYT hs hmix hR (K:=fun s'=>K .normal s') (cast ?_ h) (fun s' ρ' a' w' L f=>j .normal s' ρ' a' w' L f);grind
 |seq x y S O=>
  intro cur s K ρ a w Q h hR j;simp only[cX] at h;refine wp_seq (S cur s _ ρ a w _ h hR (fun e s' ρ' a' w' G f=>?_));cases e with
  |normal=>exact O cur s' K ρ' a' w' Q G f j
  |exit id=>exact j _ _ _ _ _ G f
  |ret=>exact j _ _ _ _ _ G f
 |cond c x y S O=>
  intro cur s K ρ a w Q h hR j;simp only[cX] at h;split at h
  ·rename_i b hb;have J:=hR.eval c;rw[hb] at J;refine wp_cond (C6 J) ?_;grind [ASt.aUb]
  grind
 |block id c ih=>
  intro cur s K ρ a w Q h hR j;simp only[cX] at h;refine wp_block (ih id s _ ρ a w _ h hR (fun e s' ρ' a' w' G f=>?_));cases e with
  |normal=>exact j .normal _ _ _ _ G f
  |exit V=>
   simp only[pS] at G;show Exit.inBlock id Q (.exit V) a' w';simp only[Exit.inBlock];split
   ·rename_i hi;rw[JQ hi] at G;exact j .normal _ _ _ _ G f
   ·rename_i hi;rw[QF hi] at G;exact j (.exit V) _ _ _ _ G f
  |ret=>exact j .ret _ _ _ _ G f
 |loop c ih=>
  intro cur s K ρ a w Q h hR j;simp only[cX] at h;split at h
  ·rename_i s' J;obtain⟨ρ',f⟩:=uI hR J (I _ _ _);exact wp_loop_rounds fuel (aUm (I _ cur) (fun s K ρ a w Q h hR j=>ih cur s K ρ a w Q h hR j) fuel 0 s' K ρ' a w Q h f j)
  grind
 |exit id=>
  intro cur s K ρ a w Q h hR j;exact wp_exit (j (.exit id) s ρ a w h hR)
 |ret=>
  intro cur s K ρ a w Q h hR j;exact wp_ret (j .ret s ρ a w h hR)
 |_=>
  intro cur s K ρ a w Q h hR j;exact h.elim
theorem aVI {W:World} {pin:Nat->Option (Nat×Value)} (j:∀off cur r id u,pin id=some u->id∈(M off cur r).cells):∀(d:Nat) (C:Cfg U),fY C W->C.P.follows .mixedOrders=true->Rg C N W pin (aU M fuel d C):=by
 intro d
 induction d with
 |zero=>intro C G f off fn c s K F ρ a w Q hF hp h;exact h.elim
 |succ d J=>
  intro C G f off fn c s K F ρ a w Q hF hp h hR O;have I:fY (C.at off) F:=by
   rw[show F.w0=W from hF];exact G
  have L:Rg (C.at off) N F.w0 F.pin (aU M fuel d (C.at off)):=by
   rw[hF,hp];exact J (C.at off) G f
  exact aHH (C:=C.at off) (w0:=F) I L f (fun off cur r id u S=>j off cur r id u (by grind)) c 0 s K ρ a w Q h hR O
theorem uG (G:fY C w0) (j:C.P.follows .mixedOrders=true) (f:∀off cur r id u,w0.pin id=some u->id∈(M off cur r).cells) (c:Code) (cur:Nat) (s:ASt U) (K:AEx->ASt U->Prop) (ρ:Own) (a:Act) (w:World) (Q:Exit->Act->World->Prop)
  (h:exec C n M fuel cur c s K) (hR:RR C.E n N w0 ρ s a w) (I:∀e s' ρ' a' w',K e s'->RR C.E n N w0 ρ' s' a' w'->Q e.to a' w'):c.wp C.P Q a w:=
 aHH G (aVI f C.dep C G j) j f c cur s K ρ a w Q h hR I
def P6 (C:Cfg U) (look:Nat->Option (aT U)) (t:TypeId):aC U->Option (aC U)
 | .agg l=>match Cl C look (dP C.P 20 t) l with
  |some (f,_)=>some (.agg f)
  |none=>none
 |x=>match aIG C look t x with
  |some (y,_)=>some y
  |none=>none
def Zf (C:Cfg U) (look:Nat->Option (aT U)) (t:TypeId):aC U->Option (aC U×List (eA U×Option Nat))
 | .osl id g=>match look id with
  |some (.row t' f xs)=>cond (Nat.beq g f) (some (.new t' xs,[(⟨false,t',xs⟩,some id)])) none
  |some (.deep t' f _ xs)=>cond (Nat.beq g f) (some (.newd t' xs,[(⟨true,t',xs⟩,some id)])) none
  |_=>none
 | .nils=>match lG C t with
  |some τ=>match C.deep,C.E.inner τ,Nat.beq (U.size τ) 1 with
   |true,some _,true=>some (.newd τ [],[(⟨true,τ,[]⟩,none)])
   |_,_,_=>some (.new τ [],[(⟨false,τ,[]⟩,none)])
  |none=>none
 | .int k n=>some (.int k n,[])
 | .bool b=>some (.bool b,[])
 | .str s=>some (.str s,[])
 | .sl t xs=>some (.sl t xs,[])
 |_=>none
def Hd (C:Cfg U) (look:Nat->Option (aT U)):List TypeId->List (aC U)->Option (List (aC U)×List (eA U×Option Nat))
 |[],[]=>some ([],[])
 |t::u,v::j=>match Zf C look t v,Hd C look u j with
  |some (y,I),some (f,G)=>some (y::f,I++G)
  |_,_=>none
 |_,_=>none
def jk (C:Cfg U) (look:Nat->Option (aT U)) (t:TypeId):aC U->Option (aC U×List (eA U×Option Nat))
 | .agg l=>match Hd C look (dP C.P 20 t) l with
  |some (f,j)=>some (.agg f,j)
  |none=>none
 |x=>Zf C look t x
def P5 (C:Cfg U) (fr:Bool) (s:ASt U) (t:TypeId) (r:ResultVar):Option (aC U×List (eA U×Option Nat)):=
 match Ul C s r with
 |some x=>match fr with
  |true=>jk C s.objs t x
  |false=>match P6 C s.objs t x with
   |some y=>some (oP (fun _=>hJ) 0 y,[])
   |none=>none
 |none=>none
def Af (C:Cfg U) (fr:Bool) (s:ASt U):List TypeId->List ResultVar->Option (List (aC U)×List (eA U×Option Nat))
 |[],[]=>some ([],[])
 |t::f,r::j=>match P5 C fr s t r,Af C fr s f j with
  |some (x,G),some (xs,u)=>some (x::xs,G++u)
  |_,_=>none
 |_,_=>none
def sG:List (eA U×Option Nat)->Bool
 |[]=>true
 | (_,some i)::l=>!l.any (fun p=>match p.2 with
  |some j=>Nat.beq i j
  |none=>false)&&sG l
 | (_,none)::l=>sG l
def result (C:Cfg U) (fr:Bool) (fn:Func) (s:ASt U):Option (aC U):=
 match Af C fr s fn.resultTypes.toList fn.results.toList with
 |some ([x],f)=>match x with
  | .tup _=>none
  |x=>cond (sG f) (some x) none
 |some (l,f)=>cond (sG f) (some (.tup l)) none
 |none=>none
def gK (xs:List (aC U)):ASt U:=⟨fun t=>xs.getD t (.raw undef),fun _=>none⟩
def bN (C:Cfg U) (fr:Bool) (fn:Func) (Post:aC U->Prop) (e:AEx) (s:ASt U):Prop:=
 match e with
 | .exit _=>False
 |_=>match result C fr fn s with
  |some r=>Post r
  |none=>False
theorem aOs (hR:RR C.E n N w0 ρ s a w) {t:TypeId} {x y:aC U} {v:Value} (G:Rel C.E w ρ (aD N ρ w) x v) (h:P6 C s.objs t x=some y):Rel C.E w cO (fF N w) y v:=by
 unfold P6 at h;split at h
 ·rename_i l;split at h
  ·rename_i j own f;obtain rfl:=QU h;cases G with
   |agg _ u L O=>
    obtain⟨V,S,_⟩:=aIQ hR (fun _ _ h=>h) _ l j own u.toList KI (fun k I=>by simp_all) f;exact .agg j u KI (fun k I=>by grind [zC])
  grind
 ·split at h
  ·rename_i J own hb;obtain rfl:=QU h;exact(aIH hR (fun _ _ h=>h) 5 _ _ _ _ _ G hb).1
  grind
def fZ (ρ:Own) (ids:List (eA U×Option Nat)):Own:=fun nm=>
 match ids[nm.id]? with
 |some (x,some id)=>match nm with
  | .ob _=>(ρ (.ob id)).map fun p=>(0,p.2)
  | .mem _ i=>match x.1 with
   |true=>(ρ (.mem id i)).map fun p=>(0,p.2)
   |false=>none
 |some (_,none)=>match nm with
  | .ob _=>some (0,.slice none 0 0)
  | .mem _ _=>none
 |none=>none
def zW (C:Cfg U) (s:ASt U) (p:eA U×Option Nat):Prop:=
 match p.2 with
 |some id=>match p.1 with
  |⟨false,t,xs⟩=>∃g,s.objs id=some (.row t g xs)
  |⟨true,t,xs⟩=>∃g f,s.objs id=some (.deep t g f xs)
 |none=>p.1.2.2=[]/\(p.1.1=true->U.size p.1.2.1=1)
theorem aGr (hR:RR C.E n N w0 ρ s a w) {ids:List (eA U×Option Nat)} {t:TypeId} {x y:aC U} {f:List (eA U×Option Nat)} {v:Value} {st':Nat->Prop} (S:∀b,aD N ρ w b->st' b) (h:Zf C s.objs t x=some (y,f)) (L:Rel C.E w ρ (aD N ρ w) x v):
  f.map (·.1)=iP y/\(∀p∈f,zW C s p)/\(∀l,y≠ .agg l)/\(∀l,y≠ .tup l)/\∀k,(∀j,j<f.length->ids[k+j]?=f[j]?)->Rel C.E w (fZ ρ ids) st' (jZ (fun k=>k) k y) v:=by
 unfold Zf at h;split at h
 ·split at h
  ·rename_i id g _ t' g' xs O;obtain⟨hb,h⟩:=cC h;cases h;obtain rfl:=QQ hb;refine⟨rfl,fun p hp=>?_,(fun l e=>by cases e),(fun l e=>by cases e),fun k J=>?_⟩
   ·simp only[JJ] at hp;subst hp;exact⟨g,O⟩
   ·have G:=J 0 XQ;rw[JB] at G;obtain⟨u,cs',q1,Z,_⟩:=hR.objs _ _ O;have hu:u=v:=by
     cases L with
     |osl _ _ V I hp'=>
      grind
     |oslOld _ _ g' V v I hg=>
      grind
    subst hu;refine .osl k 0 u ?_ Z;unfold fZ;rw[show (Name.ob k).id=k from rfl,G];grind
  ·rename_i id g _ t' g' gm xs O;obtain⟨hb,h⟩:=cC h;cases h;obtain rfl:=QQ hb;refine⟨rfl,fun p hp=>?_,(fun l e=>by cases e),(fun l e=>by cases e),fun k J=>?_⟩
   ·simp only[JJ] at hp;subst hp;exact⟨g,gm,O⟩
   ·have G:=J 0 XQ;rw[JB] at G;obtain⟨u,cs',q1,Z,_⟩:=hR.objs _ _ O;have hu:u=v:=by
     cases L with
     |osl _ _ V I hp'=>
      grind
     |oslOld _ _ g' V v I hg=>
      grind
    subst hu;refine .osl k 0 u ?_ Z;unfold fZ;rw[show (Name.ob k).id=k from rfl,G];grind
  grind
 ·split at h
  ·rename_i τ hτ;have key:∀d:Bool,(d=true->U.size τ=1)->y=(if d then .newd τ [] else .new τ [])->f=[(⟨d,τ,[]⟩,none)]->f.map (·.1)=iP y/\(∀p∈f,zW C s p)/\(∀l,y≠ .agg l)/\(∀l,y≠ .tup l)/\∀k,(∀j,j<f.length->ids[k+j]?=f[j]?)->Rel C.E w (fZ ρ ids) st' (jZ (fun k=>k) k y) v:=fun d hsz hy hi=>by
    subst hi;subst hy;refine⟨by cases d<;>rfl,fun p hp=>?_,(fun l e=>by grind),(fun l e=>by grind),fun k J=>?_⟩
    ·simp only[JJ] at hp;subst hp;exact⟨rfl,hsz⟩
    ·have G:=J 0 XQ;rw[JB] at G;cases L;have e:jZ (fun k=>k) k (if d=true then (.newd τ []:aC U) else .new τ [])=.osl k 0:=by cases d<;>rfl
     rw[e];refine .osl k 0 _ ?_ (fun a e=>by cases e);unfold fZ;rw[show (Name.ob k).id=k from rfl,G];rfl
   grind [Nat.eq_of_beq_eq_true]
  grind
 all_goals first
  | (cases h
     refine⟨rfl,(fun p hp=>by grind),(fun l e=>by cases e),(fun l e=>by cases e),fun k J=>?_⟩
     first
      | (cases L;first|exact .int _ _|exact .bool _|exact .str _)
      |exact(L.flat (ρ':=cO) rfl).mono (fun b hb=>⟨S b hb,rfl⟩) (fun _ _ _ hr=>by cases hr))
  |cases h
theorem aW7 (hR:RR C.E n N w0 ρ s a w) {ids:List (eA U×Option Nat)} {st':Nat->Prop} (G:∀b,aD N ρ w b->st' b):∀(I:List TypeId) (xs ys:List (aC U)) (u:List (eA U×Option Nat)) (f:List Value),Hd C s.objs I xs=some (ys,u)->
  f.length=xs.length->(∀k (h:k<xs.length),Rel C.E w ρ (aD N ρ w) xs[k] (f.getD k undef))->
  u.map (·.1)=ys.flatMap iP/\(∀p∈u,zW C s p)/\ys.length=xs.length/\∀k,(∀j,j<u.length->ids[k+j]?=u[j]?)->∀i (h:i<(lI (jZ (fun k=>k)) k ys).length),Rel C.E w (fZ ρ ids) st' (lI (jZ (fun k=>k)) k ys)[i] (f.getD i undef):=by
 intro I
 induction I with
 |nil=>
  grind [lI,Hd]
 |cons t I Z=>
  intro xs ys u f h hl J;cases xs with
  |nil=>simp[Hd] at h
  |cons x xs=>
   cases f with
   |nil=>grind
   |cons v f=>
    simp only[Hd] at h;split at h
    ·rename_i y S Jj V h1 h2;cases h;have L:=J 0 XQ;simp only[JZ,List.getD_cons_zero] at L;obtain⟨a1,a2,_,_,a3⟩:=aGr (ids:=ids) (st':=st') hR G h1 L;obtain⟨b1,b2,b3,b4⟩:=Z xs Jj V f h2 (by grind) (fun k hk=>J (k+1) (by grind));refine⟨by grind,fun p hp=>?_,by grind,fun k hk i hi=>?_⟩
     ·grind
     ·have O:(iP y).length=S.length:=by grind
      cases i with
      |zero=>
       refine a3 k (fun j hj=>?_);grind
      |succ i=>
       simp_all[lI,KN]
    grind
theorem aW6 (hR:RR C.E n N w0 ρ s a w) {ids:List (eA U×Option Nat)} {st':Nat->Prop} {t:TypeId} {x y:aC U} {u:List (eA U×Option Nat)} {v:Value} (f:∀b,aD N ρ w b->st' b) (h:jk C s.objs t x=some (y,u)) (I:Rel C.E w ρ (aD N ρ w) x v):
  u.map (·.1)=gU y/\(∀p∈u,zW C s p)/\(∀l,y≠ .tup l)/\∀k,(∀j,j<u.length->ids[k+j]?=u[j]?)->Rel C.E w (fZ ρ ids) st' (oP (jZ (fun k=>k)) k y) v:=by
 unfold jk at h;split at h
 ·rename_i l;split at h
  ·rename_i J yY S;cases h;cases I with
   |agg _ G L hl=>
    obtain⟨b1,Z,V,b4⟩:=aW7 (ids:=ids) (st':=st') hR f _ l J u G.toList S KI (fun k O=>by simp_all);refine⟨b1,Z,(fun l e=>by cases e),fun k O=>.agg _ G (by rw[Xf,V,L]) (fun i hi=>?_)⟩;simp_all
  grind
 ·obtain⟨a1,a2,a4,a5,a3⟩:=aGr (ids:=ids) (st':=st') hR f h I;simp_all[gU,oP]
theorem vk (hR:RR C.E n N w0 ρ s a w) (hN:∀b,N b->b<w0.heap.size) {fr:Bool} {ids:List (eA U×Option Nat)} {st':Nat->Prop} (V:∀b,aD N ρ w b->st' b) (hst:∀b,fF N w b->(fr=false->st' b)):∀(O:List ResultVar) (f:List TypeId) (ys:List (aC U)) (I:List (eA U×Option Nat)),Af C fr s f O=some (ys,I)->
  ∃G,(O.mapM (fun
   | .tmp t=>pure (a.tmps.getD t undef)
   | .cell x t=>do loadVar t (<- asAddr (a.tmps.getD x undef))):Sem (List Value)).run C.P w=.ok G w/\G.length=ys.length/\I.map (·.1)=ys.flatMap gU/\(∀p∈I,zW C s p)/\
    ∀k,(∀j,j<I.length->ids[k+j]?=I[j]?)->∀i (h:i<(kZ (jZ (fun k=>k)) k ys).length),Rel C.E w (fZ ρ ids) st' (kZ (jZ (fun k=>k)) k ys)[i] (G.getD i undef):=by
 intro O
 induction O with
 |nil=>
  intro f ys I h;cases f with
  |nil=>
   cases h;simp_all[kZ]
  |cons t f=>cases h
 |cons r O ih=>
  intro f ys I h;cases f with
  |nil=>cases h
  |cons t f=>
   simp only[Af] at h;split at h
   ·rename_i y L Jj wB J h2;cases h;obtain⟨G,e1,e2,e3,e4,e6⟩:=ih f Jj wB h2;have key:∃v,(match r with
      | .tmp t=>pure (a.tmps.getD t undef)
      | .cell x t=>do loadVar t (<- asAddr (a.tmps.getD x undef)):Sem Value).run C.P w=.ok v w/\L.map (·.1)=gU y/\(∀p∈L,zW C s p)/\
       ∀k,(∀j,j<L.length->ids[k+j]?=L[j]?)->Rel C.E w (fZ ρ ids) st' (oP (jZ (fun k=>k)) k y) v:=by
     unfold P5 at J;split at J
     ·rename_i x hx;obtain⟨v,Z,hv⟩:=vj hR hx;cases fr with
      |true=>
       obtain⟨b1,b2,b3,b4⟩:=aW6 (ids:=ids) (st':=st') hR V J hv;grind
      |false=>
       simp only at J;split at J
       ·rename_i z hz;cases J;have S:=aOs hR hv hz;refine⟨v,Z,(aH9 _ rfl 0 z).symm,(fun p hp=>by grind),fun k hk=>?_⟩;rw[aH7];have hone:∀{c:aC U} {u:Value},Rel C.E w cO (fF N w) c u->Rel C.E w (fZ ρ ids) st' (hJ c) u:=fun {c u} hc=>by
         have:hJ c=c:=by
          cases c<;>first|rfl| (cases hc;done)
         rw[this];exact hc.mono (fun b hb=>⟨hst b hb rfl,rfl⟩) (fun _ _ _ hr=>by cases hr)
        cases z with
        |agg l=>
         simp only[oP];rw[Hl];cases S with
         |agg _ G hn hl=>exact .agg _ G (by grind) (fun i hi=>by
           grind)
        |_=>exact hone S
       grind
     grind
    obtain⟨v,k1,k2,k3,k5⟩:=key;refine⟨v::G,?_,by grind,by grind,fun p hp=>?_,fun k hk i hi=>?_⟩
    ·simp_all
    ·grind
    ·have hlen:(gU y).length=L.length:=by grind
     cases i with
     |zero=>
      refine k5 k (fun j hj=>?_);grind
     |succ i=>
      simp_all[kZ,KN]
   grind
theorem aOt {C:Cfg U} {s:ASt U}:∀(j:List ResultVar) (f:List TypeId) (ys:List (aC U)) (u:List (eA U×Option Nat)),Af C false s f j=some (ys,u)->u=[]:=by
 intro j
 induction j with
 |nil=>
  intro f ys u h;cases f with
  |nil=>cases h;rfl
  |cons t f=>cases h
 |cons r j G=>
  intro f ys u h;cases f with
  |nil=>cases h
  |cons t f=>
   grind [Af,P5]
theorem xy:∀(l:List (eA U×Option Nat)),sG l=true->∀(a b:Nat) (x y:eA U) (i j:Nat),a<b->l[a]?=some (x,some i)->l[b]?=some (y,some j)->i≠j:=by
 intro l
 induction l with
 |nil=>grind
 |cons p l G=>
  intro h a b x y i j u f hb;obtain⟨r,o⟩:=p;cases b with
  |zero=>omega
  |succ b=>
   simp only[List.getElem?_cons_succ] at hb;cases a with
   |zero=>
    simp only[List.getElem?_cons_zero,QJ,QX] at f;obtain⟨rfl,rfl⟩:=f;simp only[sG,QW,KH] at h;intro e;subst e;have:=JR.1 h.1 _ (List.mem_of_getElem? hb);simp_all
   |succ a=>
    simp only[List.getElem?_cons_succ] at f;have I:sG l=true:=by
     cases o with
     |some i=>grind [sG]
     |none=>exact h
    grind
theorem aLm (hR:RR C.E n N w0 ρ s a w) {f:List (eA U×Option Nat)} (hon:sG f=true) (hp:∀p∈f,zW C s p):
  (∀b,aD N ρ w b->aD N (fZ ρ f) w b)/\(∀(k:Nat) (x:eA U) o,f[k]?=some (x,o)->gF C.E w (fZ ρ f) (aD N (fZ ρ f) w) w0.heap.size k x.obj)/\
  (∀nm g u,fZ ρ f nm=some (g,u)->∃x o,f[nm.id]?=some (x,o)/\(x.1=false->∃k,nm=.ob k))/\∀nm S g g' u u' b,fZ ρ f nm=some (g,u)->fZ ρ f S=some (g',u')->nm≠S->blk u=some b->blk u'≠some b:=by
 have inv:∀nm g u,fZ ρ f nm=some (g,u)->(∃x o,f[nm.id]?=some (x,o)/\(x.1=false->∃k,nm=.ob k))/\((∃r id g0,f[nm.id]?=some (r,some id)/\ρ (nm.at id)=some (g0,u))\/u=.slice none 0 0):=by
  intro nm g u h;unfold fZ at h;split at h
  ·rename_i x id G;split at h
   ·rename_i q;simp only[Option.map_eq_some_iff] at h;obtain⟨p,wI,e⟩:=h;cases e;exact⟨⟨_,_,G,fun _=>⟨q,rfl⟩⟩,.inl ⟨_,id,p.1,G,wI⟩⟩
   ·rename_i q i;split at h
    ·rename_i hd;simp only[Option.map_eq_some_iff] at h;obtain⟨p,wI,e⟩:=h;cases e;exact⟨⟨_,_,G,fun e=>by grind⟩,.inl ⟨_,id,p.1,G,wI⟩⟩
    grind
  ·grind
  grind
 have V:∀b,aD N ρ w b->aD N (fZ ρ f) w b:=fun b ⟨q1,L,q3⟩=>⟨q1,L,fun k g u hr hbl=>by
  rcases(inv k g u hr).2 with ⟨r,id,g0,_,hu⟩|rfl
  ·grind
  ·cases hbl⟩
 have obN:∀{k:Nat} {x:eA U} {id:Nat},f[k]?=some (x,some id)->fZ ρ f (.ob k)=(ρ (.ob id)).map fun p=>(0,p.2):=fun {k x id} G=>by
  unfold fZ;rw[show (Name.ob k).id=k from rfl,G]
 refine⟨V,fun k x o G=>?_,fun nm g u h=>(inv nm g u h).1,fun i j g g' u u' b hi hj hij hbi hbj=>?_⟩
 ·have I:=hp _ (List.mem_of_getElem? G);have flat:∀{t:U.τ} {z:U.T t} {c:aC U} {v:Value},c∈C.E.enc t z->Rel C.E w ρ (aD N ρ w) c v->Rel C.E w (fZ ρ f) (aD N (fZ ρ f) w) c v:=fun {t z c v} hc hv=>
   (hv.flat (ρ':=cO) (C.E.enc_flat t z c hc).1).mono (fun b hb=>⟨V b hb,rfl⟩) (fun _ _ _ hr=>by cases hr)
  obtain⟨d,t,xs⟩:=x;cases o with
  |some id=>
   cases d with
   |false=>
    obtain⟨g,J⟩:∃g,s.objs id=some (.row t g xs):=I;obtain⟨u,cs,q1,L,q3,q4⟩:=hR.objs _ _ J;exact⟨u,cs,by grind,L,q3,fun i hi k' Z=>flat (QH Z) (q4 i hi k' Z)⟩
   |true=>
    obtain⟨g,gm,J⟩:∃g gm,s.objs id=some (.deep t g gm xs):=I;obtain⟨u,cs,q1,L,q3,q4,q5,q6⟩:=hR.objs _ _ J;have memN:∀i,fZ ρ f (.mem k i)=(ρ (.mem id i)).map fun p=>(0,p.2):=fun i=>by
     unfold fZ;rw[show (Name.mem k i).id=k from rfl,G]
    refine⟨u,cs,by grind,L,q3,q4,fun i hi=>by grind,fun i hi=>?_⟩;grind
  |none=>
   obtain⟨hxs,hsz⟩:xs=[]/\(d=true->U.size t=1):=I;subst hxs;have O:fZ ρ f (.ob k)=some (0,.slice none 0 0):=by
    unfold fZ;rw[show (Name.ob k).id=k from rfl,G]
   cases d with
   |false=>exact⟨.slice none 0 0,[],O,(fun a e=>by cases e),JV _ _ _ _,fun i hi=>absurd hi XQ⟩
   |true=>
    refine⟨.slice none 0 0,[],O,(fun a e=>by cases e),JV _ _ _ _,hsz rfl,fun i _=>?_,fun i hi=>absurd hi XQ⟩;unfold fZ;rw[show (Name.mem k i).id=k from rfl,G]
 ·rcases(inv i g u hi).2 with ⟨r,id,g0,h1,h2⟩|rfl
  ·rcases(inv j g' u' hj).2 with ⟨r',id',g0',h1',h2'⟩|rfl
   ·refine hR.sep _ _ _ _ _ _ b h2 h2' (fun e=>?_) hbi hbj;have hid:id=id':=by
     grind [Name.sY]
    subst hid
    by_cases hijd:i.id=j.id
    ·grind [Name.J0]
    ·rcases Nat.lt_or_gt_of_ne hijd with hlt|hgt
     ·grind [xy]
     grind [xy]
   ·cases hbj
  ·cases hbi
theorem Uk (hR:RR C.E n N w0 ρ s a w) (hN:∀b,N b->b<w0.heap.size) {fr:Bool} {fn:Func} {y:aC U} (h:result C fr fn s=some y):∃v,(results fn a.tmps).run C.P w=.ok v w/\jT C.E w0.heap.size N w y v:=by
 have J:∀l f,Af C fr s fn.resultTypes.toList fn.results.toList=some (l,f)->sG f=true->∃I:List Value,(fn.results.mapM (fun
   | .tmp t=>pure (a.tmps.getD t undef)
   | .cell x t=>do loadVar t (<- asAddr (a.tmps.getD x undef))):Sem (Array Value)).run C.P w=.ok I.toArray w/\I.length=l.length/\f.map (·.1)=l.flatMap gU/\
   (∀(k:Nat) (x:eA U),(l.flatMap gU)[k]?=some x->gF C.E w (fZ ρ f) (aD N (fZ ρ f) w) w0.heap.size k x.obj)/\
   (∀nm g u,fZ ρ f nm=some (g,u)->∃x,(l.flatMap gU)[nm.id]?=some x/\(x.1=false->∃k,nm=.ob k))/\(∀nm S g g' u u' b,fZ ρ f nm=some (g,u)->fZ ρ f S=some (g',u')->nm≠S->blk u=some b->blk u'≠some b)/\
   ∀i (h:i<(kZ (jZ (fun k=>k)) 0 l).length),Rel C.E w (fZ ρ f) (aD N (fZ ρ f) w) (kZ (jZ (fun k=>k)) 0 l)[i] (I.getD i undef):=fun l f O G=>by
  have L:∀p∈f,zW C s p:=by
   obtain⟨_,_,_,_,L,_⟩:=vk (ids:=f) (st':=fun _=>True) hR hN (fr:=fr) (fun _ _=>trivial) (fun _ _ _=>trivial) _ _ l f O;exact L
  obtain⟨t1,t2,t3,t4⟩:=aLm hR G L;obtain⟨I,h1,Z,h3,_,V⟩:=vk (ids:=f) (st':=aD N (fZ ρ f) w) hR hN (fr:=fr) t1 (fun b hb hf=>by
   subst hf;have:=aOt _ _ _ _ O;subst this;exact⟨hb.1,hb.2,fun k g u hr=>by cases hr⟩) _ _ l f O
  refine⟨I,?_,Z,h3,fun k x hk=>?_,fun nm g u hk=>?_,t4,V 0 (fun j hj=>by grind)⟩
  ·simp_all[Array.mapM_eq_mapM_toList]
  ·grind
  grind
 unfold result at h;split at h
 ·rename_i x f hx;have hnt:∀l,x≠ .tup l:=fun l e=>by
   grind
  have G:sG f=true/\x=y:=by
   grind
  obtain⟨G,rfl⟩:=G;obtain⟨I,h1,Z,h3,L,V,h6,h7⟩:=J _ _ hx G;have en:x.news=gU x:=by
   cases x<;>first|rfl|grind
  have eo:x.yL (fun k=>k)=oP (jZ (fun k=>k)) 0 x:=by
   cases x<;>first|rfl|grind
  have e1:[x].flatMap gU=gU x:=XQ
  match I,Z with
  |[v],_=>
   refine⟨v,?_,fZ ρ f,?_,?_,?_,h6⟩
   ·simp only[results,QE];exact QG (congrArg (fun r:Result (Array Value)=>r.andThen _) h1) rfl
   ·simp_all[kZ]
   ·grind
   grind
 ·rename_i l f hne O;obtain⟨G,h⟩:=cC h;cases h;obtain⟨I,h1,Z,h3,L,V,h6,h7⟩:=J _ _ O G;refine⟨.tuple I.toArray,?_,fZ ρ f,.tup _ I.toArray (by grind [Xe]) (fun k hk=>by simp_all),L,V,h6⟩;have hn:¬I.toArray.size=1:=fun e=>by
   have On:l.length=1:=by grind
   match l,On with
   |[x],_=>grind
  simp only[results,QE];refine QG (congrArg (fun r:Result (Array Value)=>r.andThen _) h1) ?_;simp_all
 grind
theorem lu (hs:aE C) (hinv:C.inv w) (V:C.P.follows .mixedOrders=true) {f:FuncId} {fn:Func} {c:Code} (hf:C.P.funcs[f]?=some fn) (hb:fn.body=some c) {args:Array Value} {xs:List (aC U)} (hN:∀b,N b->b<w.heap.size)
  (G:tA C.E w N xs args) (Z:xs.length<=fn.ntmps) (O:fn.ntmps<=1000000) {fr:Bool} {Post:aC U->Prop} (h:exec C fn.ntmps M fuel 0 c (gK xs) (bN C fr fn Post)):
  Calls C.P f args w fun e w'=>∃v,e=.returned v/\(∃r,Post r/\jT C.E w.heap.size N w' r v)/\Below w.heap.size w w':=by
 refine calls_of_wp hf hb ?_;have hsz:args.size=xs.length:=G.1;have hR:RR C.E fn.ntmps N (Fr.pure w) cO (gK xs) {tmps:=args++Array.replicate (fn.ntmps-args.size) undef,defers:=[]} w:=by
  refine⟨rfl,by grind,fun t=>?_,(fun id ob ho=>by cases ho),(fun id g u j=>by cases j),(fun _ _ _ _ _ _ _ j=>by cases j),Below.refl _ _,fun b hb=>.inl (hN b hb),⟨QP _,fun b hb=>hb.elim⟩,(fun _ _ _ _ j=>by cases j),(fun _ _ h=>by cases h),O⟩;exact Xv (fun _=>rfl) Z O hsz (fun k hk=>(G.2 k hk).mono (fun b hb=>⟨⟨hb.1,hb.2,fun _ _ _ j=>by cases j⟩,rfl⟩) (fun _ _ _ j=>by cases j)) t
 refine uG (hs.at hinv) V (fun _ _ _ _ _ h=>by cases h) c 0 _ _ cO _ w _ h hR (fun e s' ρ' a' w' J I=>?_);have S:(match result C fr fn s' with
  |some r=>Post r
  |none=>False)->a'.defers=[]/\∃v,(results fn a'.tmps).run C.P w'=.ok v w'/\∃L,Ending.returned v=.returned L/\(∃r,Post r/\jT C.E w.heap.size N w' r L)/\Below w.heap.size w w':=fun J=>by
  split at J
  ·rename_i r j;obtain⟨v,h1,h2⟩:=Uk I hN j;exact⟨I.defers,v,h1,v,rfl,⟨r,J,h2⟩,I.below⟩
  grind
 cases e with
 |normal=>exact S J
 |exit id=>exact J.elim
 |ret=>exact S J
theorem RR.jr {E:Enc U} (h:RR E n N w0 ρ s a w) {N':Nat->Prop} (u:∀b,N' b->N b):RR E n N' w0 ρ s a w:=by
 have f:∀b,aD N ρ w b->aD N' ρ w b/\w.heap[b]?=w.heap[b]?:=fun b hb=>⟨⟨hb.1,fun h=>hb.2.1 (u b h),hb.2.2⟩,rfl⟩
 refine⟨h.defers,h.size,fun t=>(h.tmps t).mono f (fun _ _ _ j=>.inl j),fun id ob ho=>?_,h.dom,h.sep,h.below,fun b hb=>h.nlt b (u b hb),h.kept,h.free,h.pin,h.nle⟩;exact(h.objs id ob ho).mono f (fun _ _ _ j=>.inl j) (fun _ _=>rfl) (fun _ _ _ _ _ _ _=>rfl)
end
section
variable {U:eO}
def Az:Code->List Code
 | .seq x y=>Az x++Az y
 | .cond _ x y=>Az x++Az y
 | .block _ c=>Az c
 | .loop c=>c::Az c
 |_=>[]
abbrev Model (U:eO):=List (aC U)->Option (List Prop×aC U)
def Cfg.add (C:Cfg U) (f:FuncId) (m:Model U):Cfg U:={C with sum:=fun g=>cond (Nat.beq g f) (some m) (C.sum g)}
theorem lE {P:Program} {f:FuncId} {fn:Func} {c:Code} (hf:P.funcs[f]?=some fn) (j:(fn.name== "runtime.NumGoroutine")=false) (hb:fn.body=some c) (args:Array Value) (w:World):
  (callFunc f args).run P w=.ok (.enter f args) w:=by
 simp_all[callFunc]
theorem aE.add {C:Cfg U} (S:aE C) (I:C.P.follows .mixedOrders=true) {f:FuncId} {m:Model U} {fn:Func} {c:Code} (hf:C.P.funcs[f]?=some fn) (hn:(fn.name== "runtime.NumGoroutine")=false)
  (hb:fn.body=some c) (hx:∀xs L r,m xs=some (L,r)->dZ L->(Nat.ble xs.length fn.ntmps&&Nat.ble fn.ntmps 1000000)=true/\∃M fuel fr,exec C fn.ntmps M fuel 0 c (gK xs) (bN C fr fn fun r'=>r'=r)):aE (C.add f m):=by
 refine⟨fun g O u=>?_,fun g O u=>S.2 g O u⟩;simp only[Cfg.add,pS] at u
 by_cases h:g=f
 ·subst h;rw[JQ rfl] at u;obtain rfl:=QU u;refine⟨fun j w=>lE (P:=C.P) hf hn hb j w,fun N w j xs L r J hN G hm hc=>?_⟩;obtain⟨V,M,fuel,fr,Z⟩:=hx xs L r hm hc;rw[QW] at V;refine(lu (w:=w) (N:=N) S J I hf hb hN G (QR V.1) (QR V.2) Z).mono ?_
  rintro e w' ⟨v,rfl,⟨r',rfl,hr⟩,hbw⟩
  exact⟨v,rfl,hr,hbw⟩
 ·rw[QF h] at u;exact S.1 g O u
def Cfg.bZ (C:Cfg U):Cfg U:={C with deep:=true}
theorem aE.bB7 {C:Cfg U} (L:aE C) (j:C.P.follows .mixedOrders=true) {f:FuncId} {m:Model U} {fn:Func} {c:Code} (hf:C.P.funcs[f]?=some fn) (O:(fn.name== "runtime.NumGoroutine")=false)
  (hb:fn.body=some c) (J:∀xs G r,m xs=some (G,r)->dZ G->(Nat.ble xs.length fn.ntmps&&Nat.ble fn.ntmps 1000000)=true/\∃M fuel S,exec C.bZ fn.ntmps M fuel 0 c (gK xs) (bN C.bZ S fn fun I=>I=r)):aE (C.add f m):=by
 have u:aE C.bZ:=L;have:=aE.add (C:=C.bZ) u j hf O hb J;exact this
theorem aE.put {C:Cfg U} (G:aE C) {f:FuncId} {m:Model U} (h:(∀(args:Array Value) (w:World),(callFunc f args).run C.P w=.ok (.enter f args) w)/\
 ∀(N:Nat->Prop) (w:World) (args:Array Value) (xs:List (aC U)) (cs:List Prop) (r:aC U),C.inv w->(∀b,N b->b<w.heap.size)->tA C.E w N xs args->m xs=some (cs,r)->dZ cs->
  Calls C.P f args w fun e w'=>∃v,e=.returned v/\jT C.E w.heap.size N w' r v/\Below w.heap.size w w'):aE (C.add f m):=by
 refine⟨fun g u j=>?_,fun g u j=>G.2 g u j⟩;simp only[Cfg.add,pS] at j
 by_cases I:g=f
 ·subst I;rw[JQ rfl] at j;obtain rfl:=QU j;exact h
 ·rw[QF I] at j;exact G.1 g u j
abbrev Jg (U:eO):=List (aC U)->aT U->Option (List Prop×aC U×aT U)
def Cfg.Cq (C:Cfg U) (f:FuncId) (m:Jg U):Cfg U:={C with eff:=fun g=>cond (Nat.beq g f) (some m) (C.eff g)}
theorem aE.Lo {C:Cfg U} (u:aE C) {f:FuncId} {m:Jg U} (h:∀w0:World,C.inv w0->Di C f m w0):aE (C.Cq f m):=by
 refine⟨u.1,fun g I j w0 hi=>?_⟩;simp only[Cfg.Cq,pS] at j
 by_cases G:g=f
 ·subst G;rw[JQ rfl] at j;obtain rfl:=QU j;exact h w0 hi
 ·rw[QF G] at j;exact u.2 g I j w0 hi
structure tE (p:Prop):Prop where
 out:p
theorem aE.Ra {C:Cfg U} (L:aE C) (j:C.P.follows .mixedOrders=true) {f:FuncId} {m:Model U} {fn:Func} {c:Code} (hf:C.P.funcs[f]?=some fn) (O:(fn.name== "runtime.NumGoroutine")=false)
  (hb:fn.body=some c) (J:∀xs u r,m xs=some (u,r)->dZ u->(Nat.ble xs.length fn.ntmps&&Nat.ble fn.ntmps 1000000)=true/\∃M fuel G,tE (exec C fn.ntmps M fuel 0 c (gK xs) (bN C G fn fun I=>I=r))):aE (C.add f m):=
 L.add j hf O hb fun xs u r h S=>by
  obtain⟨Z,M,fuel,G,V⟩:=J xs u r h S;exact⟨Z,M,fuel,G,V.out⟩
theorem aE.J8 {C:Cfg U} (L:aE C) (j:C.P.follows .mixedOrders=true) {f:FuncId} {m:Model U} {fn:Func} {c:Code} (hf:C.P.funcs[f]?=some fn) (O:(fn.name== "runtime.NumGoroutine")=false)
  (hb:fn.body=some c) (J:∀xs u r,m xs=some (u,r)->dZ u->(Nat.ble xs.length fn.ntmps&&Nat.ble fn.ntmps 1000000)=true/\∃M fuel G,tE (exec C.bZ fn.ntmps M fuel 0 c (gK xs) (bN C.bZ G fn fun I=>I=r))):aE (C.add f m):=
 L.bB7 j hf O hb fun xs u r h S=>by
  obtain⟨Z,M,fuel,G,V⟩:=J xs u r h S;exact⟨Z,M,fuel,G,V.out⟩
theorem jT.of {E:Enc U} {base:Nat} {N:Nat->Prop} {w:World} {r:aC U} {v:Value} (j:r.news=[]) (ho:r.yL (fun k=>k)=r) (h:Rel E w cO (fF N w) r v):jT E base N w r v:=by
 refine⟨cO,?_,fun k x G=>?_,(fun k g u f=>by cases f),(fun _ _ _ _ _ _ _ f=>by cases f)⟩
 ·rw[ho];exact h.mono (fun b q=>⟨⟨q.1,q.2,fun _ _ _ f=>by cases f⟩,rfl⟩) (fun _ _ _ f=>by cases f)
 grind
def bW (id:Nat) (K:AEx->ASt U->Prop):AEx->ASt U->Prop:=fun e s'=>match e with
 | .exit f=>cond (Nat.beq f id) (K .normal s') (K (.exit f) s')
 |e=>K e s'
def cA (X:tD U) (C:Cfg U) (n:Nat) (M:Nat->Nat->Nat->Canon U) (fuel cur:Nat) (y:Code) (K:AEx->ASt U->Prop):AEx->ASt U->Prop:=fun e s'=>match e with
 | .normal=>cX X C n M fuel cur y s' K
 |e=>K e s'
def Gl (X:tD U) (C:Cfg U) (n:Nat) (ops:Array Oper) (f j:Nat) (fn:Func) (dst:Option Tmp) (K:ASt U->Prop):AEx->ASt U->Prop:=fun e s2=>match e with
 | .exit _=>False
 |_=>match Lf C s2 fn with
  |some r=>Lc X C n ops f (ops.toList.drop j) ((s2.leave C.hb).put dst r) K
  |none=>False
def lT (B:ASt U->(AEx->ASt U->Prop)->Prop) (m:Nat->Canon U) (f r:Nat) (K:AEx->ASt U->Prop):AEx->ASt U->Prop:=fun e s'=>match e with
 | .normal=>match canon (m (r+1)) s' with
  |some j=>iter B m f (r+1) j K
  |none=>False
 |e=>match canon (m r) s' with
  |some j=>K e j
  |none=>False
def cR:Code->Array Oper
 | .region _ ops _=>ops
 |_=>#[]
noncomputable def bo (f:Func):Code:=f.body.getD .skip
def cF:Code->Code
 | .seq x _=>x
 |c=>c
def cS:Code->Code
 | .seq _ y=>y
 |c=>c
def cB:Code->Code
 | .block _ x=>x
 |c=>c
def cL:Code->Code
 | .loop x=>x
 |c=>c
def cT:Code->Code
 | .cond _ x _=>x
 |c=>c
def cE:Code->Code
 | .cond _ _ y=>y
 |c=>c
abbrev aB (n:Int):Int:=IntKind.i64.wrap n
def mi (a b:Int):Int:=if b<a then b else a
def ma (a b:Int):Int:=if a<b then b else a
theorem back {p q:Prop} (h:p=q) (f:q):p:=h▸f
end
open Go.ChangeAt Go.ChangeShapes Go.WideShapes
section
variable {H:Type} {enc:TypeId×Value->H} {P:Program} {W W':World}
theorem aL3 (G:laidOutB P=true) (hb:Below W.heap.size W W'):∀(f:List TypeId) (j:List Value) (ds:List (DataW H)) (ps:List MemPlace),f.all (fun t=>P.readableRec t&&decide (t<P.types.size))=true->
  DataW.TrodAll enc P W 0 (fun _=>true) true f j ds ps->(∀x∈ps,x.block<W.heap.size)->DataW.TrodAll enc P W' 0 (fun b=>decide (b<W.heap.size)) true f j ds ps:=by
 intro f
 induction f with
 |nil=>
  intro j ds ps _ h _;cases j<;>cases ds<;>exact h
 |cons t f u=>
  grind [trodAll_cons,trodAll_cons_mk,Below.trod]
theorem aU5 {f:Func} {s:ChangeSpec} {tb:TypeId} {args:Array Value} {ds Z:List (DataW H)} {j:List MemPlace} (O:laidOutB P=true) (hp:f.params.toList.all (fun t=>P.readableRec t&&decide (t<P.types.size))=true)
  (L:f.resultTypes=#[tb]) (V:P.underlying tb=some .bool) (hv:s.vars=[]) (G:s.fn H ds={results:=[.lit (.bool true)],args:=ds})
  (J:DataW.Whole enc P f.params.toList s.vars false W args.toList ds Z j) (hb:Below W.heap.size W W'):s.post enc P f false true false false W args (.bool true) W':=by
 have u:=J;obtain⟨p,q,I,hV,rfl,_,_⟩:=J;rw[hv] at hV;obtain⟨rfl,rfl⟩:=trodVars_none hV;have S:DataW.TrodAll enc P W 0 (fun _=>true) true f.params.toList args.toList ds p:=I;refine⟨ds,[],p++[],[],p,[],u,?_,?_,?_,hb.frame _,fun h=>by cases h⟩
 ·rw[JP,G,L];exact trodAll_cons_mk (shut_bool V _) trodAll_mk0
 ·rw[JP,G];exact aL3 O hb _ _ _ _ hp S fun x hx=>u.lt x (by grind)
 ·rw[JP,G,hv];rfl
end
section
variable {P:Program} {W:World}
def Bn:Value->Int
 | .int _ n=>n
 |_=>0
theorem aIC {r:Reach} {base:Nat} {u:TypeId} {k:IntKind} {v:Value} (f:P.underlying u=some (.int k)) (h:Cell.okWide P W r base u v):v=.int k (Bn v)/\k.has (Bn v)=true:=by
 cases v<;>simp_all[Cell.okWide,Cell.ok,Bn]
theorem bBr {r:Reach} {base:Nat} {t:TypeId} {f:List TypeId} {cs:Array Value} (I:P.cellTypes P.depth t=some f) (L:cs.size=f.length) (O:∀i,i<f.length->P.underlying (f.getD i 0)=some (.int .i64))
  (j:Row.okWide P W r base t cs):∃J:List Int,J.length=f.length/\cs=(J.map (Value.int .i64)).toArray:=by
 obtain⟨G,V,_,S⟩:=j;obtain rfl:f=G:=QU (I.symm.trans V);refine⟨cs.toList.map Bn,by grind,?_⟩;apply Array.ext
 ·simp
 ·intro i hi Z;obtain⟨u,hu,hok⟩:=S i cs[i] (by grind);grind [aIC]
end
section
variable {U:eO} {C:Cfg U}
theorem bBt {M:Nat->Nat->Nat->Canon U} {fuel:Nat} (J:aE C) (G:C.P.follows .mixedOrders=true) {f:FuncId} {fn:Func} {c:Code} (hf:C.P.funcs[f]?=some fn) (hb:fn.body=some c) {args:Array Value} {xs:List (aC U)} {w:World} (I:C.inv w)
  (u:tA C.E w (fun b=>b<w.heap.size) xs args) (j:(Nat.ble xs.length fn.ntmps&&Nat.ble fn.ntmps 1000000)=true) {fr:Bool} (h:tE (exec C fn.ntmps M fuel 0 c (gK xs) (bN C fr fn fun r=>r=.bool true))):
  Calls C.P f args w fun e w'=>e=.returned (.bool true)/\Below w.heap.size w w':=by
 refine(lu J I G hf hb (fun _ h=>h) u (QR (QW _ _▸j).1) (QR (QW _ _▸j).2) h.out).mono ?_
 rintro e w' ⟨v,rfl,⟨r,rfl,⟨ρ,L,_⟩⟩,O⟩
 cases L;grind
end
open Go.Deep
section
variable {P:Program}
def nJ (P:Program) (t:TypeId):Bool:=
 match P.underlying t with
 |some (.int _)|some .bool|some .string|some (.slice _)=>true
 |_=>false
def zE (P:Program) (u:TypeId->Bool) (len:TypeId->Nat):List Field->Nat->Nat->Bool
 |[],off,j=>Nat.beq off j
 |f::G,off,j=>Nat.beq f.offset off&&Nat.beq (P.cellsOf f.type) (len f.type)&&u f.type&&zE P u len G (off+P.cellsOf f.type) j
def pR (P:Program):Nat->TypeId->Bool
 |0,t=>nJ P t
 |d+1,t=>match P.underlying t with
  |some (.struct f)=>zE P (pR P d) (fun t=>(dP P d t).length) f.toList 0 (P.cellsOf t)
  |some (.array _ _)=>false
  |_=>nJ P t
variable {H:Type} {enc:TypeId×Value->H} {w:World} {base:Nat} {sp:Nat->Bool} {held:Bool}
theorem sa {t:TypeId} {fuel:Nat} {cs:List Value} {x:DataW H×List MemPlace} (j:nJ P t=true) (h:DataW.trod enc P w base sp held fuel t cs=some x):
  cs.length=1/\∃f y,DataW.trod enc P w base sp held f t [cs.getD 0 undef]=some y:=by
 have u:=h;unfold nJ at j;cases fuel with
 |zero=>cases h
 |succ fuel=>
  unfold DataW.trod at h;grind
theorem aL2 {d fuel:Nat} {cs:List Value} {I:Nat} (L:cs.length=I)
  (O:∀(t:TypeId) (cs:List Value) (x:DataW H×List MemPlace),pR P d t=true->DataW.trod enc P w base sp held fuel t cs=some x->
   cs.length=(dP P d t).length/\∀i (h:i<(dP P d t).length),∃j y,DataW.trod enc P w base sp held j ((dP P d t)[i]) [cs.getD i undef]=some y):
  ∀(u:List Field) (off:Nat),zE P (pR P d) (fun t=>(dP P d t).length) u off I=true->
   (∀f∈u,∃y,DataW.trod enc P w base sp held fuel f.type ((cs.drop f.offset).take (P.cellsOf f.type))=some y)->
   off+(u.flatMap fun f=>dP P d f.type).length=I/\∀i (h:i<(u.flatMap fun f=>dP P d f.type).length),∃j y,DataW.trod enc P w base sp held j ((u.flatMap fun f=>dP P d f.type)[i]) [cs.getD (off+i) undef]=some y:=by
 intro u
 induction u with
 |nil=>
  simp_all[zE]
 |cons f u J=>
  intro off hok G;simp only[zE,QW] at hok;obtain⟨⟨⟨h1,h2⟩,Z⟩,V⟩:=hok;have h1':=QQ h1;have h2':=QQ h2;obtain⟨y,S⟩:=G f XQ;obtain⟨e1,e2⟩:=O f.type _ y Z S;obtain⟨e3,e4⟩:=J (off+P.cellsOf f.type) V (fun g hg=>G g (by grind));simp only[List.flatMap_cons,QM];refine⟨KI,fun i hi=>?_⟩
  by_cases hlt:i<(dP P d f.type).length
  ·grind
  ·have hr:i-(dP P d f.type).length<(u.flatMap fun f=>dP P d f.type).length:=by
    omega
   grind
theorem mapM_mem {α β:Type} {f:α->Option β}:∀{l:List α} {ys:List β},l.mapM f=some ys->∀a∈l,∃y,f a=some y:=by
 intro l
 induction l with
 |nil=>grind
 |cons x l j=>
  grind [Option.bind_eq_some_iff]
theorem aLZ:∀(d:Nat) (t:TypeId) (fuel:Nat) (cs:List Value) (x:DataW H×List MemPlace),pR P d t=true->DataW.trod enc P w base sp held fuel t cs=some x->
  cs.length=(dP P d t).length/\∀i (h:i<(dP P d t).length),∃j y,DataW.trod enc P w base sp held j ((dP P d t)[i]) [cs.getD i undef]=some y:=by
 have G:∀{t:TypeId} {fuel:Nat} {cs:List Value} {x:DataW H×List MemPlace} {l:List TypeId},l=[t]->nJ P t=true->DataW.trod enc P w base sp held fuel t cs=some x->
   cs.length=l.length/\∀i (h:i<l.length),∃j y,DataW.trod enc P w base sp held j (l[i]) [cs.getD i undef]=some y:=fun {t fuel cs x l} L Z h=>by
  grind [sa]
 intro d
 induction d with
 |zero=>
  intro t fuel cs x hok h;exact G rfl hok h
 |succ d O=>
  intro t fuel cs x hok h;unfold pR at hok;split at hok
  ·rename_i u S;have L:dP P (d+1) t=u.toList.flatMap fun f=>dP P d f.type:=by
    grind [dP]
   rw[L];cases fuel with
   |zero=>cases h
   |succ fuel=>
    simp only[DataW.trod,S] at h;split at h
    ·rename_i I;obtain⟨V,J,_⟩:=Option.map_eq_some_iff.1 h;have:=aL2 (cs:=cs) I (fun t cs x=>O t fuel cs x) u.toList 0 hok (fun f hf=>mapM_mem J f hf);grind
    grind
  ·grind
  grind [dP]
theorem aL0 {d:Nat} {t:TypeId} {fuel:Nat} {cs:List Value} {x:DataW H×List MemPlace} (hok:pR P d t=true) (j:(dP P d t).all (fun u=>match P.underlying u with|some (.int .i64)=>true|_=>false)=true)
  (h:DataW.trod enc P w base sp held fuel t cs=some x):∃f:List Int,f.length=(dP P d t).length/\cs=f.map (Value.int .i64):=by
 obtain⟨I,G⟩:=aLZ d t fuel cs x hok h;refine⟨cs.map Bn,by grind,?_⟩;apply List.ext_getElem
 ·simp
 grind [List.getElem_mem,DataW.trod_int,Bn]
variable {U:eO} {C:Cfg U}
def Fits (C:Cfg U) (u:TypeId) (a:aC U):Prop:=
 match C.P.underlying u with
 |some (.int k)=>∃n,a=.int k n/\k.has n
 |some .bool=>∃b,a=.bool b
 |some .string=>∃s,a=.str s/\(s.size:Int)<=9223372036854775807
 |some (.slice e)=>∃τ xs,C.elt e=some τ/\a=.sl τ xs/\(xs.length:Int)<=9223372036854775807
 |_=>False
def K7 (C:Cfg U) (enc:TypeId×Value->H) (w:World) (e:TypeId) (τ:U.τ):Prop:=
 C.P.cellsOf e=U.size τ/\∀n f y,DataW.trod enc C.P w 0 (fun _=>true) true n e f=some y->∃z:U.T τ,∀k (j:k<(C.E.enc τ z).length),Rel C.E w cO (fF (fun _=>False) w) (C.E.enc τ z)[k] (f.getD k undef)
theorem aQk {e:TypeId} {τ:U.τ} (d:Nat) (J:C.P.cellsOf e=U.size τ) (hok:pR C.P d e=true) (j:(dP C.P d e).all (fun u=>match C.P.underlying u with|some (.int .i64)=>true|_=>false)=true) (O:(dP C.P d e).length=U.size τ)
  (I:∀f:List Int,f.length=U.size τ->∃z,C.E.enc τ z=f.map (aC.int .i64)):K7 C enc w e τ:=by
 refine⟨J,fun n Z y h=>?_⟩;obtain⟨f,V,rfl⟩:=aL0 hok j h;obtain⟨z,L⟩:=I f KI;refine⟨z,fun k S=>?_⟩;have G:k<f.length:=by grind
 simp only[L];simpa[G] using Rel.int _ _
theorem aUG {u:TypeId} {v:Value} {b0 fuel:Nat} {y:DataW H×List MemPlace} (hE:∀e,C.P.underlying u=some (.slice e)->∃τ,C.elt e=some τ/\K7 C enc w e τ)
  (f:nJ C.P u=true) (hok:Cell.okWide C.P w .any b0 u v) (h:DataW.trod enc C.P w 0 (fun _=>true) true fuel u [v]=some y):
  ∃a,Fits C u a/\Rel C.E w cO (fF (fun _=>False) w) a v:=by
 unfold nJ at f;unfold Fits;split at f
 ·rename_i k I;obtain⟨J,h2⟩:=aIC I hok;exact⟨.int k (Bn v),⟨_,rfl,by grind⟩,by rw[J];exact .int _ _⟩
 ·rename_i I;unfold Cell.okWide Cell.ok at hok;rw[I] at hok;cases v<;>first|exact⟨.bool _,⟨_,rfl⟩,.bool _⟩|grind
 ·rename_i I;unfold Cell.okWide Cell.ok at hok;rw[I] at hok;cases v<;>first|exact⟨.str _,⟨_,rfl,hok⟩,.str _⟩|grind
 ·rename_i e I;obtain⟨τ,hτ,hs,hel⟩:=hE e I;rcases open_slice I h with ⟨J,_⟩|⟨a,len,cap,m,n,D,Pl,J,hb,hl,hm,hmm,hx,hall⟩
  ·simp only[List.cons.injEq,and_true] at J;subst J;exact⟨.sl τ [],⟨τ,[],hτ,rfl,XQ⟩,.lO τ⟩
  ·simp only[List.cons.injEq,and_true] at J;subst J;have hmc:m=cap:=by grind
   subst hmc;have V:w.has C.P .any b0 a e m:=by
    unfold Cell.okWide Cell.ok at hok;grind
   obtain⟨_,G,row,cells,hsh,_⟩:=V;obtain⟨b,o,spot⟩:=a;simp only at G;subst G;have hblk:b<w.heap.size:=by
    grind [World.shape?]
   obtain⟨Z,hZ⟩:=choose_lt (α:=Option (U.T τ)×List Value) (n:=len) (p:=fun i z=>∃q,z.1=some q/\w.cells? 0 (Addr.add ⟨b,o,none⟩ (i*C.P.cellsOf e)) (C.P.cellsOf e)=some z.2/\∀k (f:k<(C.E.enc τ q).length),Rel C.E w cO (fF (fun _=>False) w) (C.E.enc τ q)[k] (z.2.getD k undef)) (fun i hi=>by
    obtain⟨L,h3,h4⟩:=hall i KI;obtain⟨z,hz⟩:=hel n L _ h4;exact⟨(some z,L),z,rfl,h3,hz⟩)
   have hxs:∃xs:List (U.T τ),xs.length=len/\∀i (h:i<xs.length),(Z i).1=some xs[i]:=by
    have:∀j,j<=len->∃xs:List (U.T τ),xs.length=j/\∀i (h:i<xs.length),(Z i).1=some xs[i]:=by
     intro j
     induction j with
     |zero=>intro _;exact⟨[],rfl,fun i h=>absurd h XQ⟩
     |succ j ihj=>
      intro hj;obtain⟨xs,e1,e2⟩:=ihj KI;obtain⟨q,hq,_⟩:=hZ j KI;refine⟨xs++[q],by grind,fun i hi=>?_⟩;grind
    exact this len (QP _)
   obtain⟨xs,e1,e2⟩:=hxs;have O:∀i (h:i<xs.length) k (f:k<(C.E.enc τ xs[i]).length),w.cell? ⟨b,o+(i*U.size τ+k),none⟩=some ((Z i).2.getD k undef)/\Rel C.E w cO (fF (fun _=>False) w) (C.E.enc τ xs[i])[k] ((Z i).2.getD k undef):=by
    intro i hi k f;obtain⟨q,hq,h3,h4⟩:=hZ i KI;have hqx:q=xs[i]:=by
     grind
    subst hqx;refine⟨?_,h4 k f⟩;obtain⟨_,hlen,hcell⟩:=World.cells?_some h3;have hk':k<U.size τ:=by rw[C.E.enc_len] at f;exact f
    grind [Addr.wT]
   have S:=C.E.pos τ;refine⟨.sl τ xs,⟨τ,xs,hτ,rfl,?_⟩,?_⟩
   ·grind [maxLen]
   ·have:=Rel.sl (E:=C.E) (w:=w) (ρ:=cO) (st:=fF (fun _=>False) w) τ xs b o m (fun j=>(Z (j / U.size τ)).2.getD (j % U.size τ) undef) ⟨hblk,fun h=>h⟩ KI (fun j hj=>by
     have h5:j / U.size τ<xs.length:=Nat.div_lt_of_lt_mul (by grind);have h6:j % U.size τ<U.size τ:=Nat.mod_lt _ S;have:=(O (j / U.size τ) h5 (j % U.size τ) (by rw[C.E.enc_len];exact h6)).1;grind [Nat.div_add_mod]) (fun i hi k f=>by
     have hk':k<U.size τ:=by rw[C.E.enc_len] at f;exact f
     have h7:(i*U.size τ+k) / U.size τ=i:=by
      grind [Nat.mul_comm,Nat.mul_add_div,Nat.div_eq_of_lt]
     grind [Nat.mul_comm,Nat.mul_add_mod,Nat.mod_eq_of_lt])
    grind
 grind
theorem aU7 {M:Nat->Nat->Nat->Canon U} {fuel:Nat} (J:aE C) (G:C.P.follows .mixedOrders=true) {f:FuncId} {fn:Func} {c:Code} (hf:C.P.funcs[f]?=some fn) (hb:fn.body=some c) {args:Array Value} {xs:List (aC U)} {w:World} (I:C.inv w)
  (u:tA C.E w (fun _=>False) xs args) (j:(Nat.ble xs.length fn.ntmps&&Nat.ble fn.ntmps 1000000)=true) {fr:Bool} (h:tE (exec C fn.ntmps M fuel 0 c (gK xs) (bN C fr fn fun r=>r=.bool true))):
  Calls C.P f args w fun e w'=>e=.returned (.bool true)/\Below w.heap.size w w':=by
 refine(lu J I G hf hb (fun _ h=>h.elim) u (QR (QW _ _▸j).1) (QR (QW _ _▸j).2) h.out).mono ?_
 rintro e w' ⟨v,rfl,⟨r,rfl,⟨ρ,L,_⟩⟩,O⟩
 cases L;grind
end
end Go.Vm
namespace Go.Proofs
open Go.Proofs.Tryz
open Go.Shelf
def aDM:Go.Shelf.Ren:=⟨fun|169=>32|n=>n,fun|70=>100|9=>9|0=>0|72=>103|37=>101|127=>151|3=>3|5=>5|n=>n,fun|n=>n⟩
theorem aUX:Go.Proofs.Lays.n169 prog aDM:=⟨KA,XJ func32,underlying0,isAgg0,sizeOf0,zeroValue0,underlying3,isAgg3,sizeOf3,zeroValue3,underlying9,isAgg9,sizeOf9,zeroValue9,underlying101,isAgg101,sizeOf101,zeroValue101,underlying100,isAgg100,sizeOf100,zeroValue100,underlying103,isAgg103,sizeOf103,zeroValue103,underlying151,isAgg151,sizeOf151,zeroValue151⟩
theorem bBq:Builder.Extra prog aDM:=⟨⟨KA,KA⟩,underlying5,isAgg5,sizeOf5,zeroValue5,KA,KA,KA,by decide⟩
def aUP:Go.Shelf.Ren:=⟨fun|171=>30|243=>72|246=>114|283=>154|284=>155|285=>156|286=>157|129=>152|317=>179|318=>180|319=>181|320=>182|337=>212|338=>213|n=>n,fun|3=>3|9=>9|2=>2|4=>4|171=>249|0=>0|53=>248|37=>101|5=>5|173=>251|212=>275|51=>246|20=>20|213=>276|46=>196|232=>307|233=>308|n=>n,fun|17=>1|18=>5|19=>6|n=>n⟩
theorem aUQ:Go.Proofs.LaysM.n171 prog aUP:=⟨⟨KA,XJ func152,XJ func30,XJ func72,XJ func114,XJ func154,XJ func155,XJ func156,XJ func157,XJ func179,XJ func180,XJ func181,XJ func182,XJ func212,XJ func213,underlying0,isAgg0,sizeOf0,zeroValue0,underlying2,isAgg2,sizeOf2,zeroValue2,underlying3,isAgg3,sizeOf3,zeroValue3,underlying4,isAgg4,sizeOf4,zeroValue4,underlying5,isAgg5,sizeOf5,zeroValue5,underlying9,isAgg9,sizeOf9,zeroValue9,underlying20,isAgg20,sizeOf20,zeroValue20,underlying101,isAgg101,sizeOf101,zeroValue101,underlying196,isAgg196,sizeOf196,zeroValue196,underlying246,isAgg246,sizeOf246,zeroValue246,underlying248,isAgg248,sizeOf248,zeroValue248,underlying249,isAgg249,sizeOf249,zeroValue249,underlying251,isAgg251,sizeOf251,zeroValue251,underlying275,isAgg275,sizeOf275,zeroValue275,underlying276,isAgg276,sizeOf276,underlying307,isAgg307,sizeOf307,zeroValue307,underlying308,isAgg308,sizeOf308,zeroValue308,KA,KA,KA⟩,KA,KA,KA,KA,KA,KA,KA,KA,KA,KA,KA,KA,KA,KA,KA,KA,KA,KA,KA⟩
open Go.RowKit Go.Sort Go.Lib in
theorem strconv_Itoa (n:Int) (G: -9223372036854775808<=n) (u:n<=9223372036854775807) (w:World) (f:Lib.TabIs prog w "internal/strconv.uint64pow10" .u64 Lib.pow10Tab):
  Calls prog 30 #[.int .i64 n] w fun e w'=>e=.returned (.string ⟨(Lib.itoa n).toArray⟩)/\∃k j,w'=grow (w.drewN k) j:=Any.strconv_Itoa aUQ n G u w f
def aUU:Go.Shelf.Ren:=⟨fun|217=>115|266=>158|n=>n,fun|9=>9|5=>5|3=>3|n=>n,fun|n=>n⟩
theorem aUV:Go.Proofs.Lays.n217 prog aUU:=⟨KA,XJ func115,XJ func158,underlying3,isAgg3,sizeOf3,zeroValue3,underlying5,isAgg5,sizeOf5,zeroValue5,underlying9,isAgg9,sizeOf9,zeroValue9⟩
def bBs:Go.Shelf.Ren:=⟨fun|219=>173|217=>115|225=>208|224=>209|267=>210|266=>158|314=>223|n=>n,fun|9=>9|3=>3|4=>4|5=>5|46=>196|146=>261|51=>246|n=>n,fun|1=>2|n=>n⟩
def aU0:Go.Shelf.Ren:=⟨fun|144=>101|143=>139|219=>173|217=>115|225=>208|224=>209|267=>210|266=>158|314=>223|n=>n,fun|9=>9|4=>4|3=>3|5=>5|46=>196|146=>261|51=>246|n=>n,fun|1=>2|n=>n⟩
theorem aU1:Go.Proofs.Lays.n144 prog aU0:=⟨KA,XJ func139,XJ func101,XJ func115,XJ func173,XJ func209,XJ func208,XJ func158,XJ func210,XJ func223,underlying3,isAgg3,sizeOf3,zeroValue3,underlying4,isAgg4,sizeOf4,zeroValue4,underlying5,isAgg5,sizeOf5,zeroValue5,underlying9,isAgg9,sizeOf9,zeroValue9,underlying196,isAgg196,sizeOf196,zeroValue196,underlying246,isAgg246,sizeOf246,zeroValue246,underlying261,isAgg261,sizeOf261,zeroValue261,KA⟩
open Go.RowKit Go.Lib in
theorem strings_Contains (s sub:ByteArray) (m:Int) (w:World) (f:s.size<4294967281) (hm:w.cell? ⟨2,0,none⟩=some (.int .i64 m)):
  Calls prog 101 #[.string s,.string sub] w fun e w'=>e=.returned (.bool (Lib.contains s.data.toList sub.data.toList))/\w'=w:=Any.strings_Contains aU1 s sub m w f hm
def aUR:Go.Shelf.Ren:=⟨fun|144=>101|143=>139|219=>173|217=>115|225=>208|224=>209|267=>210|266=>158|314=>223|n=>n,fun|9=>9|4=>4|3=>3|5=>5|46=>196|146=>261|51=>246|n=>n,fun|1=>2|n=>n⟩
theorem aUS:Go.Proofs.LaysM.n144 prog aUR:=⟨⟨KA,XJ func139,XJ func101,XJ func115,XJ func173,XJ func209,XJ func208,XJ func158,XJ func210,XJ func223,underlying3,isAgg3,sizeOf3,zeroValue3,underlying4,isAgg4,sizeOf4,zeroValue4,underlying5,isAgg5,sizeOf5,zeroValue5,underlying9,isAgg9,sizeOf9,zeroValue9,underlying196,isAgg196,sizeOf196,zeroValue196,underlying246,isAgg246,sizeOf246,zeroValue246,underlying261,isAgg261,sizeOf261,zeroValue261,KA⟩,KA,KA,KA,KA,KA,KA,KA,KA,fun w h=>Go.Proofs.cell_of_shapedOpen_int (zero:=#[.int .i64 0]) (t:=3) h (JU KA) KA rfl KA KA underlying3⟩
end Go.Proofs
namespace Go.Proofs.YtgcpildegdgekaaGreatDoor
open Go.Proofs.Tryz
abbrev zzB:=List (List Bool)
abbrev zzZ:=List (List Int)
abbrev zzI:=List Int
open Go.Vm Go.RowKit
section
variable {U:eO}
theorem mixed:prog.follows .mixedOrders=true:=Checked.mixed checked
def Gn (w:World):Prop:=∃m,w.cell? ⟨2,0,none⟩=some (.int .i64 m)
theorem aVA (w w':World) (h:Gn w) (hb:Below w.heap.size w w'):Gn w':=by
 obtain⟨m,hm⟩:=h;refine⟨m,?_⟩;rw[hb.cell ?_,hm];grind [World.cell?]
def Z9:Model U
 |[.str s,.str sub]=>some ([s.size<4294967281],.bool (Lib.contains s.data.toList sub.data.toList))
 |_=>none
theorem aO2 {C:Cfg U} (I:aE C) (L:C.P=prog) (O:∀w,C.inv w->Gn w):aE (C.add 101 Z9):=by
 refine I.put ⟨fun f w=>by simp_all,?_⟩;intro N w f xs Z r u V j hm J;unfold Z9 at hm;split at hm
 ·rename_i s sub;cases hm;obtain⟨m,hw⟩:=O w u;obtain⟨S,G⟩:=j;have e0:=G 0 XQ;have e1:=G 1 XQ;obtain⟨l⟩:=f
  match l,S with
  |[a,b],_=>
   simp at e0 e1;cases e0;cases e1;rw[L];refine(strings_Contains s sub m w J hw).mono ?_
   rintro e w' ⟨rfl,rfl⟩
   exact⟨_,rfl,jT.of rfl rfl (.bool _),Below.refl _ _⟩
 grind
def chr (s:ByteArray) (i:Int):Int:=(s.data.toList.getD i.toNat 0).toNat
def okc (c:Int):Bool:=!((decide (c<97)||decide (122<c))&&(decide (c<48)||decide (57<c)))
def Av (s:ByteArray) (i:Nat):Bool:=(s.data.toList.drop i).all fun c=>okc c.toNat
def blank:ByteArray:=⟨#[32]⟩
def aDN:Nat->Code->Code
 |n+1,.seq a b=>match b with
  | .seq _ _=>aDN n b
  |_=>a
 |_,c=>c
noncomputable def bVN:Code:=(f49.body).getD .skip
noncomputable def words:ByteArray:=match aDN 100 bVN with
 | .region _ ops _=>match ops.toList with
  |[_,_,_,⟨_,.call c,_,_,_,_⟩,_,_]=>match c.args.toList with
   |[.const (.string s),_]=>s
   |_=>⟨#[]⟩
  |_=>⟨#[]⟩
 |_=>⟨#[]⟩
noncomputable def vn (s:ByteArray):Bool:=
 !((decide ((s.size:Int)<1)||decide (8<(s.size:Int))||decide (chr s 0<97)||decide (122<chr s 0))||!Av s 0||Lib.contains words.data.toList (blank++s++blank).data.toList)
noncomputable def lVN:Code:=(Az bVN).getD 0 .skip
def MVN:Nat->Nat->Nat->Canon U:=fun _ _ _=>⟨[0,2,24,25],[],[],[],[]⟩
def Ex (s:ByteArray) (i:Int):ASt U:=
 ⟨fun u=>cond (Nat.beq u 0) (.str s) (cond (Nat.beq u 2) (.bool false) (cond (Nat.beq u 24) (.int .i64 s.size) (cond (Nat.beq u 25) (.int .i64 i) .any))),fun _=>none⟩
theorem aRk {s:ByteArray} {i:Nat} (h:i<s.size):Av s i=(okc (chr s i)&&Av s (i+1)):=by
 simp_all[Av,chr,List.drop_eq_getElem_cons]
theorem wrapped {n:Int} (j: -9223372036854775808<=n) (f:n<=9223372036854775807):IntKind.i64.wrap n=n:=by
 rw[IntKind.wrap_i64];omega
theorem aTl {C:Cfg U} (V:C.P=prog) (he:C.eff=fun _=>none) (u:C.off=0) (G:C.dep=0) (s:ByteArray) (hs:s.size<=9000) (F:Nat) (K:AEx->ASt U->Prop):∀(f r:Nat) (i:Nat),i<=s.size->s.size<f+i->(Av s i=true->K (.exit 0) (Ex s s.size))->(Av s i=false->∀j,K .ret (Ex s j))->
  iter (exec C 51 MVN F 0 lVN) (MVN 0 0) f r (Ex s i) K:=by
 obtain⟨P,E,elt,sum,eff,plain,plainOK,dp,inv,invOK,off,I,dep,dm,O,inl,inlOK,frzOf,frzOK,opqOf,opqOK,hook,hookOK⟩:=C;obtain rfl:P=prog:=V;obtain rfl:eff=fun _=>none:=he
 obtain rfl:off=0:=u;obtain rfl:dep=0:=G;intro f
 induction f with
 |zero=>omega
 |succ f S=>
  intro r i hi hf Z hR;refine back (q:=cond (decide ((i:Int)<s.size)) ((0<=(i:Int)/\(i:Int)<s.size)/\cond ((decide (chr s i<97)||decide (122<chr s i))&&(decide (chr s i<48)||decide (57<chr s i))) (K .ret (Ex s i)) (iter (exec ⟨prog,E,elt,sum,fun _=>none,plain,plainOK,dp,inv,invOK,0,I,0,dm,O,inl,inlOK,frzOf,frzOK,opqOf,opqOK,hook,hookOK⟩ 51 MVN F 0 lVN) (MVN 0 0) f (r+1) (Ex s (IntKind.i64.wrap (i+1))) K)) (K (.exit 0) (Ex s i))) KA ?_
  by_cases h:i<s.size
  ·have L:decide ((i:Int)<s.size)=true:=by grind
   rw[L];refine⟨KI,?_⟩;have J:=aRk h;cases h5:((decide (chr s i<97)||decide (122<chr s i))&&(decide (chr s i<48)||decide (57<chr s i)))
   case true=>
    grind [okc]
   case false=>
    have h3:okc (chr s i)=true:=by
     grind [okc]
    have h6:IntKind.i64.wrap ((i:Int)+1)=((i+1:Nat):Int):=by
     grind [wrapped]
    rw[h6];rw[h3] at J;exact S (r+1) (i+1) KI KI (fun q=>Z (by grind)) (fun q=>hR (by grind))
  ·have L:decide ((i:Int)<s.size)=false:=by grind
   have J:i=s.size:=KI;simp_all[List.drop_of_length_le,Av]
noncomputable def mVN:Model U
 |[.str s]=>some ([],.bool (vn s))
 |_=>none
def mu (C:Cfg U):Cfg U:=C.add 101 Z9
noncomputable def aI7 (C:Cfg U):Cfg U:=(mu C).add 49 mVN
theorem sVN {C:Cfg U} (S:aE C) (J:C.P=prog) (he:C.eff=fun _=>none) (u:C.off=0) (G:C.dep=0) (V:∀w,C.inv w->Gn w):aE (aI7 C):=by
 have L:aE (mu C):=aO2 S J V;obtain⟨P,E,elt,sum,eff,plain,plainOK,Z,inv,invOK,off,I,dep,dm,O,inl,inlOK,frzOf,frzOK,opqOf,opqOK,hook,hookOK⟩:=C;obtain rfl:P=prog:=J;obtain rfl:eff=fun _=>none:=he
 obtain rfl:off=0:=u;obtain rfl:dep=0:=G;refine L.add mixed (fn:=f49) (c:=bVN) func49 KA rfl ?_;intro xs cs r h hcs;unfold mVN at h;split at h
 ·rename_i s;cases h;refine⟨KA,MVN,s.size+1,false,?_⟩
  conv=>whnf
  refine⟨⟨fun h=>?_,fun h=>?_⟩,?_⟩
  ·simp only[JG,JS] at h;exact⟨KI,KI⟩
  ·simp only[JG,JS] at h;exact⟨KI,KI⟩
  conv=>whnf
  cases hX:(decide ((s.size:Int)<1)||decide (8<(s.size:Int))||decide (((s.data.toList.getD (Int.toNat 0) 0).toNat:Int)<97)||decide (122<((s.data.toList.getD (Int.toNat 0) 0).toNat:Int)))
  case true=>
   refine back (q:=aC.bool (U:=U) false=.bool (vn s)) KA ?_;grind [vn,chr]
  case false=>
   have f:s.size<=9000:=by
    grind
   conv=>whnf
   refine aTl (C:=mu ⟨prog,E,elt,sum,fun _=>none,plain,plainOK,Z,inv,invOK,0,I,0,dm,O,inl,inlOK,frzOf,frzOK,opqOf,opqOK,hook,hookOK⟩) rfl rfl rfl rfl s f _ _ (s.size+1) 0 0 KI KI (fun q=>?_) (fun q j=>?_)
   ·refine back (q:=(((blank.size:Int)+s.size<=9223372036854775807)/\(((blank++s).size:Int)+blank.size<=9223372036854775807)/\words.size<4294967281)/\aC.bool (U:=U) (!Lib.contains words.data.toList (blank++s++blank).data.toList)=.bool (vn s)) KA ?_;have hw:words.size<4294967281:=JU KA;have hb:blank.size=1:=rfl;grind [vn,chr]
   ·refine back (q:=aC.bool (U:=U) false=.bool (vn s)) KA ?_;grind [vn]
 grind
end
end Go.Proofs.YtgcpildegdgekaaGreatDoor
namespace Go.Proofs.YtgcpildegdgekaaGreatDoor
open Go.Proofs.Tryz
open Go.Vm Go.RowKit
def vM (s:ByteArray) (w:World) (base:Nat) (p:Option (Nat×Value)) (f:Nat->Option (Nat×Value)):Prop:=
 ∃b v,p=some (0,.pointer (some ⟨b,0,none⟩))/\Ji 103 5 base b v (Lib.strCells s) w/\(∀j,f (j+1)=none)/\(v=.slice none 0 0/\f 0=none\/∃g,f 0=some (g,v))
def Lh (w:World) (base:Nat) (p:Option (Nat×Value)) (f:Nat->Option (Nat×Value)):Prop:=
 (∃b,p=some (0,.pointer (some ⟨b,0,none⟩))/\base<=b/\b<w.heap.size)/\∀i g u,f i=some (g,u)->u.oneCell'=true/\∀b,blk u=some b->base<=b/\b<w.heap.size
theorem C7 {w:World} {base:Nat} {e:TypeId} {m k:Nat} {u:Value} {cs:List Value} (h:w.ownsRow base e m u k cs):∀a,u≠ .pointer a:=fun a=>by
 rcases h.2 with ⟨rfl,_⟩|⟨_,_,_,rfl,_⟩<;>intro e<;>cases e
theorem aOw {s:ByteArray} {w:World} {base:Nat} {p:Option (Nat×Value)} {f:Nat->Option (Nat×Value)} (h:vM s w base p f):∃g u,p=some (g,u)/\u.oneCell'=true/\∀b,blk u=some b->base<=b/\b<w.heap.size:=by
 obtain⟨b,v,hp,⟨I,⟨q,_,G⟩,_⟩,_⟩:=h;refine⟨_,_,hp,rfl,fun J j=>?_⟩;simp only[blk,QJ] at j;subst j;exact⟨I,(QD.1 G).1⟩
theorem aOu {w:World} {base:Nat} {p:Option (Nat×Value)} {f:Nat->Option (Nat×Value)} (h:Lh w base p f):∃g u,p=some (g,u)/\u.oneCell'=true/\∀b,blk u=some b->base<=b/\b<w.heap.size:=by
 obtain⟨⟨b,hp,I,G⟩,_⟩:=h;refine⟨_,_,hp,rfl,fun J j=>?_⟩;simp only[blk,QJ] at j;subst j;exact⟨I,G⟩
theorem vo {s:ByteArray} {w:World} {base:Nat} {p:Option (Nat×Value)} {f:Nat->Option (Nat×Value)} {i g:Nat} {u:Value} (h:vM s w base p f) (G:f i=some (g,u)):u.oneCell'=true/\∀b,blk u=some b->base<=b/\b<w.heap.size:=by
 obtain⟨b,v,hp,⟨_,_,J,_⟩,L,I⟩:=h;cases i with
 |succ j=>rw[L] at G;cases G
 |zero=>
  rcases I with ⟨_,I⟩|⟨O,I⟩
  ·rw[I] at G;cases G
  ·rw[I] at G;cases G;exact sE J (C7 J)
theorem aOx {s:ByteArray} {w w':World} {base:Nat} {p:Option (Nat×Value)} {f:Nat->Option (Nat×Value)} (h:vM s w base p f) (h1:∀g u b,p=some (g,u)->blk u=some b->w'.heap[b]?=w.heap[b]?)
  (h2:∀i g u b,f i=some (g,u)->blk u=some b->w'.heap[b]?=w.heap[b]?):vM s w' base p f:=by
 obtain⟨b,v,hp,⟨Z,⟨q,V,S⟩,I,O,L⟩,h4,j⟩:=h;refine⟨b,v,hp,⟨Z,⟨q,V,by rw[h1 _ _ b hp rfl];exact S⟩,⟨I.1,?_⟩,O,L⟩,h4,j⟩;rcases I.2 with hn|⟨J,G,cur,rfl,hb,hg,rest⟩
 ·exact .inl hn
 ·rcases j with ⟨e,_⟩|⟨g,j⟩
  ·cases e
  ·exact .inr ⟨J,G,cur,rfl,hb,by rw[h2 0 g _ J j rfl];exact hg,rest⟩
theorem aOv {w w':World} {base:Nat} {p:Option (Nat×Value)} {f:Nat->Option (Nat×Value)} (h:Lh w base p f) (O:∀g u b,p=some (g,u)->blk u=some b->w'.heap[b]?=w.heap[b]?)
  (L:∀i g u b,f i=some (g,u)->blk u=some b->w'.heap[b]?=w.heap[b]?):Lh w' base p f:=by
 obtain⟨⟨b,hp,J,I⟩,G⟩:=h;have lt:∀b,b<w.heap.size->w'.heap[b]?=w.heap[b]?->b<w'.heap.size:=fun b hb e=>by
  rw[Array.getElem?_eq_getElem hb] at e;exact(QD.1 e).1
 refine⟨⟨b,hp,J,lt b I (O _ _ b hp rfl)⟩,fun i g u j=>⟨(G i g u j).1,fun b hb=>?_⟩⟩;have:=(G i g u j).2 b hb;exact⟨this.1,lt b this.2 (L i g u b j hb)⟩
def aHL (w:World):Prop:=w.cell? ⟨0,0,none⟩=some (.iface 225 (.agg #[.pointer (some ⟨9,87,none⟩)]))
def inv1 (w:World):Prop:=(Gn w/\aHL w)/\Lib.TabIs prog w "internal/strconv.uint64pow10" .u64 Lib.pow10Tab
theorem aZZ {w w':World} {g:Nat} {v:Value} (h:w.cell? ⟨g,0,none⟩=some v) (hb:Below w.heap.size w w'):w'.cell? ⟨g,0,none⟩=some v:=by
 rw[hb.cell ?_,h];show g<w.heap.size;rcases Nat.lt_or_ge g w.heap.size with f|f
 ·exact f
 ·have j:w.heap[g]?=none:=by simp[f]
  simp[World.cell?,j] at h
theorem aUz (w w':World) (h:inv1 w) (hb:Below w.heap.size w w'):inv1 w':=by
 obtain⟨⟨I,j⟩,f⟩:=h;refine⟨⟨aVA w w' I hb,aZZ j hb⟩,?_⟩;unfold Lib.TabIs World.var? at*;cases u:prog.globalNamed "internal/strconv.uint64pow10" with
 |none=>rw[u] at f;cases f
 |some g=>
  rw[u] at f;simp only[Option.bind_some] at f ⊢;rcases Nat.lt_or_ge g w.heap.size with j|j
  ·rw[hb.block g j];exact f
  ·have G:w.heap[g]?=none:=by simp[j]
   rw[G] at f;cases f
theorem bAb (w:World) (base:Nat) (h:base<=w.heap.size):∃w',(Instr.alloc 103 true (.tuple #[])).run prog w=.ok (.pointer (some ⟨w.heap.size,0,none⟩)) w'/\Below w.heap.size w w'/\
  vM ByteArray.empty w' base (some (0,.pointer (some ⟨w.heap.size,0,none⟩))) (fun _=>none):=by
 have f:(zeroValue 103).run prog w=.ok (.agg #[.pointer none,.slice none 0 0]) w:=zeroValue103 w;refine⟨w.alloc (.cells #[.pointer none,.slice none 0 0] 103),?_,⟨rfl,rfl,rfl,XQ,fun k j=>heap_alloc_old w _ j⟩,w.heap.size,.slice none 0 0,rfl,⟨h,⟨.pointer none,.inl rfl,heap_alloc_new w _⟩,JV _ _ _ _,by simp[Value.ownBlock],by constructor<;>intro _<;>rfl⟩,fun _=>rfl,.inl ⟨rfl,rfl⟩⟩
 simp[Instr.alloc,f,newVar,newRow,Value.cells]
def jN:List (Int×Value)->Nat->List MapEntry
 |[],_=>[]
 | (k,v)::l,c=>{key:=.int .i64 k,val:=v,born:=c}::jN l (c+1)
def vG (z:Value):List (Int×Value)->Int->Value
 |[],_=>z
 | (k,v)::l,n=>cond (n==k) v (vG z l n)
def kC:zzI->Int->Bool
 |[],_=>false
 |k::l,n=>cond (n==k) true (kC l n)
def gI:List (Int×ByteArray)->Int->ByteArray
 |[],_=>ByteArray.empty
 | (k,v)::l,n=>cond (n==k) v (gI l n)
def strs (l:List (Int×ByteArray)):List (Int×Value):=l.map fun p=>(p.1,.string p.2)
theorem tw:∀(l:List (Int×ByteArray)) (n:Int),vG (.string ByteArray.empty) (strs l) n=.string (gI l n)
 |[],n=>rfl
 | (k,v)::l,n=>by
  have f:=tw l n;unfold strs at f ⊢;simp only[List.map_cons,vG,gI];cases n==k
  ·exact f
  ·rfl
theorem jo (n:Int) (z:Value):∀(l:List (Int×Value)) (c i:Nat),∃r,Instr.findNow (.int .i64) (.int .i64 n) (jN l c) i=some r/\
  ((kC (l.map (·.1)) n=false/\r=none/\vG z l n=z)\/(kC (l.map (·.1)) n=true/\∃j,r=some (j,vG z l n)))
 |[],c,i=>⟨none,rfl,.inl ⟨rfl,rfl,rfl⟩⟩
 | (k,v)::l,c,i=>by
  obtain⟨r,u,f⟩:=jo n z l (c+1) (i+1);simp only[jN,Instr.findNow,Instr.sameNow,if_true,List.map_cons,kC,vG];cases hb:n==k with
  |true=>exact⟨some (i,v),rfl,.inr ⟨rfl,i,rfl⟩⟩
  |false=>exact⟨r,u,f⟩
theorem aHz {k:TypeId} (f:prog.underlying k=some (.int .i64)) {q:Bool} {n:Int} {w:World}:(Instr.checkKey q 10000 k (.int .i64 n)).run prog w=.ok () w:=by
 rw[show (10000:Nat)=9999+1 from rfl];unfold Instr.checkKey;simp only[QE,QV f,QL];rfl
theorem aCr {t k e:TypeId} (G:prog.underlying t=some (.map k e)) (I:prog.underlying k=some (.int .i64)) {z:Value} {w:World} (O:(zeroValue e).run prog w=.ok z w) {b f:Nat} {l:List (Int×Value)} (hb:w.heap[b]?=some (.map (jN l 0).toArray f)) (n:Int):
  (Instr.lookup t (.map (some b)) (.int .i64 n) true).run prog w=.ok (.tuple #[vG z l n,.bool (kC (l.map (·.1)) n)]) w:=by
 obtain⟨r,Z,V⟩:=jo n z l 0 0;have L:∀q,(Instr.checkKey q 10000 k (.int .i64 n)).run prog w=.ok () w:=fun q=>by
  rw[aHz I]
 have hf:(Instr.findKey k (.int .i64 n) (jN l 0)).run prog w=.ok r w:=by
  unfold Instr.findKey;simp only[QE,QV I,QL,Z,JO]
 have J:=MapKept.run_getObj_map (P:=prog) hb;unfold Instr.lookup;rcases V with ⟨u,rfl,S⟩|⟨u,j,rfl⟩
 ·simp only[QE,QV G,QL,J,L,hf,O,JO];rw[u,S];rfl
 ·simp only[QE,QV G,QL,J,L,hf,JO];rw[u];rfl
theorem aHR:∀(l:List (Int×Value)) (c:Nat) (n:Int) (v:Value),jN (l++[(n,v)]) c=jN l c++[{key:=.int .i64 n,val:=v,born:=c+l.length}]
 |[],c,n,v=>rfl
 | (k,x)::l,c,n,v=>by
  simp only[List.cons_append,jN,aHR l (c+1) n v,QN];rw[show c+1+l.length=c+(l.length+1) by omega]
theorem aVD {t k e:TypeId} (j:prog.underlying t=some (.map k e)) (f:prog.underlying k=some (.int .i64)) {w:World} {b:Nat} {l:List (Int×Value)} (hb:w.heap[b]?=some (.map (jN l 0).toArray l.length)) (n:Int) (v:Value) (I:kC (l.map (·.1)) n=false):
  (Instr.mapUpdate t (.map (some b)) (.int .i64 n) v).run prog w=.ok () {w with heap:=w.heap.setIfInBounds b (.map (jN (l++[(n,v)]) 0).toArray (l++[(n,v)]).length)}:=by
 obtain⟨r,O,L⟩:=jo n (.map none) l 0 0;have G:r=none:=by
  rcases L with ⟨_,h,_⟩|⟨h,_⟩
  ·exact h
  ·rw[I] at h;cases h
 subst G;have hf:(Instr.findKey k (.int .i64 n) (jN l 0)).run prog w=.ok none w:=by
  unfold Instr.findKey;simp only[QE,QV f,QL,O,JO]
 have J:=MapKept.run_getObj_map (P:=prog) hb;have u:=MapKept.run_setObj_map (P:=prog) (.map ((jN l 0).toArray.push {key:=.int .i64 n,val:=v,born:=l.length}) (l.length+1)) hb;unfold Instr.mapUpdate;simp only[QE,QV j,QL,J,aHz f,hf,u];rw[aHR,QM,JD];have e:∀x:MapEntry,(jN l 0).toArray.push x=(jN l 0++[x]).toArray:=fun x=>XQ
 rw[e];rfl
inductive Frz where
 |D
 |W1
 |W2
 |W3
def kW:List (Int×ByteArray):=[(1,ByteArray.mk #[109,111,118,101]),(2,ByteArray.mk #[108,105,110,101]),(4,ByteArray.mk #[98,114,101,97,107]),(3,ByteArray.mk #[115,116,97,109,112])]
def kV:List (Int×ByteArray):=[(1,ByteArray.mk #[109]),(2,ByteArray.mk #[108]),(4,ByteArray.mk #[98]),(3,ByteArray.mk #[115])]
def Ek:List (Int×ByteArray):=[(5,ByteArray.mk #[109,111,117,110,116]),(6,ByteArray.mk #[98,101,110,100])]
def fv (f:Nat):Value:=.func (.func f) #[] #[]
def lD (v1 j f:Value):List (Int×Value):=[(1,.agg #[v1,fv 65,fv 67]),(2,.agg #[j,fv 66,fv 68]),(3,.agg #[f,fv 69,fv 70])]
def isMap (l:List (Int×Value)) (w:World) (st:Nat->Prop) (v:Value):Prop:=∃b,v=.map (some b)/\st b/\w.heap[b]?=some (.map (jN l 0).toArray l.length)
def Hc:Frz->World->(Nat->Prop)->Value->Prop
 | .W1,w,f,v=>isMap (strs kW) w f v
 | .W2,w,f,v=>isMap (strs kV) w f v
 | .W3,w,f,v=>isMap (strs Ek) w f v
 | .D,w,f,v=>∃G u j,isMap (strs kW) w f G/\isMap (strs kV) w f u/\isMap (strs Ek) w f j/\isMap (lD G u j) w f v
theorem Oa {l:List (Int×Value)} {w w':World} {st st':Nat->Prop} {v:Value} (h:isMap l w st v) (f:∀b,st b->st' b/\w'.heap[b]?=w.heap[b]?):isMap l w' st' v:=by
 obtain⟨b,rfl,j,u⟩:=h;exact⟨b,rfl,(f b j).1,(f b j).2.trans u⟩
theorem aW1:∀k w w' u j v,Hc k w u v->(∀b,u b->j b/\w'.heap[b]?=w.heap[b]?)->Hc k w' j v:=by
 intro k w w' u j v h f;cases k with
 |D=>
  obtain⟨J,I,G,V,S,O,L⟩:=h;exact⟨J,I,G,Oa V f,Oa S f,Oa O f,Oa L f⟩
 |_=>exact Oa h f
theorem aW2:∀k w f v,Hc k w f v->v.oneCell'=true:=by
 intro k w f v h;cases k with
 |D=>
  obtain⟨G,u,j,L,J,I,b,rfl,_⟩:=h;rfl
 |_=>
  obtain⟨b,rfl,_⟩:=h;rfl
def M (l:List (Int×Value)):Obj:=.map (jN l 0).toArray l.length
def gr (w:World) (xs:List Obj):World:={w with heap:=w.heap++xs.toArray}
theorem Ov (w:World) (xs:List Obj) (i:Nat):(gr w xs).heap[w.heap.size+i]?=xs[i]?:=by
 show (w.heap++xs.toArray)[w.heap.size+i]?=_;grind
theorem aVi (w:World) (xs:List Obj):Below w.heap.size w (gr w xs):=
 ⟨rfl,rfl,rfl,by simp[gr],fun k f=>by show (w.heap++xs.toArray)[k]?=_;grind⟩
theorem Ww (t:TypeId) (w:World) (xs:List Obj):(Instr.makeMap t none).run prog (gr w xs)=.ok (.map (some (w.heap.size+xs.length))) (gr w (xs++[M []])):=by
 have e:∀(w':World),(Instr.makeMap t none).run prog w'=.ok (.map (some w'.heap.size)) {w' with heap:=w'.heap.push (.map #[] 0)}:=fun w'=>rfl
 grind [gr,M,jN]
theorem sM {t k e:TypeId} (u:prog.underlying t=some (.map k e)) (I:prog.underlying k=some (.int .i64)) (w:World) (xs f:List Obj) (i:Nat) (l:List (Int×Value)) (n:Int) (v:Value) (j:xs[i]?=some (M l)) (G:kC (l.map (·.1)) n=false) (J:xs.set i (M (l++[(n,v)]))=f):
  (Instr.mapUpdate t (.map (some (w.heap.size+i))) (.int .i64 n) v).run prog (gr w xs)=.ok () (gr w f):=by
 have hb:(gr w xs).heap[w.heap.size+i]?=some (.map (jN l 0).toArray l.length):=(Ov w xs i).trans j;rw[aVD u I hb n v G,<- J];simp_all[gr,M]
theorem du {t k e:TypeId} (u:prog.underlying t=some (.map k e)) (I:prog.underlying k=some (.int .i64)) (w:World) (xs f:List Obj) (l:List (Int×Value)) (n:Int) (v:Value) (j:xs[0]?=some (M l)) (G:kC (l.map (·.1)) n=false) (J:xs.set 0 (M (l++[(n,v)]))=f):
  (Instr.mapUpdate t (.map (some w.heap.size)) (.int .i64 n) v).run prog (gr w xs)=.ok () (gr w f):=
 sM u I w xs f 0 l n v j G J
theorem aY9 (w:World):Calls prog 26 #[] w fun e w'=>e=.returned (.map (some w.heap.size))/\
  w'=gr w [M (lD (.map (some (w.heap.size+1))) (.map (some (w.heap.size+2))) (.map (some (w.heap.size+3)))),M (strs kW),M (strs kV),M (strs Ek)]:=by
 have f:Calls prog 26 #[] (gr w []) fun e w'=>e=.returned (.map (some w.heap.size))/\
   w'=gr w [M (lD (.map (some (w.heap.size+1))) (.map (some (w.heap.size+2))) (.map (some (w.heap.size+3)))),M (strs kW),M (strs kV),M (strs Ek)]:=by
  go_enter func26,ntmps26
  go_wp2
  rw[Ww]
  go_wp2
  rw[Ww]
  go_wp2
  rw[sM underlying92 underlying3 w _ [M [],M [(1,.string (ByteArray.mk #[109,111,118,101]))]] 1 [] 1 (.string (ByteArray.mk #[109,111,118,101])) rfl rfl rfl]
  go_wp2
  rw[sM underlying92 underlying3 w _ [M [],M [(1,.string (ByteArray.mk #[109,111,118,101])),(2,.string (ByteArray.mk #[108,105,110,101]))]] 1 [(1,.string (ByteArray.mk #[109,111,118,101]))] 2 (.string (ByteArray.mk #[108,105,110,101])) rfl rfl rfl]
  go_wp2
  rw[sM underlying92 underlying3 w _ [M [],M [(1,.string (ByteArray.mk #[109,111,118,101])),(2,.string (ByteArray.mk #[108,105,110,101])),(4,.string (ByteArray.mk #[98,114,101,97,107]))]] 1 [(1,.string (ByteArray.mk #[109,111,118,101])),(2,.string (ByteArray.mk #[108,105,110,101]))] 4 (.string (ByteArray.mk #[98,114,101,97,107])) rfl rfl rfl]
  go_wp2
  rw[sM underlying92 underlying3 w _ [M [],M [(1,.string (ByteArray.mk #[109,111,118,101])),(2,.string (ByteArray.mk #[108,105,110,101])),(4,.string (ByteArray.mk #[98,114,101,97,107])),(3,.string (ByteArray.mk #[115,116,97,109,112]))]] 1 [(1,.string (ByteArray.mk #[109,111,118,101])),(2,.string (ByteArray.mk #[108,105,110,101])),(4,.string (ByteArray.mk #[98,114,101,97,107]))] 3 (.string (ByteArray.mk #[115,116,97,109,112])) rfl rfl rfl]
  go_wp2
  rw[du underlying98 underlying3 w _ [M [(1,.agg #[.map (some (w.heap.size+1)),Value.func (Fn.func 65) #[] #[],Value.func (Fn.func 67) #[] #[]])],M [(1,.string (ByteArray.mk #[109,111,118,101])),(2,.string (ByteArray.mk #[108,105,110,101])),(4,.string (ByteArray.mk #[98,114,101,97,107])),(3,.string (ByteArray.mk #[115,116,97,109,112]))]] [] 1 (.agg #[.map (some (w.heap.size+1)),Value.func (Fn.func 65) #[] #[],Value.func (Fn.func 67) #[] #[]]) rfl rfl rfl]
  go_wp2
  rw[Ww]
  go_wp2
  rw[sM underlying92 underlying3 w _ [M [(1,.agg #[.map (some (w.heap.size+1)),Value.func (Fn.func 65) #[] #[],Value.func (Fn.func 67) #[] #[]])],M [(1,.string (ByteArray.mk #[109,111,118,101])),(2,.string (ByteArray.mk #[108,105,110,101])),(4,.string (ByteArray.mk #[98,114,101,97,107])),(3,.string (ByteArray.mk #[115,116,97,109,112]))],M [(1,.string (ByteArray.mk #[109]))]] 2 [] 1 (.string (ByteArray.mk #[109])) rfl rfl rfl]
  go_wp2
  rw[sM underlying92 underlying3 w _ [M [(1,.agg #[.map (some (w.heap.size+1)),Value.func (Fn.func 65) #[] #[],Value.func (Fn.func 67) #[] #[]])],M [(1,.string (ByteArray.mk #[109,111,118,101])),(2,.string (ByteArray.mk #[108,105,110,101])),(4,.string (ByteArray.mk #[98,114,101,97,107])),(3,.string (ByteArray.mk #[115,116,97,109,112]))],M [(1,.string (ByteArray.mk #[109])),(2,.string (ByteArray.mk #[108]))]] 2 [(1,.string (ByteArray.mk #[109]))] 2 (.string (ByteArray.mk #[108])) rfl rfl rfl]
  go_wp2
  rw[sM underlying92 underlying3 w _ [M [(1,.agg #[.map (some (w.heap.size+1)),Value.func (Fn.func 65) #[] #[],Value.func (Fn.func 67) #[] #[]])],M [(1,.string (ByteArray.mk #[109,111,118,101])),(2,.string (ByteArray.mk #[108,105,110,101])),(4,.string (ByteArray.mk #[98,114,101,97,107])),(3,.string (ByteArray.mk #[115,116,97,109,112]))],M [(1,.string (ByteArray.mk #[109])),(2,.string (ByteArray.mk #[108])),(4,.string (ByteArray.mk #[98]))]] 2 [(1,.string (ByteArray.mk #[109])),(2,.string (ByteArray.mk #[108]))] 4 (.string (ByteArray.mk #[98])) rfl rfl rfl]
  go_wp2
  rw[sM underlying92 underlying3 w _ [M [(1,.agg #[.map (some (w.heap.size+1)),Value.func (Fn.func 65) #[] #[],Value.func (Fn.func 67) #[] #[]])],M [(1,.string (ByteArray.mk #[109,111,118,101])),(2,.string (ByteArray.mk #[108,105,110,101])),(4,.string (ByteArray.mk #[98,114,101,97,107])),(3,.string (ByteArray.mk #[115,116,97,109,112]))],M [(1,.string (ByteArray.mk #[109])),(2,.string (ByteArray.mk #[108])),(4,.string (ByteArray.mk #[98])),(3,.string (ByteArray.mk #[115]))]] 2 [(1,.string (ByteArray.mk #[109])),(2,.string (ByteArray.mk #[108])),(4,.string (ByteArray.mk #[98]))] 3 (.string (ByteArray.mk #[115])) rfl rfl rfl]
  go_wp2
  rw[du underlying98 underlying3 w _ [M [(1,.agg #[.map (some (w.heap.size+1)),Value.func (Fn.func 65) #[] #[],Value.func (Fn.func 67) #[] #[]]),(2,.agg #[.map (some (w.heap.size+2)),Value.func (Fn.func 66) #[] #[],Value.func (Fn.func 68) #[] #[]])],M [(1,.string (ByteArray.mk #[109,111,118,101])),(2,.string (ByteArray.mk #[108,105,110,101])),(4,.string (ByteArray.mk #[98,114,101,97,107])),(3,.string (ByteArray.mk #[115,116,97,109,112]))],M [(1,.string (ByteArray.mk #[109])),(2,.string (ByteArray.mk #[108])),(4,.string (ByteArray.mk #[98])),(3,.string (ByteArray.mk #[115]))]] [(1,.agg #[.map (some (w.heap.size+1)),Value.func (Fn.func 65) #[] #[],Value.func (Fn.func 67) #[] #[]])] 2 (.agg #[.map (some (w.heap.size+2)),Value.func (Fn.func 66) #[] #[],Value.func (Fn.func 68) #[] #[]]) rfl rfl rfl]
  go_wp2
  rw[Ww]
  go_wp2
  rw[sM underlying92 underlying3 w _ [M [(1,.agg #[.map (some (w.heap.size+1)),Value.func (Fn.func 65) #[] #[],Value.func (Fn.func 67) #[] #[]]),(2,.agg #[.map (some (w.heap.size+2)),Value.func (Fn.func 66) #[] #[],Value.func (Fn.func 68) #[] #[]])],M [(1,.string (ByteArray.mk #[109,111,118,101])),(2,.string (ByteArray.mk #[108,105,110,101])),(4,.string (ByteArray.mk #[98,114,101,97,107])),(3,.string (ByteArray.mk #[115,116,97,109,112]))],M [(1,.string (ByteArray.mk #[109])),(2,.string (ByteArray.mk #[108])),(4,.string (ByteArray.mk #[98])),(3,.string (ByteArray.mk #[115]))],M [(5,.string (ByteArray.mk #[109,111,117,110,116]))]] 3 [] 5 (.string (ByteArray.mk #[109,111,117,110,116])) rfl rfl rfl]
  go_wp2
  rw[sM underlying92 underlying3 w _ [M [(1,.agg #[.map (some (w.heap.size+1)),Value.func (Fn.func 65) #[] #[],Value.func (Fn.func 67) #[] #[]]),(2,.agg #[.map (some (w.heap.size+2)),Value.func (Fn.func 66) #[] #[],Value.func (Fn.func 68) #[] #[]])],M [(1,.string (ByteArray.mk #[109,111,118,101])),(2,.string (ByteArray.mk #[108,105,110,101])),(4,.string (ByteArray.mk #[98,114,101,97,107])),(3,.string (ByteArray.mk #[115,116,97,109,112]))],M [(1,.string (ByteArray.mk #[109])),(2,.string (ByteArray.mk #[108])),(4,.string (ByteArray.mk #[98])),(3,.string (ByteArray.mk #[115]))],M [(5,.string (ByteArray.mk #[109,111,117,110,116])),(6,.string (ByteArray.mk #[98,101,110,100]))]] 3 [(5,.string (ByteArray.mk #[109,111,117,110,116]))] 6 (.string (ByteArray.mk #[98,101,110,100])) rfl rfl rfl]
  go_wp2
  rw[du underlying98 underlying3 w _ [M [(1,.agg #[.map (some (w.heap.size+1)),Value.func (Fn.func 65) #[] #[],Value.func (Fn.func 67) #[] #[]]),(2,.agg #[.map (some (w.heap.size+2)),Value.func (Fn.func 66) #[] #[],Value.func (Fn.func 68) #[] #[]]),(3,.agg #[.map (some (w.heap.size+3)),Value.func (Fn.func 69) #[] #[],Value.func (Fn.func 70) #[] #[]])],M [(1,.string (ByteArray.mk #[109,111,118,101])),(2,.string (ByteArray.mk #[108,105,110,101])),(4,.string (ByteArray.mk #[98,114,101,97,107])),(3,.string (ByteArray.mk #[115,116,97,109,112]))],M [(1,.string (ByteArray.mk #[109])),(2,.string (ByteArray.mk #[108])),(4,.string (ByteArray.mk #[98])),(3,.string (ByteArray.mk #[115]))],M [(5,.string (ByteArray.mk #[109,111,117,110,116])),(6,.string (ByteArray.mk #[98,101,110,100]))]] [(1,.agg #[.map (some (w.heap.size+1)),Value.func (Fn.func 65) #[] #[],Value.func (Fn.func 67) #[] #[]]),(2,.agg #[.map (some (w.heap.size+2)),Value.func (Fn.func 66) #[] #[],Value.func (Fn.func 68) #[] #[]])] 3 (.agg #[.map (some (w.heap.size+3)),Value.func (Fn.func 69) #[] #[],Value.func (Fn.func 70) #[] #[]]) rfl rfl rfl]
  go_wp2
  go_ret
  exact⟨rfl,rfl⟩
 assumption
structure Seg where
 X1:Int
 Y1:Int
 X2:Int
 Y2:Int
instance:Inhabited Seg:=⟨⟨default,default,default,default⟩⟩
structure aA where
 X:Int
 Y:Int
 W:Int
 H:Int
instance:Inhabited aA:=⟨⟨default,default,default,default⟩⟩
structure Opn where
 Kind:Int
 X:Int
 Y:Int
 W:Int
 H:Int
 N:Int
instance:Inhabited Opn:=⟨⟨default,default,default,default,default,default⟩⟩
structure Par where
 e0:Int
 e1:Int
instance:Inhabited Par:=⟨⟨default,default⟩⟩
structure Pce where
 Name:ByteArray
 Material:ByteArray
 Gauge:Int
 Grain:Int
 Rects:List aA
 Cuts:List aA
 Forms:List aA
instance:Inhabited Pce:=⟨⟨default,default,default,default,default,default,default⟩⟩
structure Edg where
 qaf:Int
 qag:Int
 qaj:Int
 qak:Int
 A:Int
 B:Int
instance:Inhabited Edg:=⟨⟨default,default,default,default,default,default⟩⟩
structure Itm where
 Piece:Int
 Hole:Int
 Joints:Int
 Lead_X:Int
 Lead_Y:Int
instance:Inhabited Itm:=⟨⟨default,default,default,default,default⟩⟩
inductive Knd where
 |seg
 |rect
 |op
 |int
 |str
 |rects
 |bool
 |bools
 |ints
 |par
 |pc
 |edge
 |item
def Knd.num:Knd->Nat
 | .seg=>0
 | .rect=>1
 | .op=>2
 | .int=>3
 | .str=>4
 | .rects=>5
 | .bool=>6
 | .bools=>7
 | .ints=>8
 | .par=>9
 | .pc=>10
 | .edge=>11
 | .item=>12
theorem Knd.aRo:∀{a b:Knd},a.num=b.num->a=b:=by
 intro a b h;cases a<;>cases b<;>first|rfl|cases h
def Knd.deq (a b:Knd):Decidable (a=b):=if h:a.num=b.num then .isTrue (Knd.aRo h) else .isFalse fun e=>h (by rw[e])
inductive Opq where
 |bld
 |dead
abbrev UU:eO where
 τ:=Knd
 deq:=Knd.deq
 T:=fun k=>match k with
  | .seg=>Seg
  | .rect=>aA
  | .op=>Opn
  | .int=>Int
  | .str=>ByteArray
  | .rects=>List aA
  | .bool=>Bool
  | .bools=>List Bool
  | .ints=>zzI
  | .par=>Par
  | .pc=>Pce
  | .edge=>Edg
  | .item=>Itm
 ety:=fun k=>match k with
  | .seg=>73
  | .rect=>63
  | .op=>65
  | .int=>3
  | .str=>9
  | .rects=>22
  | .bool=>4
  | .bools=>53
  | .ints=>55
  | .par=>207
  | .pc=>61
  | .edge=>75
  | .item=>69
 size:=fun k=>match k with
  | .seg=>4
  | .rect=>4
  | .op=>6
  | .int=>1
  | .str=>1
  | .rects=>1
  | .bool=>1
  | .bools=>1
  | .ints=>1
  | .par=>2
  | .pc=>7
  | .edge=>6
  | .item=>5
 unsl:=fun t j=>match t,j with
  | .rects,.rect=>fun f=>some f
  | .bools,.bool=>fun f=>some f
  | .ints,.int=>fun f=>some f
  |_,_=>fun _=>none
 κ:=Opq
 K:=fun k=>match k with
  | .bld=>ByteArray
  | .dead=>Unit
 φ:=Frz
def Bv:(t:Knd)->UU.T t->List (aC UU)
 | .seg,x=>[.int .i64 (Seg.X1 x),.int .i64 (Seg.Y1 x),.int .i64 (Seg.X2 x),.int .i64 (Seg.Y2 x)]
 | .rect,x=>[.int .i64 (aA.X x),.int .i64 (aA.Y x),.int .i64 (aA.W x),.int .i64 (aA.H x)]
 | .op,x=>[.int .i64 (Opn.Kind x),.int .i64 (Opn.X x),.int .i64 (Opn.Y x),.int .i64 (Opn.W x),.int .i64 (Opn.H x),.int .i64 (Opn.N x)]
 | .int,x=>[.int .i64 x]
 | .str,x=>[.str x]
 | .rects,x=>[.sl .rect x]
 | .bool,x=>[.bool x]
 | .bools,x=>[.sl .bool x]
 | .ints,x=>[.sl .int x]
 | .par,x=>[.int .i64 (Par.e0 x),.int .i64 (Par.e1 x)]
 | .pc,x=>[.str (Pce.Name x),.str (Pce.Material x),.int .i64 (Pce.Gauge x),.int .i64 (Pce.Grain x),.sl .rect (Pce.Rects x),.sl .rect (Pce.Cuts x),.sl .rect (Pce.Forms x)]
 | .edge,x=>[.int .i64 (Edg.qaf x),.int .i64 (Edg.qag x),.int .i64 (Edg.qaj x),.int .i64 (Edg.qak x),.int .i64 (Edg.A x),.int .i64 (Edg.B x)]
 | .item,x=>[.int .i64 (Itm.Piece x),.int .i64 (Itm.Hole x),.int .i64 (Itm.Joints x),.int .i64 (Itm.Lead_X x),.int .i64 (Itm.Lead_Y x)]
def xY (t:Knd):aC UU->Option (List (UU.T t))
 | .sl j f=>oD (U:=UU) t j f
 | .nils=>some []
 |_=>none
theorem Fm {t:Knd} {y:aC UU} {f:List (UU.T t)} (h:xY t y=some f):y=.sl t f\/(y=.nils/\f=[]):=by
 unfold xY at h;split at h
 ·rename_i u j;obtain⟨rfl,rfl⟩:=oV h;exact .inl rfl
 ·cases h;exact .inr ⟨rfl,rfl⟩
 ·cases h
def Pm:(t:Knd)->List (aC UU)->Option (UU.T t)
 | .seg,[.int .i64 f,.int .i64 j,.int .i64 G,.int .i64 u]=>some ⟨f,j,G,u⟩
 | .rect,[.int .i64 f,.int .i64 j,.int .i64 G,.int .i64 u]=>some ⟨f,j,G,u⟩
 | .op,[.int .i64 f,.int .i64 j,.int .i64 G,.int .i64 u,.int .i64 L,.int .i64 O]=>some ⟨f,j,G,u,L,O⟩
 | .int,[.int .i64 f]=>some f
 | .str,[.str f]=>some f
 | .rects,[J]=>(xY .rect J).bind fun I=>some I
 | .bool,[.bool f]=>some f
 | .bools,[J]=>(xY .bool J).bind fun I=>some I
 | .ints,[J]=>(xY .int J).bind fun I=>some I
 | .par,[.int .i64 f,.int .i64 j]=>some ⟨f,j⟩
 | .pc,[.str f,.str j,.int .i64 G,.int .i64 u,y4,y5,y6]=>(xY .rect y4).bind fun Z=>(xY .rect y5).bind fun V=>(xY .rect y6).bind fun S=>some ⟨f,j,G,u,Z,V,S⟩
 | .edge,[.int .i64 f,.int .i64 j,.int .i64 G,.int .i64 u,.int .i64 L,.int .i64 O]=>some ⟨f,j,G,u,L,O⟩
 | .item,[.int .i64 f,.int .i64 j,.int .i64 G,.int .i64 u,.int .i64 L]=>some ⟨f,j,G,u,L⟩
 |_,_=>none
theorem aYg:∀t l x,Pm t l=some x->l.length=UU.size t:=by
 intro t l x h;unfold Pm at h;split at h<;>first|rfl|cases h
theorem aX8:∀t x,∀c∈Bv t x,c.flat=true/\c.Ob=true:=by
 intro t x c f;cases t<;>(unfold Bv at f;simp only[List.mem_cons,List.not_mem_nil,or_false] at f;first| (rcases f with rfl|f<;>first|exact⟨rfl,rfl⟩|skip)| (subst f;exact⟨rfl,rfl⟩))
 all_goals (repeat (first| (subst f;exact⟨rfl,rfl⟩)| (rcases f with rfl|f;exact⟨rfl,rfl⟩)))
theorem aYh:∀t l x,Pm t l=some x->∀k,k<UU.size t->(l.getD k .any=(Bv t x).getD k .any\/(l.getD k .any=.nils/\∃t',(Bv t x).getD k .any=.sl t' [])):=by
 intro t l x h k u;unfold Pm at h;split at h
 ·cases h;exact .inl rfl
 ·cases h;exact .inl rfl
 ·cases h;exact .inl rfl
 ·cases h;exact .inl rfl
 ·cases h;exact .inl rfl
 ·simp only[Option.bind_eq_some_iff] at h;obtain⟨G,j,h⟩:=h;cases h;rcases Nat.lt_or_ge k 1 with f|f
  ·have hh:k=0:=KI;rcases hh with rfl
   ·rcases Fm j with rfl|⟨rfl,rfl⟩
    ·exact .inl rfl
    ·exact .inr ⟨rfl,_,rfl⟩
  ·exact absurd u (Nat.not_lt.2 f)
 ·cases h;exact .inl rfl
 ·simp only[Option.bind_eq_some_iff] at h;obtain⟨G,j,h⟩:=h;cases h;rcases Nat.lt_or_ge k 1 with f|f
  ·have hh:k=0:=KI;rcases hh with rfl
   ·rcases Fm j with rfl|⟨rfl,rfl⟩
    ·exact .inl rfl
    ·exact .inr ⟨rfl,_,rfl⟩
  ·exact absurd u (Nat.not_lt.2 f)
 ·simp only[Option.bind_eq_some_iff] at h;obtain⟨G,j,h⟩:=h;cases h;rcases Nat.lt_or_ge k 1 with f|f
  ·have hh:k=0:=KI;rcases hh with rfl
   ·rcases Fm j with rfl|⟨rfl,rfl⟩
    ·exact .inl rfl
    ·exact .inr ⟨rfl,_,rfl⟩
  ·exact absurd u (Nat.not_lt.2 f)
 ·cases h;exact .inl rfl
 ·simp only[Option.bind_eq_some_iff] at h;obtain⟨S,J,O,I,L,h6,h⟩:=h;cases h;rcases Nat.lt_or_ge k 7 with f|f
  ·have hh:k=0\/k=1\/k=2\/k=3\/k=4\/k=5\/k=6:=KI;rcases hh with rfl|rfl|rfl|rfl|rfl|rfl|rfl
   ·exact .inl rfl
   ·exact .inl rfl
   ·exact .inl rfl
   ·exact .inl rfl
   ·rcases Fm J with rfl|⟨rfl,rfl⟩
    ·exact .inl rfl
    ·exact .inr ⟨rfl,_,rfl⟩
   ·rcases Fm I with rfl|⟨rfl,rfl⟩
    ·exact .inl rfl
    ·exact .inr ⟨rfl,_,rfl⟩
   ·rcases Fm h6 with rfl|⟨rfl,rfl⟩
    ·exact .inl rfl
    ·exact .inr ⟨rfl,_,rfl⟩
  ·exact absurd u (Nat.not_lt.2 f)
 ·cases h;exact .inl rfl
 ·cases h;exact .inl rfl
 ·cases h
def aYa:(t:Knd)->UU.T t
 | .seg=>(default:Seg)
 | .rect=>(default:aA)
 | .op=>(default:Opn)
 | .int=>(default:Int)
 | .str=>(default:ByteArray)
 | .rects=>(default:List aA)
 | .bool=>(default:Bool)
 | .bools=>(default:List Bool)
 | .ints=>(default:zzI)
 | .par=>(default:Par)
 | .pc=>(default:Pce)
 | .edge=>(default:Edg)
 | .item=>(default:Itm)
def wu:Knd->Bool
 | .seg=>true
 | .rect=>true
 | .op=>true
 | .int=>true
 | .str=>true
 | .rects=>false
 | .bool=>true
 | .bools=>false
 | .ints=>false
 | .par=>true
 | .pc=>false
 | .edge=>true
 | .item=>true
theorem aQL:∀t x,wu t=true->∀c∈Bv t x,c.pure=true:=by
 intro t x h c f;cases t<;>(first| (cases h;done)|skip)<;>(unfold Bv at f;simp only[List.mem_cons,List.not_mem_nil,or_false] at f)
 all_goals (repeat (first| (subst f;rfl)| (rcases f with rfl|f;rfl)))
def aVF:Knd->Option Knd
 | .seg=>none
 | .rect=>none
 | .op=>none
 | .int=>none
 | .str=>none
 | .rects=>some .rect
 | .bool=>none
 | .bools=>some .bool
 | .ints=>some .int
 | .par=>none
 | .pc=>none
 | .edge=>none
 | .item=>none
def EE:Enc UU where
 enc:=Bv
 dec:=Pm
 dflt:=aYa
 enc_len:=fun t x=>by cases t<;>rfl
 enc_flat:=aX8
 dec_len:=aYg
 dec_enc:=aYh
 pos:=fun t=>by cases t<;>decide
 plain:=wu
 plain_ok:=aQL
 unsl_ok:=fun t j L y h=>by cases t<;>cases j<;>first| (cases h;done)| (cases h;rfl)
 inner:=aVF
 inner_ok:=fun t j h x=>by cases t<;>first| (cases h;done)| (cases h;exact⟨_,rfl⟩)
 rep:=fun k=>match k with
  | .bld=>vM
  | .dead=>fun _=>Lh
 rep_val:=fun k d w base p f h=>by
  cases k with
  |bld=>exact aOw h
  |dead=>exact aOu h
 rep_mem:=fun k d w base p f i g u h G=>by
  cases k with
  |bld=>exact vo h G
  |dead=>exact h.2 i g u G
 rep_mono:=fun k d w w' base p f h J I=>by
  cases k with
  |bld=>exact aOx h J I
  |dead=>exact aOv h J I
 frep:=Hc
 frep_mono:=aW1
 frep_cell:=aW2
def aHT (t:TypeId):Option Knd:=
 cond (Nat.beq t 73) (some .seg) (cond (Nat.beq t 63) (some .rect) (cond (Nat.beq t 65) (some .op) (cond (Nat.beq t 3) (some .int) (cond (Nat.beq t 9) (some .str) (cond (Nat.beq t 22) (some .rects) (cond (Nat.beq t 4) (some .bool) (cond (Nat.beq t 53) (some .bools) (cond (Nat.beq t 55) (some .ints) (cond (Nat.beq t 207) (some .par) (cond (Nat.beq t 61) (some .pc) (cond (Nat.beq t 75) (some .edge) (cond (Nat.beq t 69) (some .item) (none)))))))))))))
def Vk (t:TypeId):Bool:=Nat.beq t 63||Nat.beq t 65||Nat.beq t 73
theorem wq:∀t,Vk t=true->aJY prog t:=by
 intro t h;unfold Vk at h
 try simp only[Bool.or_eq_true] at h
 rcases h with (h|h)|h
 all_goals (obtain rfl:=QQ h;exact⟨KA,KA,KA⟩)
def S7 (t:TypeId):Option ((k:UU.κ)×UU.K k):=cond (Nat.beq t 103) (some ⟨.bld,ByteArray.empty⟩) none
theorem aQi:∀t x,S7 t=some x->∀(w:World) (base:Nat),base<=w.heap.size->∃w',(Instr.alloc t true (.tuple #[])).run prog w=.ok (.pointer (some ⟨w.heap.size,0,none⟩)) w'/\Below w.heap.size w w'/\
  EE.rep x.1 x.2 w' base (some (0,.pointer (some ⟨w.heap.size,0,none⟩))) (fun _=>none):=by
 intro t x h w base hb;unfold S7 at h;cases f:Nat.beq t 103 with
 |false=>rw[f] at h;cases h
 |true=>
  rw[f] at h;cases h;obtain rfl:=QQ f;exact bAb w base hb
def Pk (n:Int):aC UU:=cond (n==1) (.agg [.frz .W1,.fn 65 [],.fn 67 []]) (cond (n==2) (.agg [.frz .W2,.fn 66 [],.fn 68 []]) (cond (n==3) (.agg [.frz .W3,.fn 69 [],.fn 70 []]) (.agg [.raw (Value.map none),.raw Value.nilFunc,.raw Value.nilFunc])))
def aGm:Frz->TypeId->Option (Int->aC UU×aC UU)
 | .W1,t=>cond (Nat.beq t 92) (some fun n=>(.str (gI kW n),.bool (kC [1,2,4,3] n))) none
 | .W2,t=>cond (Nat.beq t 92) (some fun n=>(.str (gI kV n),.bool (kC [1,2,4,3] n))) none
 | .W3,t=>cond (Nat.beq t 92) (some fun n=>(.str (gI Ek n),.bool (kC [5,6] n))) none
 | .D,t=>cond (Nat.beq t 98) (some fun n=>(Pk n,.bool (kC [1,2,3] n))) none
theorem jg {l:List (Int×ByteArray)} {w:World} {st:Nat->Prop} {v:Value} (n:Int) (h:isMap (strs l) w st v):(Instr.lookup 92 v (.int .i64 n) true).run prog w=.ok (.tuple #[.string (gI l n),.bool (kC ((strs l).map (·.1)) n)]) w:=by
 obtain⟨b,rfl,_,hb⟩:=h;have f:(zeroValue 9).run prog w=.ok (.string ByteArray.empty) w:=zeroValue9 w;rw[aCr underlying92 underlying3 f hb n,tw]
theorem He {w:World} {st:Nat->Prop} (f:Nat):Rel EE w (fun _=>none) st (.fn f []:aC UU) (fv f):=.fn f [] #[] rfl (fun k j=>absurd j XQ)
theorem Uj {w:World} {st:Nat->Prop} {v:Value} (k:Frz) (h:Hc k w st v):Rel EE w (fun _=>none) st (.frz k:aC UU) v:=Rel.frz (U:=UU) (E:=EE) k v h
theorem J7 {w:World} {ρ:Own} {st:Nat->Prop} {x y z:aC UU} {a b c:Value} (u:Rel EE w ρ st x a) (j:Rel EE w ρ st y b) (f:Rel EE w ρ st z c):Rel EE w ρ st (.agg [x,y,z]) (.agg #[a,b,c]):=
 .agg _ _ rfl fun k G=>match k,G with
  |0,_=>u
  |1,_=>j
  |2,_=>f
theorem aW0:∀k t f,aGm k t=some f->∀(w:World) (st:Nat->Prop) (v:Value) (n:Int),EE.frep k w st v->∃u b,(Instr.lookup t v (.int .i64 n) true).run prog w=.ok (.tuple #[u,b]) w/\Rel EE w (fun _=>none) st (f n).1 u/\Rel EE w (fun _=>none) st (f n).2 b/\(f n).1.Pa=true/\(f n).2.flat=true:=by
 intro k t f h w st v n hv;cases k with
 |D=>
  obtain⟨j,h⟩:=cC h;obtain rfl:=QQ j;cases h;obtain⟨J,I,G,V,S,O,b,rfl,_,hb⟩:=hv;have L:(zeroValue 96).run prog w=.ok (.agg #[.map none,.nilFunc,.nilFunc]) w:=zeroValue96 w;refine⟨_,_,aCr underlying98 underlying3 L hb n,?_,.bool _,?_,rfl⟩
  ·show Rel EE w _ st (Pk n) (vG _ (lD J I G) n);unfold Pk lD;simp only[vG];cases n==1
   ·cases n==2
    ·cases n==3
     ·exact J7 (.raw _) (.raw _) (.raw _)
     ·exact J7 (Uj .W3 O) (He _) (He _)
    ·exact J7 (Uj .W2 S) (He _) (He _)
   ·exact J7 (Uj .W1 V) (He _) (He _)
  ·show (Pk n).Pa=true;unfold Pk;cases n==1<;>cases n==2<;>cases n==3<;>rfl
 |W1=>
  obtain⟨j,h⟩:=cC h;obtain rfl:=QQ j;cases h;exact⟨_,_,jg n hv,.str _,.bool _,rfl,rfl⟩
 |W2=>
  obtain⟨j,h⟩:=cC h;obtain rfl:=QQ j;cases h;exact⟨_,_,jg n hv,.str _,.bool _,rfl,rfl⟩
 |W3=>
  obtain⟨j,h⟩:=cC h;obtain rfl:=QQ j;cases h;exact⟨_,_,jg n hv,.str _,.bool _,rfl,rfl⟩
def dO (v:Value):Prop:=(∃n:Int,v=.iface 219 (.int .i64 n))\/v=.iface 215 (.agg #[])
def gB:Value->Value->Bool
 | .iface 219 (.int .i64 a),.iface 219 (.int .i64 b)=>a==b
 | .iface 215 _,.iface 215 _=>true
 |_,_=>false
def iG:Value->Bool
 | .iface 219 _=>true
 |_=>false
def Kl:Value->Int
 | .iface 219 (.int .i64 n)=>n
 |_=>0
noncomputable def et (o:Oper) (xs:List (aC UU)):Option (List Prop×aC UU):=
 match o.op with
 | .binOp .eql 169 _ _ _=>match xs with
  |[.raw a,.raw b]=>some ([dO a/\dO b],.bool (gB a b))
  |_=>none
 | .binOp .neq 169 _ _ _=>match xs with
  |[.raw a,.raw b]=>some ([dO a/\dO b],.bool !(gB a b))
  |_=>none
 | .call c=>match c.callee,xs with
  | .invoke _ m,[.raw a]=>cond (Nat.beq c.args.size 0) (some ([dO a/\m= "sheetmetal/cut.solid"],.bool (iG a))) none
  |_,_=>none
 | .makeInterface 219 _=>match xs with
  |[.int .i64 n]=>some ([],.raw (.iface 219 (.int .i64 n)))
  |_=>none
 | .typeAssert _ 169 219 true=>match xs with
  |[.raw a]=>some ([dO a],.tup [.int .i64 (Kl a),.bool (iG a)])
  |_=>none
 |_=>none
theorem yd {p q:Prop} (e:p=q) (h:q):p:=e▸h
noncomputable def oq:Cfg UU:={P:=prog,E:=EE,elt:=aHT,sum:=fun _=>none,plain:=Vk,plainOK:=wq,deep:=false,inv:=fun _=>True,invOK:=fun _ _ _ _=>trivial}
theorem ur:aE oq:=⟨fun f m h=>(by cases h),fun f m h=>(by cases h)⟩
def Z5:Model UU
 |[.agg []]=>some ([],.bool false)
 |_=>none
def Z4:Model UU
 |[.int .i64 _]=>some ([],.bool true)
 |_=>none
theorem aN5:aE (oq.add 248 Z5):=ur.Ra (c:=bo f248) mixed func248 KA KA fun xs f r h _=>by
 unfold Z5 at h;split at h
 ·cases h;exact⟨KA,fun _ _ _=>⟨[],[],[],[],[]⟩,0,false,⟨yd (q:=aC.bool (U:=UU) false=aC.bool false) KA rfl⟩⟩
 ·cases h
theorem aNH:aE (oq.add 249 Z4):=ur.Ra (c:=bo f249) mixed func249 KA KA fun xs f r h _=>by
 unfold Z4 at h;split at h
 ·cases h;exact⟨KA,fun _ _ _=>⟨[],[],[],[],[]⟩,0,false,⟨yd (q:=aC.bool (U:=UU) true=aC.bool true) KA rfl⟩⟩
 ·cases h
theorem aUw (x:Value) (w:World):(invoke (.fn (.method "sheetmetal/cut.solid") #[]) #[.iface 215 x]).run prog w=.ok (.enter 248 #[x]) w:=KA
theorem aUv (x:Value) (w:World):(invoke (.fn (.method "sheetmetal/cut.solid") #[]) #[.iface 219 x]).run prog w=.ok (.enter 249 #[x]) w:=KA
theorem aLh {a b:Value} (f:dO a) (hb:dO b) (X Y:Operand) (w:World):(do eqGuard .eql 169 X Y a b;binOp .eql 169 a b:Sem Value).run prog w=.ok (.bool (gB a b)) w:=by
 rcases f with ⟨n,rfl⟩|rfl<;>rcases hb with ⟨m,rfl⟩|rfl<;>kernel_rfl
theorem aLf {a b:Value} (f:dO a) (hb:dO b) (X Y:Operand) (w:World):(do eqGuard .neq 169 X Y a b;binOp .neq 169 a b:Sem Value).run prog w=.ok (.bool !(gB a b)) w:=by
 rcases f with ⟨n,rfl⟩|rfl<;>rcases hb with ⟨m,rfl⟩|rfl<;>kernel_rfl
theorem aLj {a:Value} (f:dO a) (w:World):(Instr.typeAssert a 169 219 true).run prog w=.ok (.tuple #[.int .i64 (Kl a),.bool (iG a)]) w:=by
 rcases f with ⟨n,rfl⟩|rfl<;>kernel_rfl
theorem aLg (x:Value) (w:World):(Instr.makeInterface 219 x).run prog w=.ok (.iface 219 x) w:=KA
theorem aLi {a:Value} (G:dO a) (w:World):∃f j,(invoke (.fn (.method "sheetmetal/cut.solid") #[]) #[a]).run prog w=.ok (.enter f j) w/\Calls prog f j w fun e w'=>e=.returned (.bool (iG a))/\Below w.heap.size w w':=by
 rcases G with ⟨n,rfl⟩|rfl
 ·refine⟨249,_,aUv _ w,((aNH.1 249 Z4 rfl).2 (fun _=>False) w #[.int .i64 n] [.int .i64 n] [] _ trivial (fun _ h=>h.elim) ⟨rfl,fun k u=>?_⟩ rfl trivial).mono ?_⟩
  ·obtain rfl:k=0:=by simpa using u
   exact .int _ _
  ·rintro e w' ⟨v,rfl,⟨ρ,h,_⟩,hb⟩
   cases h;exact⟨rfl,hb⟩
 ·refine⟨248,_,aUw _ w,((aN5.1 248 Z5 rfl).2 (fun _=>False) w #[.agg #[]] [.agg []] [] _ trivial (fun _ h=>h.elim) ⟨rfl,fun k u=>?_⟩ rfl trivial).mono ?_⟩
  ·obtain rfl:k=0:=by simpa using u
   exact .agg _ _ rfl (fun k u=>by simp at u)
  ·rintro e w' ⟨v,rfl,⟨ρ,h,_⟩,hb⟩
   cases h;exact⟨rfl,hb⟩
set_option maxRecDepth 20000 in
theorem aVW:∀o xs cs r,et o xs=some (cs,r)->dZ cs->∀(a:Act) (w:World),(∀k:Nat,∀v,xs[k]?=some (.raw v)->((o.op.operands.toList.map a.eval)[k]?=some v))->(∀k:Nat,∀kd n,xs[k]?=some (.int kd n)->(o.op.operands.toList.map a.eval)[k]?=some (.int kd n))->
  ∃u,(∀w' ρ st,Rel EE w' ρ st r u)/\∀(K:Act->World->Prop) (Q:Exit->Act->World->Prop),(∀w',Below w.heap.size w w'->K (a.put o.dst u) w')->o.wp prog a w K Q:=by
 intro o xs cs r h V a w j J;obtain⟨dst,op,ty,pos,after,guard⟩:=o;unfold et at h;simp only at h j J;split at h
 ·rename_i X Y zt;split at h
  ·rename_i p q;cases h;have e0:=j 0 p rfl;have e1:=j 1 q rfl;simp[Op.operands] at e0 e1;obtain⟨hp,hq⟩:=V;refine⟨.bool (gB p q),fun _ _ _=>.bool _,fun K Q G=>jU (w':=w) ?_ (G w (Below.refl _ _))⟩;have:=aLh hp hq X Y w;show ((do pure (Next.value (<- (do eqGuard .eql 169 X Y (a.eval X) (a.eval Y);binOp .eql 169 (a.eval X) (a.eval Y):Sem Value))):Sem Next)).run prog w=_;rw[e0,e1];simp only[QE,JO] at this ⊢;rw[this];rfl
  ·cases h
 ·rename_i X Y zt;split at h
  ·rename_i p q;cases h;have e0:=j 0 p rfl;have e1:=j 1 q rfl;simp[Op.operands] at e0 e1;obtain⟨hp,hq⟩:=V;refine⟨.bool (!gB p q),fun _ _ _=>.bool _,fun K Q G=>jU (w':=w) ?_ (G w (Below.refl _ _))⟩;have:=aLf hp hq X Y w;show ((do pure (Next.value (<- (do eqGuard .neq 169 X Y (a.eval X) (a.eval Y);binOp .neq 169 (a.eval X) (a.eval Y):Sem Value))):Sem Next)).run prog w=_;rw[e0,e1];simp only[QE,JO] at this ⊢;rw[this];rfl
  ·cases h
 ·rename_i c;obtain⟨Z,O,ts⟩:=c;split at h
  ·rename_i X m p L;simp only at L;subst L;obtain⟨hz,h⟩:=cC h;obtain rfl:O=#[]:=Array.eq_empty_of_size_eq_zero (QQ hz);cases h;have e0:=j 0 p rfl;simp[Op.operands,Call.operands] at e0;obtain⟨hp,rfl⟩:=V;obtain⟨f,args,S,I⟩:=aLi hp w;refine⟨.bool (iG p),fun _ _ _=>.bool _,fun K Q G=>Jl (f:=f) (args:=args) ?_ (I.mono ?_)⟩
   ·simp[execOp,resolve,e0,S]
   ·rintro e w' ⟨rfl,hb⟩
    exact⟨_,rfl,G w' hb⟩
  ·cases h
 ·rename_i X;split at h
  ·rename_i n;cases h;have e0:=J 0 .i64 n rfl;simp[Op.operands] at e0;refine⟨.iface 219 (.int .i64 n),fun _ _ _=>.raw _,fun K Q G=>jU (w':=w) ?_ (G w (Below.refl _ _))⟩;simp[execOp,e0,aLg]
  ·cases h
 ·rename_i X;split at h
  ·rename_i p;cases h;have e0:=j 0 p rfl;simp[Op.operands] at e0;have hp:dO p:=V;refine⟨.tuple #[.int .i64 (Kl p),.bool (iG p)],fun _ _ _=>.tup _ _ rfl (fun k hk=>?_),fun K Q G=>jU (w':=w) ?_ (G w (Below.refl _ _))⟩
   ·match k,hk with
    |0,_=>exact .int _ _
    |1,_=>exact .bool _
   ·simp[execOp,e0,aLj hp]
  ·cases h
 ·cases h
noncomputable def gC:Cfg UU:={P:=prog,E:=EE,elt:=aHT,sum:=fun _=>none,plain:=Vk,plainOK:=wq,deep:=false,inv:=inv1,invOK:=aUz,frzOf:=aGm,frzOK:=aW0,opqOf:=S7,opqOK:=aQi,hook:=et,hookOK:=aVW}
theorem aOX:aE gC:=⟨fun f m h=>(by cases h),fun f m h=>(by cases h)⟩
abbrev _root_.Go.Vm.aC.i {U:eO} (n:Int):aC U:=.int .i64 n
abbrev _root_.Go.Value.i (n:Int):Value:=.int .i64 n
abbrev zK:=AEx->ASt UU->Prop
def cS4 (c:Code):Code:=cS (cS (cS (cS c)))
def tmL:List (Nat×aC UU)->Nat->aC UU
 |[],_=>.any
 | (k,v)::l,u=>cond (Nat.beq u k) v (tmL l u)
def obL:List (Nat×aT UU)->Nat->Option (aT UU)
 |[],_=>none
 | (k,v)::l,u=>cond (Nat.beq u k) (some v) (obL l u)
def M0:Nat->Nat->Nat->Canon UU:=fun _ _ _=>⟨[],[],[],[],[]⟩
theorem of_eq {p q:Prop} (e:p=q) (h:q):p:=e▸h
theorem iY {α:Type} {p:Prop} (T S:α->Prop) (Q:α) (e:p=T Q) (h:∀Q,S Q->T Q) (f:S Q):p:=e▸h Q f
theorem dN {C:Cfg UU} (J:aE C) (j:C.P.follows .mixedOrders=true) {f:FuncId} {m:Model UU} {fn:Func} (hf:C.P.funcs[f]?=some fn) (L:(fn.name== "runtime.NumGoroutine")=false) (hb:fn.body=some (bo fn))
  (I:∀xs u r,m xs=some (u,r)->dZ u->(Nat.ble xs.length fn.ntmps&&Nat.ble fn.ntmps 1000000)=true/\∃M fuel O,tE (exec C fn.ntmps M fuel 0 (bo fn) (gK xs) (bN C O fn fun G=>G=r))):aE (C.add f m):=J.Ra j hf L hb I
theorem tin {C:Cfg UU} (J:aE C) (j:C.P.follows .mixedOrders=true) {f:FuncId} {m:Model UU} {fn:Func} (hf:C.P.funcs[f]?=some fn) (L:(fn.name== "runtime.NumGoroutine")=false) (hb:fn.body=some (bo fn)) (fr:Bool)
  (G:∀xs u r,m xs=some (u,r)->(Nat.ble xs.length fn.ntmps&&Nat.ble fn.ntmps 1000000)=true/\exec C fn.ntmps M0 0 0 (bo fn) (gK xs) (bN C fr fn fun I=>I=r)=(r=r)):aE (C.add f m):=
 J.Ra j hf L hb fun xs u r h _=>⟨(G xs u r h).1,M0,0,fr,⟨of_eq (G xs u r h).2 rfl⟩⟩
theorem fT {p q:Prop} (e:p=q) (h:q):tE p:=⟨e▸h⟩
theorem fS {C:Cfg UU} {n fuel:Nat} {M:Nat->Nat->Nat->Canon UU} {c:Code} {xs:List (aC UU)} {fr:Bool} {fn:Func} {r:aC UU} (h:∀Post:aC UU->Prop,Post r->tE (exec C n M fuel 0 c (gK xs) (bN C fr fn Post))):tE (exec C n M fuel 0 c (gK xs) (bN C fr fn fun f=>f=r)):=h _ rfl
abbrev CnT:=Nat->Nat->Nat->Canon UU
def cnA (k:Nat):List (Nat×Canon UU)->Canon UU
 |[]=>⟨[],[],[],[],[]⟩
 | (i,c)::l=>cond (Nat.beq k i) c (cnA k l)
def cnL (l:List (Nat×Canon UU)):CnT:=fun o b _=>cnA (o+b) l
noncomputable def aJx:Cfg UU:=aI7 gC
theorem aNa:aE aJx:=sVN aOX rfl rfl rfl rfl fun _ h=>h.1.1
end Go.Proofs.YtgcpildegdgekaaGreatDoor
namespace Go.Proofs
open Go.Proofs.Tryz
open Go.Shelf Go.RowKit
theorem aIJ:(prog.info? 103).map (·.size)=some 2:=KA
theorem bAc:liesAt prog prog.depth 103 (2 / prog.cellsOf 103) 0 103 1=true:=KA
theorem bAg:(prog.info? 5).map (fun i=>(i.zero,i.size,i.bytes))=some (some (.int .u8 0),1,1):=KA
set_option maxHeartbeats 2000000 in
theorem bAe (b:Nat) (w:World) (u:w.cell? ⟨b,0,none⟩=some (.pointer (some ⟨b,0,none⟩))):
  Calls prog 71 #[.pointer (some ⟨b,0,none⟩)] w fun e w'=>e=.returned (.tuple #[])/\w'=w:=by
 obtain⟨j,f,_⟩:=Option.map_eq_some_iff.1 aIJ
 go_enter func71,ntmps71
 go_wp2
 rw[Lib.run_neq_ptr_same w _ underlying100 f]
 go_wp2
 go_end0
 exact⟨rfl,rfl⟩
set_option maxHeartbeats 2000000 in
theorem bAd (b:Nat) (w:World) (J:w.cell? ⟨b,0,none⟩=some (.pointer none)) (f:w.shape? b=some (103,2)) (I:w.frozen? ⟨b,0,none⟩=false):
  Calls prog 71 #[.pointer (some ⟨b,0,none⟩)] w fun e w'=>e=.returned (.tuple #[])/\w'=w.setCell ⟨b,0,none⟩ (.pointer (some ⟨b,0,none⟩)):=by
 obtain⟨j,G,u⟩:=Option.map_eq_some_iff.1 aIJ
 go_enter func71,ntmps71
 go_wp2
 rw[Lib.run_to_unsafe w ⟨b,0,none⟩ underlying100 underlying182 G (by rw[u];decide) f (Nat.zero_lt_succ 1)];simp only[Result.andThen];rw[Oper.upon_value]
 go_wp2
 rw[run_callFunc_extern func113 KA KA KA (e:=Extern.AbiNoEscape.same) KA];rw[Lib.run_noEscape];simp only[Result.andThen];rw[Oper.upon_value]
 go_wp2
 rw[Lib.run_from_unsafe w ⟨b,0,none⟩ underlying182 underlying100 G f bAc];simp only[Result.andThen];rw[Oper.upon_value]
 go_wp2
 go_end0
 exact⟨rfl,rfl⟩
theorem bAf (B b:Nat) (v:Value) (O:List Value) (w:World) (h:Ji 103 5 B b v O w):
  Calls prog 71 #[.pointer (some ⟨b,0,none⟩)] w fun e w'=>e=.returned (.tuple #[])/\Ji 103 5 B b v O w'/\Below B w w'/\w'.heap.size=w.heap.size/\∀k,k≠b->w'.heap[k]?=w.heap[k]?:=by
 obtain⟨I,⟨q,S,hb⟩,f,u,j⟩:=h;have L:w.cell? ⟨b,0,none⟩=some q:=by rw[Lib.cell_of_heap hb];rfl
 rcases S with rfl|rfl
 ·refine(bAd b w L (by simp[World.shape?,hb]) (Lib.frozen_of_heap hb 0)).mono ?_
  rintro e w' ⟨rfl,rfl⟩
  have G:∀k,k≠b->(w.setCell ⟨b,0,none⟩ (.pointer (some ⟨b,0,none⟩))).heap[k]?=w.heap[k]?:=fun k G=>Below.heap_setCell _ _ _ _ G
  refine⟨rfl,⟨I,⟨_,.inr rfl,?_⟩,?_,u,j⟩,(Below.refl B w).setCell (p:=⟨b,0,none⟩) I _,by simp[World.setCell],G⟩
  ·simp[World.setCell,Array.getElem?_modify,hb]
  ·refine f.kept (row:=some b) ⟨rfl,rfl,rfl,by simp[World.setCell],fun k _ J=>G k (fun e=>J (by rw[e]))⟩ (Or.inr u)
 ·refine(bAe b w L).mono ?_
  rintro e w' ⟨rfl,rfl⟩
  exact⟨rfl,⟨I,⟨_,.inr rfl,hb⟩,f,u,j⟩,Below.refl B _,rfl,fun _ _=>rfl⟩
set_option maxHeartbeats 2000000 in
theorem bA8 (B b:Nat) (v:Value) (bs:List Value) (s:ByteArray) (w:World) (h:Ji 103 5 B b v bs w) (hs:1<=s.size) (hlen:bs.length+s.size<=140737488355328) (hBw:B<=w.heap.size):
  Calls prog 29 #[.pointer (some ⟨b,0,none⟩),.string s] w fun e w'=>e=.returned (.tuple #[.int .i64 s.size,.nilIface])/\
   ∃v',Ji 103 5 B b v' (bs++Lib.strCells s) w'/\Below B w w'/\(∀k,k<w.heap.size->k≠b->v.ownBlock≠some k->w'.heap[k]?=w.heap[k]?)/\
    ∀k,v'.ownBlock=some k->v.ownBlock=some k\/w.heap.size<=k:=by
 obtain⟨i0,hi,qM,pK,qL⟩:=info_parts bAg
 go_enter func29,ntmps29
 go_wp2_with (go_at_call 71;refine(bAf B b v bs _ h).mono ?_)
 rintro e w1 ⟨rfl,V,cJ,hsz1,sO⟩
 obtain⟨hB,⟨q,hq,G⟩,I,hne,hnil⟩:=V;have c0:w1.cell? ⟨b,0,none⟩=some q:=by rw[Lib.cell_of_heap G];rfl
 have c1:w1.cell? ⟨b,1,none⟩=some v:=by rw[Lib.cell_of_heap G];rfl
 go_wp2_with (at_builtin;refine bA9 rfl _ _ 101 9 rfl B 5 i0 underlying101 underlying9 hi qM pK qL _ _ _ rfl I s rfl ?c4 ?c5 ?_)
 case c4=>omega
 case c5=>omega
 intro v' L f j O hnew;have hlt:b<w1.heap.size:=(QD.1 G).1;have Z:L.heap[b]?=some (.cells #[q,v] 103 (0,0)):=by
  rw[j.block b hlt (fun e=>hne e.symm)];exact G
 have d0:L.cell? ⟨b,0,none⟩=some q:=by rw[Lib.cell_of_heap Z];rfl
 have d1:L.cell? ⟨b,1,none⟩=some v:=by rw[Lib.cell_of_heap Z];rfl
 have f1:L.frozen? ⟨b,1,none⟩=false:=Lib.frozen_of_heap Z 1;obtain⟨ao,n',u,rfl⟩:∃ao n' u,v'=.slice ao n' u:=by
  rcases f.2 with ⟨hv,_⟩|⟨g,u,cur,hv,_⟩
  ·exact⟨_,_,_,hv⟩
  ·exact⟨_,_,_,hv⟩
 go_wp2
 go_ret2
 have Gr:Lib.strCells s≠[]:=fun e=>by
  have:=Lib.strCells_length s;rw[e,KW] at this;omega
 have fJ:∀(x:Value) k,k≠b->(L.setCell ⟨b,1,none⟩ x).heap[k]?=L.heap[k]?:=fun x k S=>Below.heap_setCell _ _ _ _ S
 have J:Value.ownBlock (.slice ao n' u)≠some b:=Lib.ownBlock_ne f Z (by decide);refine⟨rfl,.slice ao n' u,⟨hB,⟨q,hq,?_⟩,?_,J,?_⟩,?_,fun k S hkb hkv=>?_,fun k S=>?_⟩
 ·simp[World.setCell,Array.getElem?_modify,Z]
 ·refine World.ownsRow.kept (row:=some b) (w:=L) (by simpa[Lib.strCells_length] using f) ⟨rfl,rfl,rfl,by simp[World.setCell],fun k _ hk'=>fJ _ k (fun e=>hk' (by rw[e]))⟩ (Or.inr J)
 ·constructor
  ·intro e;have V:s=ByteArray.empty:=(O.1 e).2;rw[V] at hs;exact absurd hs (by decide)
  ·intro e;exact absurd (List.append_eq_nil_iff.1 e).2 Gr
 ·exact(cJ.grown j (by rw[hsz1];exact hBw) (fun k S=>(I.lt k S).1)).setCell (p:=⟨b,1,none⟩) hB _
 ·rw[fJ _ k hkb,j.block k KI (fun e=>hkv e.symm)];exact sO k hkb
 ·rcases hnew k S with V|V
  ·exact .inl V
  ·exact .inr KI
end Go.Proofs
namespace Go.Proofs.YtgcpildegdgekaaGreatDoor
open Go.Proofs.Tryz
open Go.RowKit Go.Vm
noncomputable section
def mL (n:Int):ByteArray:=⟨(Lib.itoa n).toArray⟩
open Go.Sort in
theorem bAp {B:Nat} {w0 w:World} {os:Array Obj} (h:Below B w0 w) (j:B<=w.heap.size):Below B w0 (grow w os):=
 ⟨h.os,h.tape,h.output,by show w0.heap.size<=(w.heap++os).size;have:=h.size;grind,fun k f=>by
  show (w.heap++os)[k]?=_;rw[Array.getElem?_append_left KI];exact h.block k f⟩
theorem Cm {E:Enc UU} {w:World} {N:Nat->Prop} {x:aC UU} {args:Array Value} (h:tA E w N [x] args):∃a,args=#[a]/\Rel E w cO (fF N w) x a:=by
 obtain⟨j,f⟩:=h;have e0:=f 0 XQ;obtain⟨l⟩:=args
 match l,j with
 |[a],_=>simp_all
theorem bBF {E:Enc UU} {w:World} {N:Nat->Prop} {x y:aC UU} {args:Array Value} (h:tA E w N [x,y] args):∃a b,args=#[a,b]/\Rel E w cO (fF N w) x a/\Rel E w cO (fF N w) y b:=by
 obtain⟨j,f⟩:=h;have e0:=f 0 XQ;have e1:=f 1 XQ;obtain⟨l⟩:=args
 match l,j with
 |[a,b],_=>exact⟨a,b,rfl,e0,e1⟩
theorem Tb {E:Enc UU} {w:World} {ρ:Own} {st:Nat->Prop} {x y:aC UU} {a b:Value} (j:Rel E w ρ st x a) (f:Rel E w ρ st y b):Rel E w ρ st (.tup [x,y]) (.tuple #[a,b]):=
 .tup _ _ rfl fun k u=>match k,u with
  |0,_=>j
  |1,_=>f
def Z7:Model UU
 |[.int .i64 n]=>some ([-9223372036854775808<=n/\n<=9223372036854775807],.str (mL n))
 |_=>none
theorem aO0 {C:Cfg UU} (I:aE C) (L:C.P=prog) (O:∀w,C.inv w->inv1 w):aE (C.add 30 Z7):=by
 refine I.put ⟨fun u w=>by simp_all,?_⟩;intro N w u xs Z r j V f hm G;unfold Z7 at hm;split at hm
 ·rename_i n;cases hm;obtain⟨a,rfl,J⟩:=Cm f;cases J;rw[L];refine(strconv_Itoa n G.1 G.2 w (O w j).2).mono ?_
  rintro e w' ⟨rfl,k,S,rfl⟩
  exact⟨_,rfl,jT.of rfl rfl (.str _),bAp (below_drewN (Below.refl _ _) k) (QP _)⟩
 grind
def kg:Jg UU
 |[.ptr 0 0,.str s],.opq .bld b=>some ([1<=s.size/\b.size+s.size<=140737488355328],.tup [.int .i64 s.size,.raw .nilIface],.opq .bld (b++s))
 |_,_=>none
def kj:Jg UU
 |[.ptr 0 0],.opq .bld b=>some ([],.str b,.opq .dead ())
 |_,_=>none
theorem aLs (b s:ByteArray):Lib.strCells (b++s)=Lib.strCells b++Lib.strCells s:=by
 grind [Lib.strCells,ByteArray.data_append]
def Hs (p:Nat×Value) (m:Option (Nat×Value)):Own:=fun nm=>match nm with
 | .ob i=>if i=0 then some p else none
 | .mem i j=>if i=0/\j=0 then m else none
theorem aXd {C:Cfg UU} (hP:C.P=prog) (hE:C.E=EE) (w0:World):Di C 29 kg w0:=by
 refine⟨fun O w=>by simp_all,fun st ρ w O k0 xs ob ob' cs r hb hst hdom hsep hob hsz G oB hm hc oA hpr hown=>?_⟩;unfold kg at hm;split at hm
 ·rename_i s b;cases hm;obtain rfl:0=k0:=by cases hown;rfl
  obtain⟨h1,h2⟩:1<=s.size/\b.size+s.size<=140737488355328:=hc;rw[hE] at hob G ⊢;obtain⟨J,v,hp,L,hf1,uD⟩:vM b w w0.heap.size (ρ (.ob 0)) (fun j=>ρ (.mem 0 j)):=hob;have e0:=G 0 XQ;have e1:=G 1 XQ;obtain⟨l⟩:=O
  match l,hsz with
  |[x,y],_=>
   simp at e0 e1;cases e1;have hx:x=.pointer (some ⟨J,0,none⟩):=by
    cases e0 with
    |ptr _ _ q hq=>
     grind
   subst hx;rw[hP];have Z:w0.heap.size<=w.heap.size:=hb.size;refine(bA8 w0.heap.size J v (Lib.strCells b) s w L h1 (by rw[Lib.strCells_length];exact h2) Z).mono ?_
   rintro e w' ⟨rfl,f,I,hbel,V,hnew⟩
   have hnp:∀a,f≠ .pointer a:=C7 I.2.2.1;have hnp0:∀a,v≠ .pointer a:=C7 L.2.2.1
   let g:Nat:=match ρ (.mem 0 0) with
    |some q=>q.1+1
    |none=>0
   have T7:∀(nm:Name) q u,Hs (0,.pointer (some ⟨J,0,none⟩)) (some (g,f)) nm=some (q,u)->(nm=.ob 0/\(q,u)=(0,.pointer (some ⟨J,0,none⟩)))\/(nm=.mem 0 0/\(q,u)=(g,f)):=fun nm q u h=>by
    cases nm with
    |ob i=>
     grind [Hs]
    |mem i j=>
     grind [Hs]
   have hblk:∀k,f.ownBlock=some k->blk f=some k:=fun k h=>by grind [lQ]
   have hold:∀k,v.ownBlock=some k->∃q,ρ (.mem 0 0)=some (q,v):=fun k h=>by
    rcases uD with ⟨rfl,_⟩|⟨q,h0⟩
    ·cases h
    grind
   refine⟨_,Hs (0,.pointer (some ⟨J,0,none⟩)) (some (g,f)),rfl,⟨fun _=>Tb (.int _ _) (.raw _),fun h=>by cases h⟩,?_,fun nm q u h=>?_,⟨fun nm S=>?_,fun nm q u S h=>?_,hbel,fun k hk hne=>?_,fun nm q u k S h hbl=>?_,fun nm nm' q q' u u' k S hn' h h' hne hbl=>?_⟩⟩
   ·refine(show vM (b++s) w' w0.heap.size (Hs (0,.pointer (some ⟨J,0,none⟩)) (some (g,f)) (.ob 0)) (fun j=>Hs (0,.pointer (some ⟨J,0,none⟩)) (some (g,f)) (.mem 0 j)) from ?_);exact⟨J,f,rfl,by simp_all[aLs],fun j=>rfl,.inr ⟨g,rfl⟩⟩
   ·refine⟨?_,fun h=>by cases h⟩;rcases T7 nm q u h with ⟨rfl,_⟩|⟨rfl,_⟩<;>rfl
   ·cases h:ρ nm with
    |some p=>grind
    |none=>
     cases nm with
     |ob i=>exact QF S
     |mem i j=>exact QF (fun e=>S e.1)
   ·cases nm with
    |ob i=>
     obtain rfl:i=0:=S;rw[hp] at h;cases h;exact .inl rfl
    |mem i j=>
     obtain rfl:i=0:=S;cases j with
     |succ j=>grind
     |zero=>
      refine .inr ⟨?_,g,f,rfl,?_⟩
      ·grind
      grind
   ·refine V k hk (fun e=>?_) (fun e=>?_)
    ·subst e;exact hne (.ob 0) _ _ rfl hp rfl
    grind [lQ]
   ·grind [lQ]
   ·have hd:f.ownBlock≠some J:=I.2.2.2.1;rcases T7 nm q u h with ⟨rfl,h3⟩|⟨rfl,h3⟩<;>rcases T7 nm' q' u' h' with ⟨rfl,h4⟩|⟨rfl,h4⟩
    ·grind
    ·grind [blk,lQ]
    ·grind [lQ,blk]
    grind
 grind
theorem aXe {C:Cfg UU} (hP:C.P=prog) (hE:C.E=EE) (w0:World):Di C 32 kj w0:=by
 refine⟨fun J w=>by simp_all,fun st ρ w J k0 xs ob ob' cs r hb hst hdom hsep V hsz I oB hm hc oA hpr hown=>?_⟩;unfold kj at hm;split at hm
 ·rename_i b;cases hm;obtain rfl:0=k0:=by cases hown;rfl
  rw[hE] at V I ⊢;obtain⟨S,v,hp,G,hf1,uD⟩:vM b w w0.heap.size (ρ (.ob 0)) (fun j=>ρ (.mem 0 j)):=V;have e0:=I 0 XQ;obtain⟨l⟩:=J
  match l,hsz with
  |[x],_=>
   simp at e0;have hx:x=.pointer (some ⟨S,0,none⟩):=by
    cases e0 with
    |ptr _ _ q hq=>
     grind
   subst hx;rw[hP];have hnp0:∀a,v≠ .pointer a:=C7 G.2.2.1;have call:Calls prog 32 #[.pointer (some ⟨S,0,none⟩)] w fun e w'=>e=.returned (.string ⟨b.data.toList.toArray⟩)/\Below w0.heap.size w w'/\w'.heap.size=w.heap.size/\∀k,k<w.heap.size->v.ownBlock≠some k->w'.heap[k]?=w.heap[k]?:=
    bAa aUX bBq w0.heap.size S v b.data.toList w G
   refine call.mono ?_
   rintro e w' ⟨rfl,hbel,hsz',O⟩
   have hv:(⟨b.data.toList.toArray⟩:ByteArray)=b:=XQ;rw[hv];refine⟨_,ρ,rfl,⟨fun _=>.str _,fun h=>by cases h⟩,?_,fun nm q u h=>⟨(hdom nm q u h).1,fun h=>by cases h⟩,⟨fun _ _=>rfl,fun _ _ _ _ h=>.inl h,hbel,fun k hk Z=>O k hk (fun e=>?_),fun nm q u k hn h L=>.inl ⟨nm,q,u,hn,h,L⟩,fun nm nm' q q' u u' k _ _ h h' Z L=>hsep _ _ _ _ _ _ k h h' Z L⟩⟩
   ·refine(show Lh w' w0.heap.size (ρ (.ob 0)) (fun j=>ρ (.mem 0 j)) from ⟨⟨S,hp,G.1,?_⟩,fun i g u hu=>?_⟩)
    ·obtain⟨q,_,h2⟩:=G.2.1;grind
    ·have:=vo (s:=b) (w:=w) (base:=w0.heap.size) (p:=ρ (.ob 0)) (f:=fun j=>ρ (.mem 0 j)) ⟨S,v,hp,G,hf1,uD⟩ hu;grind
   ·rcases uD with ⟨rfl,_⟩|⟨q,h0⟩
    ·cases e
    grind [lQ]
 grind
def aKA:Cfg UU:=((aJx.add 30 Z7).Cq 29 kg).Cq 32 kj
theorem aNe:aE aKA:=by
 have f:=aO0 aNa rfl fun _ h=>h
 exact(f.Lo fun w0 _=>aXd rfl rfl w0).Lo fun w0 _=>aXe rfl rfl w0
end
end Go.Proofs.YtgcpildegdgekaaGreatDoor
