/- Texts of this proof, one behind another: An interpreter of the model's code over abstract values, and that it is right: part 4. Con; An interpreter of the model's code over abstract values, and that it is right: part 5. Con; DERIVED: THE SHELF's CONTRACTS AT THIS DUMP, IN PLAIN WORDS (tools/lay-plain.mjs out of 'T; Names: the contracts of strings.Contains, part.ValidName, and of the reference's ValidName; A strings.Builder as an object of the interpreter. Conditions: none.. Conditions: none. -/
import Derived.Test.YtjjbojomlfgjlaaGreatDoorMC2
import Derived.LoopN
import Derived.ProofKit
import Derived.OpenShut
import Derived.JoinedCond
import Derived.JoinedOf
import Derived.JoinedAt
import Derived.RowKit3
import Derived.Carry
import Derived.Lib.SmallJoins
import Derived.Deep.Slices
import Derived.Shelf.Small.Bits
import Derived.Shelf.Small.Wraps
import Derived.Shelf.Strings.Search1
import Derived.Shelf.Strings.Search2
import Derived.Shelf.Strings.Search3
import Derived.Shelf.LaysM
import Derived.Shelf.LaysC
import Derived.Shelf.Strings.Shaped
import Derived.Shelf.Strings.SplitShaped
import Derived.Shelf.Strings.Builder1
import Derived.Shelf.Strconv.Itoa3
import Derived.Shelf.Strconv.ErrVarAll
import Derived.Test.YtjjbojomlfgjlaaGreatDoorProg
import Derived.Test.YtjjbojomlfgjlaaGreatDoorChecked
import Derived.Lib.IndexMore
import Derived.Test.YtjjbojomlfgjlaaGreatDoorMC1
namespace Go.Vm
open Go.RowKit
set_option linter.unusedVariables false
def wpl (P:Program) (ops:Array Oper) (Q:Exit->Act->World->Prop):List Oper->(Act->World->Prop)->Act->World->Prop
 |[],K,a,w=>K a w
 |o::rest,K,a,w=>if Region.wanted o (yielded ops a.tmps) then o.wp P a w (wpl P ops Q rest K) Q else wpl P ops Q rest K (a.put o.dst undef) w
theorem aDP {P:Program} {ops:Array Oper} {Q:Exit->Act->World->Prop}:∀(l m:List Oper) {K:Act->World->Prop} {a:Act} {w:World},wpl P ops Q l (wpl P ops Q m K) a w->wpl P ops Q (l++m) K a w
 |[],m,K,a,w,h=>h
 |o::rest,m,K,a,w,h=>by
  unfold wpl at h;show wpl P ops Q (o::(rest++m)) K a w;unfold wpl;split
  ·rename_i hw;rw[if_pos hw] at h;exact Oper.wp_mono (fun a w h=>aDP rest m h) h
  ·rename_i hw;rw[if_neg hw] at h;exact aDP rest m h
theorem uL {P:Program} {ops:Array Oper} {Q:Exit->Act->World->Prop} {a:Act} {w:World} (h:wpl P ops Q ops.toList (Q .normal) a w):wpOps P ops Q (List.range ops.size) a w:=by
 have key:∀(l:List Oper) (k:Nat),(∀j,l[j]?=ops[k+j]?)->∀a w,wpl P ops Q l (Q .normal) a w->wpOps P ops Q (List.range' k l.length) a w:=by
  intro l
  induction l with
  |nil=>intro k _ a w h;exact h
  |cons o l ih=>
   intro k hk a w h;have h0:ops[k]?=some o:=by simpa using (hk 0).symm
   simp only[List.length_cons,List.range'_succ,wpOps,h0];have ih':=ih (k+1) (fun j=>by have:=hk (j+1);simpa[Nat.add_assoc,Nat.add_comm 1 j] using this);unfold wpl at h;split
   ·rename_i hw;rw[if_pos hw] at h;exact .inl (Oper.wp_mono (fun a w h=>ih' a w h) h)
   ·rename_i hw;rw[if_neg hw] at h;exact ih' _ _ h
 have:=key ops.toList 0 (fun j=>by simp) a w h;rwa [Array.length_toList,<- List.range_eq_range'] at this
section
variable {U:dH}
def sV (o:Oper):Bool:=
 match o.op with
 | .move _ | .pick _ _ _ | .build _ _ | .load _ _ | .nilCheck _ | .makeFunc _ _ _ | .binOp _ _ _ _ _ | .unOp _ _ _ | .fieldAddr _ _ _ | .field _ _ _ | .indexAddr _ _ _ | .index _ _ _ | .extract _ _ | .slice _ _ _ _ _ | .convert _ _ _ | .buildSlice _ _ _=>true
 | .call c=>match c.callee with
  | .builtin .len | .builtin .min | .builtin .max=>true
  | .value _=>true
  |_=>false
 |_=>false
def lW (ops:Array Oper) (g:Nat):Option Tmp:=(ops[g]?).bind (·.dst)
inductive GS where
 |run
 |skip
 |branch (d:Nat) (b:Bool) (want:Bool)
 |bad
def tJ (ops:Array Oper) (asm:List (Nat×Bool)) (s:ASt U) (o:Oper):GS:=
 match o.guard with
 |none=>.run
 |some (g,want)=>match lW ops g with
  |none=>.bad
  |some d=>match s.look d with
   | .raw (.tuple vs)=>cond (Nat.beq vs.size 0) .skip .bad
   | .bool b=>cond (asm.any fun p=>Nat.beq p.1 g&&(p.2==want)) (match b==want with
    |true=>.run
    |false=>.bad) (.branch d b want)
   |_=>.bad
def aKm (d:Nat) (o:Oper):Bool:=
 match o.op with
 | .pick (.tmp t) _ _=>Nat.beq t d
 |_=>false
def aDr (d:Nat):List Oper->Option (List Oper×Oper×List Oper)
 |[]=>none
 |o::r=>cond (aKm d o) (some ([],o,r)) (match aDr d r with
    |some (l,p,r')=>some (o::l,p,r')
    |none=>none)
def p7 (ops:Array Oper) (d:Nat) (want:Bool):List Nat->List Oper->Bool
 |_,[]=>true
 |sk,o::r=>match o.guard,o.dst with
  |some (g,w'),some t=>match lW ops g with
   |some dg=>((Nat.beq dg d&&(w'==want))||sk.any (Nat.beq dg))&&!Nat.beq t d&&p7 ops d want (t::sk) r
   |none=>false
  |_,_=>false
def jF (s:ASt U):List Oper->ASt U
 |[]=>s
 |o::r=>jF (s.put o.dst .any) r
def guarded (p:Prop):List Prop->List Prop
 |[]=>[]
 |cs=>[p->dE cs]
def aJz (b want:Bool) (x y:Operand) (va vb:aB U):Option (aB U):=
 match va,vb with
 | .bool p,.bool q=>match want with
  |true=>match y with
   | .const (.bool false)=>some (.bool (b&&p))
   |_=>some (.bool (cond b p q))
  |false=>match x with
   | .const (.bool true)=>some (.bool (b||p))
   |_=>some (.bool (cond b q p))
 |_,_=>none
def lV (n:Nat) (o:Oper):Bool:=
 match o.dst with
 |some d=>Nat.blt d n
 |none=>true
def aEd (d:Nat):Nat:=100000+64*d
def aAz (C:Cfg U) (s:ASt U) (o:Oper):Option (List Prop×ASt U):=
 match o.op with
 | .call c=>match c.callee with
  | .value x=>match s.eval x with
   | .fn f caps=>match tP C s.objs f (c.argTypes.toList++List.replicate caps.length 0) (c.args.toList.map s.eval++caps) with
    |some (cs,r)=>match o.dst with
     |some d=>cond (Nat.ble 2 r.news.length&&aGD s.objs (aEd (C.off+d)) r.news.length) (some (cs,(mM s (aEd (C.off+d)) r.news).put o.dst (r.sZ (aEd (C.off+d)+·)))) none
     |none=>none
    |none=>none
   |_=>none
  |_=>none
 |_=>none
def step (C:Cfg U) (n:Nat) (s:ASt U) (o:Oper):Option (List Prop×ASt U):=
 cond (lV n o) (match aop C o s.eval s.objs with
  |some (cs,v,ob)=>some (cs,(s.fK ob).put o.dst v)
  |none=>match aAz C s o with
   |some r=>some r
   |none=>match aDp C s o with
    |some r=>some r
    |none=>match tW C o s.eval s.objs with
     |some (cs,v,ob)=>some (cs,(s.fK ob).put o.dst v)
     |none=>none) none
def Cfg.down (C:Cfg U):Cfg U:={C with pur:=true,eff:=fun _=>none,sum:=fun f=>match C.sum f with
 |some m=>some fun xs=>match m xs with
  |some (cs,r)=>cond r.aEa (some (cs,r.down)) none
  |none=>none
 |none=>none}
def nS (C:Cfg U) (n:Nat) (ops:Array Oper):Nat->List (Nat×Bool)->List Oper->ASt U->Option (List Prop×ASt U)
 |0,_,_,_=>none
 |f+1,asm,l,s=>match l with
  |[]=>some ([],s)
  |o::rest=>match tJ ops asm s o with
   | .run=>match step C n s o with
    |some (cs,s')=>match nS C n ops f asm rest s' with
     |some (cs',s'')=>some (cs++cs',s'')
     |none=>none
    |none=>none
   | .skip=>cond (lV n o) (nS C n ops f asm rest (s.put o.dst (.raw undef))) none
   | .branch d b want=>match aDr d (o::rest) with
    |some (sg,pk,rest')=>match tJ ops asm (jF s sg) pk,pk.op with
     | .run,.pick _ x y=>cond (sg.all sV&&p7 ops d want [] sg&&lV n pk&&Nat.blt d n)
       (match nS C.down n ops f ((match o.guard with|some p=>[p]|none=>[])++asm) sg (s.set d (.bool want)) with
        |some (cs,s1)=>match aJz b want x y (s1.eval (cond want x y)) ((jF s sg).eval (cond want y x)) with
         |some v=>match nS C n ops f asm rest' ((jF s sg).put pk.dst v) with
          |some (cs',s'')=>some (guarded (b=want) cs++cs',s'')
          |none=>none
         |none=>none
        |none=>none) none
     |_,_=>none
    |none=>none
   | .bad=>none
end
end Go.Vm
namespace Go.Vm
open Go.RowKit
set_option linter.unusedVariables false
section
variable {U:dH} {n:Nat} {N:Nat->Prop} {w0:Fr} {w w':World} {ρ ρ':Own} {s s' s1 s2:ASt U} {a:Act}
theorem RR.weaken {E:Enc U} (h:RR E n N w0 ρ s1 a w) (ho:s2.objs=s1.objs) (ht:∀t,s2.tmps t=.any\/s2.tmps t=s1.tmps t):RR E n N w0 ρ s2 a w:=by
 refine⟨h.defers,h.size,fun t=>?_,by rw[ho];exact h.objs,(fun nm g u hr=>by obtain⟨ob,q1,q2⟩:=h.dom nm g u hr;exact⟨ob,by rw[ho];exact q1,q2⟩),h.sep,h.below,h.nlt,h.kept,h.free,fun id u hp=>by rw[ho];exact h.pin id u hp,h.nle⟩;rcases ht t with e|e
 ·rw[e];exact .any _
 ·rw[e];exact h.tmps t
theorem RR.bBb {E:Enc U} (h:RR E n N w0 ρ s a w) (dst:Option Tmp) (v:Value):RR E n N w0 ρ (s.put dst .any) (a.put dst v) w:=by
 cases dst with
 |none=>exact h
 |some d=>
  refine⟨h.defers,by simpa[Act.put] using h.size,fun t=>?_,h.objs,h.dom,h.sep,h.below,h.nlt,h.kept,h.free,h.pin,h.nle⟩;show Rel E w ρ _ (cond (Nat.beq t d) .any (s.tmps t)) (cond (Nat.blt t 1000000) ((a.tmps.setIfInBounds d v).getD t undef) (w0.hv t))
  by_cases ht:t=d
  ·subst ht;have:Nat.beq t t=true:=Nat.beq_refl t;rw[this];exact .any _
  ·rw[fG ht];have h0:=h.tmps t;have e:(a.tmps.setIfInBounds d v).getD t undef=a.tmps.getD t undef:=by simp[Array.getElem?_setIfInBounds_ne (Ne.symm ht)]
   rw[e];exact h0
theorem aGc {E:Enc U} {st:Nat->Prop} {b:Bool} {v:Value} (h:Rel E w ρ st (.bool b) v):v=.bool b:=by cases h;rfl
theorem aHy {E:Enc U} (h:RR E n N w0 ρ s a w) {ops:Array Oper} {g d:Nat} (hg:lW ops g=some d) {b:Bool} (hb:s.look d=.bool b):yielded ops a.tmps g=some b:=by
 have h1:=h.look d;rw[hb] at h1;have h2:=aGc h1;have h3:a.tmps[d]?=some (.bool b):=by
  cases hq:a.tmps[d]? with
  |none=>
   simp[hq] at h2;cases h2
  |some v=>
   simp[hq] at h2;rw[h2]
 unfold yielded;unfold lW at hg;rw[hg];simp[h3]
theorem aT0 {E:Enc U} (h:RR E n N w0 ρ s a w) {ops:Array Oper} {asm:List (Nat×Bool)} {o:Oper} (hg:tJ ops asm s o=.run):Region.wanted o (yielded ops a.tmps)=true:=by
 unfold tJ at hg;unfold Region.wanted;split at hg
 ·rename_i hn;rw[hn]
 ·rename_i g want hn;rw[hn];split at hg
  ·cases hg
  ·rename_i d hd;split at hg
   ·rename_i vs hv;cases hc:Nat.beq vs.size 0<;>rw[hc] at hg<;>cases hg
   ·rename_i b hb;cases hc:(asm.any fun p=>Nat.beq p.1 g&&(p.2==want)) with
    |false=>rw[hc] at hg;cases hg
    |true=>
     rw[hc] at hg;simp only[cond_true] at hg;split at hg
     ·rename_i hw;simp only[aHy h hd hb];simpa using hw
     ·cases hg
   ·cases hg
theorem bGQ {E:Enc U} (h:RR E n N w0 ρ s a w) {ops:Array Oper} {asm:List (Nat×Bool)} {o:Oper} (hg:tJ ops asm s o=.skip):Region.wanted o (yielded ops a.tmps)=false:=by
 unfold tJ at hg;unfold Region.wanted;split at hg
 ·cases hg
 ·rename_i g want hn;rw[hn];split at hg
  ·cases hg
  ·rename_i d hd;split at hg
   ·rename_i vs hv;have h1:=h.look d;rw[hv] at h1;have hy:yielded ops a.tmps g=none:=by
     generalize hq:a.tmps.getD d undef=v at h1;cases h1;unfold yielded;unfold lW at hd;rw[hd];simp only[Option.bind_some];cases hz:a.tmps[d]? with
     |none=>rfl
     |some v=>
      have:v=.tuple vs:=by simpa[hz] using hq
      rw[this]
    simp[hy]
   ·rename_i b hb;cases hc:(asm.any fun p=>Nat.beq p.1 g&&(p.2==want)) with
    |false=>rw[hc] at hg;cases hg
    |true=>
     rw[hc] at hg;simp only[cond_true] at hg;split at hg<;>cases hg
   ·cases hg
theorem bGR {ops:Array Oper} {asm:List (Nat×Bool)} {o:Oper} {d:Nat} {b want:Bool} (hg:tJ ops asm s o=.branch d b want):
  ∃g,o.guard=some (g,want)/\lW ops g=some d/\s.look d=.bool b:=by
 unfold tJ at hg;split at hg
 ·cases hg
 ·rename_i g want' hn;split at hg
  ·cases hg
  ·rename_i d' hd;split at hg
   ·rename_i vs hv;cases hc:Nat.beq vs.size 0<;>rw[hc] at hg<;>cases hg
   ·rename_i b' hb;cases hc:(asm.any fun p=>Nat.beq p.1 g&&(p.2==want')) with
    |false=>
     rw[hc] at hg;simp only[cond_false,GS.branch.injEq] at hg;obtain⟨rfl,rfl,rfl⟩:=hg;exact⟨g,hn,hd,hb⟩
    |true=>
     rw[hc] at hg;simp only[cond_true] at hg;split at hg<;>cases hg
   ·cases hg
theorem qH {o:Oper} (h:lV n o=true):∀d,o.dst=some d->d<n:=fun d hd=>by
 unfold lV at h;rw[hd] at h;exact Nat.le_of_ble_eq_true h
theorem bGl {look:Nat->Option (aV U)} {b:Nat}:∀(m:Nat),aGD look b m=true->∀k,k<m->look (b+k)=none:=by
 intro m
 induction m with
 |zero=>intro _ k hk;omega
 |succ m ih=>
  intro h k hk;simp only[aGD,Bool.and_eq_true] at h
  by_cases hkm:k=m
  ·subst hkm;have h1:=h.1;split at h1
   ·assumption
   ·cases h1
  ·exact ih h.2 k (by omega)
theorem aYV {C:Cfg U} (hs:fR C w0) (h:RR C.E n N w0 ρ s a w) {o:Oper} (hd:∀d,o.dst=some d->d<n) {cs:List Prop} (ho:aAz C s o=some (cs,s')) (hc:dE cs)
  {K:Act->World->Prop} {Q:Exit->Act->World->Prop} (hK:∀ρ' a' w',RR C.E n N w0 ρ' s' a' w'->K a' w'):o.wp C.P a w K Q:=by
 obtain⟨dst,op,ty,pos,after,guard⟩:=o;unfold aAz at ho;simp only at ho hd;cases op<;>(try simp only at ho)<;>(try (cases ho;done))
 case call c=>
 obtain⟨callee,args,argTypes⟩:=c;simp only at ho;split at ho
 ·rename_i x;split at ho
  ·rename_i f caps hxe;split at ho
   ·rename_i gD r hr;split at ho
    ·rename_i d;obtain⟨hcnd,ho⟩:=bI ho;simp only[Option.some.injEq,Prod.mk.injEq] at ho;obtain⟨rfl,rfl⟩:=ho;simp only[Bool.and_eq_true] at hcnd;have hfree:=bGl _ hcnd.2;have hxr:=h.eval x;rw[hxe] at hxr;generalize hfv:a.eval x=fv at hxr;cases hxr with
     |fn _ _ vs hvn hvl=>
     have hargsz:(args.map a.eval++vs).size=(args.toList.map s.eval++caps).length:=by simp[hvn]
     obtain⟨hcall,hcalls⟩:=aVy hs h (fun _ _ h=>h) (args:=args.map a.eval++vs) hargsz (fun k hk=>by
      by_cases hk':k<args.size
      ·have e:(args.map a.eval++vs).getD k undef=a.eval args[k]:=by simp[Array.getElem?_append,hk']
       rw[e];rw[List.getElem_append_left (by simpa using hk')];simp only[List.getElem_map,Array.getElem_toList];exact h.eval _
      ·have cW:k-args.size<caps.length:=by simp at hk;omega
       have e:(args.map a.eval++vs).getD k undef=vs.getD (k-args.size) undef:=by
        have:k-args.size<vs.size:=by omega
        simp[Array.getElem?_append,hk']
       rw[e,List.getElem_append_right (by simp;omega)];have:=hvl (k-args.size) cW;simpa using this) hr hc
     refine aIA (f:=f) (args:=args.map a.eval++vs) ?_ (hcalls.mono ?_)
     ·have e:#[]++args.map a.eval=args.map a.eval:=by simp
      simp[execOp,resolve,hfv,Deferred.ofValue,invoke,hcall]
     ·rintro e w' ⟨v,rfl,hv⟩
      obtain⟨ρ',hR,hrel⟩:=hv (aEd (C.off+d)) hfree;exact⟨v,rfl,hK ρ' _ w' (hR.put (some d) hd hrel)⟩
    ·cases ho
   ·cases ho
  ·cases ho
 ·cases ho
theorem aYX {C:Cfg U} (h:RR C.E n N w0 ρ s a w) {o:Oper} (hd:∀d,o.dst=some d->d<n) {cs:List Prop} (ho:aDp C s o=some (cs,s')) (hc:dE cs)
  {K:Act->World->Prop} {Q:Exit->Act->World->Prop} (hK:∀ρ' a' w',RR C.E n N w0 ρ' s' a' w'->K a' w'):o.wp C.P a w K Q:=by
 obtain⟨dst,op,ty,pos,after,guard⟩:=o;unfold aDp at ho;have hbo:=bI ho;clear ho;obtain⟨_,ho⟩:=hbo;simp only at ho hd;split at ho
 ·rename_i t len parts d;obtain⟨_,ho⟩:=bI ho;have fin:∀{q:Value} {w':World} {ρ':Own},(Instr.buildSlice t len (parts.map fun (p:Nat×Operand)=>(p.1,a.eval p.2))).run C.P w=.ok q w'->RR C.E n N w0 ρ' s' (a.put (some d) q) w'->
    Oper.wp C.P ⟨some d,.buildSlice t len parts,ty,pos,after,guard⟩ a w K Q:=fun {q w' ρ'} hrun hR=>by
   refine hJ (u:=q) (w':=w') ?_ (hK ρ' _ w' hR);show ((do pure (Next.value (<- Instr.buildSlice t len (parts.map fun (p:Nat×Operand)=>(p.1,a.eval p.2)))):Sem Next)).run C.P w=_;simp only[Sem.run_bind,hrun,Result.andThen_ok,Sem.run_pure]
  split at ho
  ·rename_i r hr;cases ho;obtain⟨q,w',ρ',hrun,hR⟩:=bIs h (hd d rfl) (parts':=parts.map fun (p:Nat×Operand)=>(p.1,a.eval p.2)) (by simp) (sY h parts) hr;exact fin hrun hR
  ·obtain⟨q,w',ρ',hrun,hR⟩:=bIq h (hd d rfl) (parts':=parts.map fun (p:Nat×Operand)=>(p.1,a.eval p.2)) (by simp) (sY h parts) ho;exact fin hrun hR
 ·rename_i c d;obtain⟨callee,args,argTypes⟩:=c;simp only at ho;split at ho
  ·rename_i x y hargs;have hargs':args=#[x,y]:=by rw[<- Array.toArray_toList (xs:=args),hargs]
   subst hargs';obtain⟨q,w',ρ',hrun,hR⟩:=bIt (ty:=ty) h (hd d rfl) (h.eval x) (h.eval y) ho hc;refine hJ (u:=q) (w':=w') ?_ (hK ρ' _ w' hR);simp[execOp,resolve,invoke,builtin,hrun]
  ·cases ho
 ·rename_i t x hi d;obtain⟨_,ho⟩:=bI ho;obtain⟨q,ρ',hrun,hR⟩:=bCD h (hd d rfl) (h.eval x) (h.eval hi) ho hc;refine hJ (u:=q) (w':=w) ?_ (hK ρ' _ w hR);simp[execOp,hrun]
 ·cases ho
theorem aMz {C:Cfg U} (hs:fR C w0) (h:RR C.E n N w0 ρ s a w) {o:Oper} {cs:List Prop} (ho:step C n s o=some (cs,s')) (hc:dE cs)
  {K:Act->World->Prop} {Q:Exit->Act->World->Prop} (hK:∀ρ' a' w',RR C.E n N w0 ρ' s' a' w'->K a' w'):o.wp C.P a w K Q:=by
 unfold step at ho;obtain⟨hd,ho⟩:=bI ho;split at ho
 ·rename_i cs' v ob hop;simp only[Option.some.injEq,Prod.mk.injEq] at ho;obtain⟨rfl,rfl⟩:=ho;exact aWM hs h (fun _ _ h=>h) (fun _ _ h=>h) (qH hd) hop hc (fun ρ' u w' hR=>hK _ _ _ hR)
 ·split at ho
  ·rename_i r hr;cases ho;exact aYV hs h (qH hd) hr hc hK
  ·rename_i hop _ _;split at ho
   ·rename_i r hr;cases ho;exact aYX h (qH hd) hr hc hK
   ·split at ho
    ·rename_i cs' v ob hx;simp only[Option.some.injEq,Prod.mk.injEq] at ho;obtain⟨rfl,rfl⟩:=ho;refine aWN hs h (fun _ _ h=>h) (fun _ _ h=>h) (qH hd) (r:=v) (ob:=ob) ?_ hc (fun ρ' u w' hR=>hK _ _ _ hR);unfold nT;rw[hop];exact hx
    ·cases ho
theorem aNE {d:Nat}:∀{l sg:List Oper} {pk:Oper} {r:List Oper},aDr d l=some (sg,pk,r)->l=sg++pk::r/\∃x y,pk.op=.pick (.tmp d) x y:=by
 intro l
 induction l with
 |nil=>intro sg pk r h;cases h
 |cons o l ih=>
  intro sg pk r h;simp only[aDr] at h;cases hc:aKm d o with
  |true=>
   rw[hc] at h;simp only[cond_true,Option.some.injEq,Prod.mk.injEq] at h;obtain⟨rfl,rfl,rfl⟩:=h;refine⟨rfl,?_⟩;unfold aKm at hc;split at hc
   ·rename_i t x y hop;obtain rfl:=Nat.eq_of_beq_eq_true hc;exact⟨x,y,hop⟩
   ·cases hc
  |false=>
   rw[hc] at h;simp only[cond_false] at h;split at h
   ·rename_i l' p r' hsp;simp only[Option.some.injEq,Prod.mk.injEq] at h;obtain⟨rfl,rfl,rfl⟩:=h;obtain⟨h1,h2⟩:=ih hsp;exact⟨by rw[h1];rfl,h2⟩
   ·cases h
theorem aVs:∀(l:List Oper) (s:ASt U),(jF s l).objs=s.objs:=by
 intro l
 induction l with
 |nil=>intro s;rfl
 |cons o l ih=>
  intro s;rw[jF,ih];cases o.dst<;>rfl
theorem bJO:∀(l:List Oper) (s:ASt U) (t:Nat),((∃o∈l,o.dst=some t)\/s.tmps t=.any)/\(jF s l).tmps t=.any\/(∀o∈l,o.dst≠some t)/\(jF s l).tmps t=s.tmps t:=by
 intro l
 induction l with
 |nil=>intro s t;exact .inr ⟨by simp,rfl⟩
 |cons o l ih=>
  intro s t;have hput:(s.put o.dst .any).tmps t=if o.dst=some t then .any else s.tmps t:=by
   cases hd:o.dst with
   |none=>simp[ASt.put]
   |some d=>
    show cond (Nat.beq t d) .any (s.tmps t)=_
    by_cases hc:t=d
    ·subst hc;simp
    ·rw[fG hc,if_neg (fun e=>hc (Option.some.inj e).symm)];rfl
  rw[jF];rcases ih (s.put o.dst .any) t with ⟨h1,h2⟩|⟨h1,h2⟩
  ·refine .inl ⟨?_,h2⟩;rcases h1 with ⟨o',ho',hd⟩|h1
   ·exact .inl ⟨o',List.mem_cons_of_mem _ ho',hd⟩
   ·rw[hput] at h1
    by_cases hd:o.dst=some t
    ·exact .inl ⟨o,List.mem_cons_self,hd⟩
    ·rw[if_neg hd] at h1;exact .inr h1
  ·rw[hput] at h2
   by_cases hd:o.dst=some t
   ·rw[if_pos hd] at h2;exact .inl ⟨.inl ⟨o,List.mem_cons_self,hd⟩,h2⟩
   ·rw[if_neg hd] at h2;exact .inr ⟨fun o' ho'=>by
     rcases List.mem_cons.1 ho' with rfl|ho'
     ·exact hd
     ·exact h1 o' ho',h2⟩
theorem aY8 {C:Cfg U} {ops:Array Oper} {Q:Exit->Act->World->Prop} {d:Nat} {b want:Bool} (hbw:b≠want):
  ∀(sg:List Oper) (sk:List Nat) (s:ASt U) (a:Act),RR C.E n N w0 ρ s a w->a.tmps.getD d undef=.bool b->(∀t∈sk,a.tmps.getD t undef=undef)->p7 ops d want sk sg=true->
   ∀{K:Act->World->Prop},(∀a',RR C.E n N w0 ρ (jF s sg) a' w->a'.tmps.getD d undef=.bool b->K a' w)->wpl C.P ops Q sg K a w:=by
 intro sg
 induction sg with
 |nil=>intro sk s a h hd _ _ K hK;exact hK a h hd
 |cons o sg ih=>
  intro sk s a h hd hsk ho K hK;simp only[p7] at ho;split at ho
  ·rename_i g w1 t hg ht;split at ho
   ·rename_i dg hdg;simp only[Bool.and_eq_true,Bool.or_eq_true,Bool.not_eq_true'] at ho;obtain⟨⟨h1,h2⟩,h3⟩:=ho;have htd:t≠d:=fun e=>by
     subst e;rw[Nat.beq_refl] at h2;cases h2
    have hy:yielded ops a.tmps g≠some w1:=by
     unfold yielded;unfold lW at hdg;rw[hdg];simp only[Option.bind_some];rcases h1 with ⟨h4,h5⟩|h4
     ·obtain rfl:=Nat.eq_of_beq_eq_true h4;have nP:w1=want:=by simpa using h5
      cases hz:a.tmps[dg]? with
      |none=>simp
      |some v=>
       have:v=.bool b:=by simpa[hz] using hd
       rw[this];simp only[ne_eq,Option.some.injEq];rw[nP];exact hbw
     ·obtain⟨t',ht',hb⟩:=List.any_eq_true.1 h4;obtain rfl:=Nat.eq_of_beq_eq_true hb;have:=hsk _ ht';cases hz:a.tmps[dg]? with
      |none=>simp
      |some v=>
       have:v=undef:=by simpa[hz] using this
       rw[this];simp[undef]
    unfold wpl;rw[if_neg (by
     unfold Region.wanted;rw[hg];simpa using hy)]
    have hgetd:∀t',t'≠t->(a.put o.dst undef).tmps.getD t' undef=a.tmps.getD t' undef:=fun t' hne=>by
     rw[ht];simp[Act.put,Array.getElem?_setIfInBounds_ne (Ne.symm hne)]
    refine ih (t::sk) (s.put o.dst .any) (a.put o.dst undef) (h.bBb _ _) (by rw[hgetd d (Ne.symm htd)];exact hd) (fun t' ht'=>?_) h3 (fun a' hR hd'=>hK a' hR hd')
    by_cases hc:t'=t
    ·subst hc;rw[ht]
     by_cases hlt:t'<a.tmps.size
     ·simp[Act.put,hlt]
     ·have:a.tmps.size<=t':=by omega
      simp[Act.put,this]
    ·rw[hgetd t' hc];rcases List.mem_cons.1 ht' with e|ht'
     ·exact absurd e hc
     ·exact hsk t' ht'
   ·cases ho
  ·cases ho
def aA3 (C:Cfg U):Prop:=(∀f m xs cs r,C.sum f=some m->m xs=some (cs,r)->r.news=[])/\(∀f,C.eff f=none)/\C.pur=true
theorem bIi (c:aB U):fE (fI c)=[]:=by cases c<;>rfl
theorem aAQ:∀(l:List (aB U)) (k:Nat),gM (fun _=>fI) k l=l.map fI:=by
 intro l
 induction l with
 |nil=>intro k;rfl
 |cons c l ih=>intro k;simp only[gM,List.map_cons];rw[ih]
theorem aVi (l:List (aB U)):(l.map fI).flatMap fE=[]:=by
 induction l with
 |nil=>rfl
 |cons c l ih=>rw[List.map_cons,List.flatMap_cons,bIi,ih];rfl
theorem aVj (g:Nat->aB U->aB U) (hg:g=fun _=>fI) (k:Nat) (c:aB U):eU (kM g k c)=[]:=by
 subst hg;cases c with
 |agg l=>simp only[kM,eU];rw[aAQ];exact aVi l
 |_=>rfl
theorem aVk (r:aB U):r.down.news=[]:=by
 cases r with
 |tup l=>
  show (gI (fun _=>fI) 0 l).flatMap eU=[];have:∀(l:List (aB U)) (k:Nat),(gI (fun _=>fI) k l).flatMap eU=[]:=by
   intro l
   induction l with
   |nil=>intro k;rfl
   |cons c l ih=>
    intro k;simp only[gI,List.flatMap_cons];rw[ih,aVj _ rfl];rfl
  exact this l 0
 |agg l=>
  show (gM (fun _=>fI) 0 l).flatMap fE=[];rw[aAQ];exact aVi l
 |_=>rfl
theorem bDN (C:Cfg U):aA3 C.down:=by
 refine⟨fun f m xs cs r hf hm=>?_,fun f=>rfl,rfl⟩;simp only[Cfg.down] at hf;split at hf
 ·cases hf;simp only at hm;split at hm
  ·obtain⟨_,hm⟩:=bI hm;cases hm;exact aVk _
  ·cases hm
 ·cases hf
theorem bIg (f:Nat->Nat) (k:Nat) (c:aB U):fM f k (fI c)=fI c:=by cases c<;>rfl
theorem aVg (f:Nat->Nat):∀(l:List (aB U)) (k:Nat),gM (fM f) k (l.map fI)=l.map fI:=by
 intro l
 induction l with
 |nil=>intro k;rfl
 |cons c l ih=>intro k;simp only[List.map_cons,gM];rw[bIg,ih]
theorem aVh (f:Nat->Nat) (k k':Nat) (c:aB U):kM (fM f) k (kM (fun _=>fI) k' c)=kM (fun _=>fI) k' c:=by
 cases c with
 |agg l=>simp only[kM];rw[aAQ,aVg]
 |_=>rfl
theorem bIh (f:Nat->Nat) (r:aB U):r.down.sZ f=r.down:=by
 cases r with
 |tup l=>
  have:∀(l:List (aB U)) (k k':Nat),gI (fM f) k (gI (fun _=>fI) k' l)=gI (fun _=>fI) k' l:=by
   intro l
   induction l with
   |nil=>intro k k';rfl
   |cons c l ih=>
    intro k k';simp only[gI];rw[aVh,ih]
  exact congrArg aB.tup (this l 0 0)
 |agg l=>
  show aB.agg (gM (fM f) 0 (gM (fun _=>fI) 0 l))=_;rw[aAQ,aVg,<- aAQ l 0];rfl
 |_=>rfl
theorem eG.content {E:Enc U} {base k:Nat} {st:Nat->Prop} {x:cZ U} {u:Value} (h:eG E w ρ st base k x.obj) (hst:∀b,st b->dJ N w b) (hN:∀b,N b->b<base) (hu:Rel E w ρ st (.osl k 0) u):Rel E w bU (dJ N w) (.sl x.2.1 x.2.2) u:=by
 have hout:∀{e:TypeId} {m n:Nat} {cs:List Value} {v:Value},w.ownsRow base e m v n cs->∀b o l c,v=.slice (some ⟨b,o,none⟩) l c->dJ N w b:=fun h2 b o l c hv=>by
  rcases h2.2 with ⟨h0,_⟩|⟨gb,cap,cur,heq,hbase,hgb,_⟩
  ·rw[hv] at h0;cases h0
  ·rw[hv] at heq;simp only[Value.slice.injEq,Option.some.injEq,Addr.mk.injEq,and_true] at heq;obtain⟨⟨rfl,_⟩,_⟩:=heq;exact⟨(Array.getElem?_eq_some_iff.1 hgb).1,fun hq=>by have:=hN _ hq;omega⟩
 have toSl:∀{t:U.τ} {xs:List (U.T t)} {v:Value} {cs:List Value},w.ownsRow base (U.ety t) (U.size t) v xs.length cs->(∀i (h:i<xs.length) k (hk:k<(E.enc t xs[i]).length),Rel E w bU (dJ N w) (E.enc t xs[i])[k] (cs.getD (i*U.size t+k) undef))->Rel E w bU (dJ N w) (.sl t xs) v:=fun {t xs v cs} h2 h3=>by
  rcases wY h2 h3 with ⟨⟨ad,rfl⟩,rfl⟩|⟨b,o,cap,f,rfl,hcap,hc,hl'⟩
  ·exact .slE t ad
  ·exact .sl t xs b o cap f (hout h2 _ _ _ _ rfl) hcap hc hl'
 have fl:∀{c:aB U} {v:Value},c.flat=true->Rel E w ρ st c v->Rel E w bU (dJ N w) c v:=fun hc hv=>(hv.flat (ρ':=bU) hc).mono (fun b hb=>⟨hst b hb,rfl⟩) (fun _ _ _ hr=>by cases hr)
 have eqv:∀{u':Value},ρ (.ob k)=some (0,u')->u'=u:=fun {u'} q1=>by
  cases hu with
  |osl _ _ _ q hp=>
   rw[q1] at q;simpa using q
  |oslOld _ _ g' u'' _ q hg=>
   rw[q1] at q;simp only[Option.some.injEq,Prod.mk.injEq] at q;omega
 obtain⟨d,t,xs⟩:=x;cases d with
 |false=>
  obtain⟨u',cs',q1,q2,q3,q4⟩:=h;obtain rfl:=eqv q1;exact toSl q3 (fun i hi k' hk'=>fl (E.enc_flat t _ _ (List.getElem_mem hk')).1 (q4 i hi k' hk'))
 |true=>
  obtain⟨u',cs',q1,q2,q3,q4,q5,q6⟩:=h;obtain rfl:=eqv q1;refine toSl q3 (fun i hi k' hk'=>?_);obtain⟨t1,ys,v1,ds,r1,r2,r3,r4,r5,r6⟩:=q6 i hi;have iI:k'=0:=by
   rw[E.enc_len,q4] at hk';omega
  subst iI;have e1:(E.enc t xs[i])[0]=.sl t1 ys:=by simp only[r1];rfl
  show Rel E w bU (dJ N w) (E.enc t xs[i])[0] _;rw[e1,q4,Nat.mul_one,Nat.add_zero,r3];exact toSl r5 (fun i hi k' hk'=>fl (E.enc_flat t1 _ _ (List.getElem_mem hk')).1 (r6 i hi k' hk'))
theorem jQ.down {E:Enc U} {base:Nat} {r:aB U} {v:Value} (hok:r.aEa=true) (hN:∀b,N b->b<base) (h:jQ E base N w r v):Rel E w bU (dJ N w) r.down v:=by
 obtain⟨ρr,f1,f2,f3,f4⟩:=h;refine aB8 (p:=fun c=>w7 c=true) (aJX hok) (fun k c u hpc hnew hu=>?_) f1;have cases_:(∃x,fE c=[x]/\fM (fun k=>k) k c=.osl k 0/\fI c=.sl x.2.1 x.2.2)\/(fE c=[]/\fM (fun k=>k) k c=c/\fI c=c):=by
  cases c<;>first|exact .inl ⟨_,rfl,rfl,rfl⟩|exact .inr ⟨rfl,rfl,rfl⟩
 rcases cases_ with ⟨x,hcx,e1,e2⟩|⟨hcx,e1,e2⟩
 ·rw[e1] at hu;show Rel E w bU (dJ N w) (fI c) u;rw[e2];exact(f2 k x (hnew x hcx)).content (fun b q=>⟨q.1,q.2.1⟩) hN hu
 ·rw[e1] at hu;show Rel E w bU (dJ N w) (fI c) u;rw[e2];refine(hu.flat (ρ':=bU) ?_).mono (fun b hb=>⟨⟨hb.1,hb.2.1⟩,rfl⟩) (fun _ _ _ hr=>by cases hr);cases c<;>first|exact hpc|cases hcx
theorem fR.down {C:Cfg U} (h:fR C w0):fR C.down w0:=by
 refine⟨fun f m hf=>?_,fun f m hf=>by cases hf⟩;simp only[Cfg.down] at hf;split at hf
 ·rename_i m0 wQ;cases hf;refine⟨(h.1 f m0 wQ).1,fun N w args xs cs r hb hN hargs hm hc=>?_⟩;simp only at hm;split at hm
  ·rename_i gD r0 kA;obtain⟨hok,hm⟩:=bI hm;cases hm;refine((h.1 f m0 wQ).2 N w args xs _ _ hb hN hargs kA hc).mono ?_
   rintro e w' ⟨v,rfl,hv,hbw⟩
   refine⟨v,rfl,⟨bU,?_,?_,?_,?_⟩,hbw⟩
   ·rw[bIh];exact(hv.down hok hN).mono (fun b q=>⟨⟨q.1,q.2,fun _ _ _ hr=>by cases hr⟩,rfl⟩) (fun _ _ _ hr=>by cases hr)
   ·intro k x hk;rw[aVk] at hk;cases hk
   ·intro k g u hr;cases hr
   ·intro _ _ _ _ _ _ _ hr;cases hr
  ·cases hm
 ·cases hf
theorem bLI {C:Cfg U} (hnn:aA3 C) {o:Oper} {ev:Operand->aB U} {look:Nat->Option (aV U)} {cs:List Prop} {v:aB U} {ob:Option (Nat×aV U)} (hp:sV o=true) (h:aop C o ev look=some (cs,v,ob)):ob=none:=by
 have hval?:∀{x:Option (aB U)},val? x=some (cs,v,ob)->ob=none:=fun {x} h=>by
  unfold val? at h;split at h
  ·simp only[Option.some.injEq,Prod.mk.injEq] at h;exact h.2.2.symm
  ·cases h
 have hval:∀{x:aB U},val x=some (cs,v,ob)->ob=none:=fun {x} h=>by
  simp only[val,Option.some.injEq,Prod.mk.injEq] at h;exact h.2.2.symm
 obtain⟨dst,op,ty,pos,after,guard⟩:=o;unfold aop at h;unfold sV at hp;cases op<;>(try simp only at h)<;>(try simp only at hp)<;>(try (cases hp;done))
 case move=>exact hval h
 case convert=>
  split at h
  ·exact hval h
  ·cases h
 case buildSlice=>
  split at h
  ·split at h
   ·have h:=(bI h).2;split at h
    ·split at h
     ·rw[hnn.2.2,cond_true] at h;simp only[Option.some.injEq,Prod.mk.injEq] at h;exact h.2.2.symm
     ·have e:(C.deep||C.pur)=true:=by rw[hnn.2.2,Bool.or_true]
      rw[e] at h;cases h
    ·cases h
   ·cases h
  ·cases h
 case nilCheck=>
  split at h
  ·exact hval h
  ·exact hval (bI h).2
  ·exact hval (bI h).2
  ·exact hval h
  ·cases h
 case makeFunc=>
  split at h
  ·exact hval (bI h).2
  ·cases h
 case pick=>
  split at h
  ·exact hval h
  ·split at h<;>exact hval h
  ·cases h
 case build=>
  split at h
  ·split at h
   ·exact hval h
   ·cases h
  ·cases h
 case load=>
  split at h
  ·exact hval? h
  ·unfold aFI at h;split at h
   ·split at h
    ·split at h
     ·cases (bI h).2;rfl
     ·cases h
    ·split at h
     ·cases (bI h).2;rfl
     ·cases h
    ·cases h
   ·cases h
 case binOp=>
  split at h
  ·exact hval h
  ·split at h
   ·simp only[Option.some.injEq,Prod.mk.injEq] at h;exact h.2.2.symm
   ·cases h
 case unOp=>exact hval? h
 case fieldAddr=>
  split at h
  ·unfold aEz at h;split at h
   ·exact hval h
   ·exact hval (bI h).2
   ·exact hval h
   ·exact hval (bI h).2
   ·cases h
  ·cases h
 case field=>
  split at h
  ·split at h
   ·exact hval? h
   ·cases h
  ·cases h
 case indexAddr=>
  split at h
  ·split at h
   ·rename_i q0 fO;obtain rfl:=Option.some.inj h;unfold aFY at fO;split at fO
    ·split at fO
     ·have:=(bI fO).2;simp only[Option.some.injEq,Prod.mk.injEq] at this;exact this.2.2.symm
     ·split at fO
      ·have:=(bI fO).2;simp only[Option.some.injEq,Prod.mk.injEq] at this;exact this.2.2.symm
      ·have:=(bI fO).2;simp only[Option.some.injEq,Prod.mk.injEq] at this;exact this.2.2.symm
      ·cases fO
     ·split at fO
      ·have:=(bI fO).2;simp only[Option.some.injEq,Prod.mk.injEq] at this;exact this.2.2.symm
      ·cases fO
     ·simp only[Option.some.injEq,Prod.mk.injEq] at fO;exact fO.2.2.symm
     ·split at fO
      ·have:=(bI fO).2;simp only[Option.some.injEq,Prod.mk.injEq] at this;exact this.2.2.symm
      ·cases fO
     ·cases fO
    ·split at fO
     ·split at fO
      ·simp only[Option.some.injEq,Prod.mk.injEq] at fO;exact fO.2.2.symm
      ·simp only[Option.some.injEq,Prod.mk.injEq] at fO;exact fO.2.2.symm
      ·cases fO
     ·cases fO
    ·cases fO
   ·unfold aFX at h;split at h
    ·split at h
     ·cases (bI h).2;rfl
     ·cases h
    ·cases h
  ·cases h
 case index=>
  split at h
  ·unfold indexOf at h;split at h
   ·simp only[Option.some.injEq,Prod.mk.injEq] at h;exact h.2.2.symm
   ·split at h
    ·split at h
     ·simp only[Option.some.injEq,Prod.mk.injEq] at h;exact h.2.2.symm
     ·cases h
    ·cases h
   ·cases h
  ·cases h
 case slice t x lo hi mx=>
  have hsl:∀{x:aB U} {lo hi:Option (aB U)},pL C t x lo hi=some (cs,v,ob)->ob=none:=fun {x lo hi} h=>by
   unfold pL at h;split at h
   ·split at h<;>first
     | (simp only[Option.some.injEq,Prod.mk.injEq] at h;exact h.2.2.symm)
     | (cases h;done)
   ·have h:=(bI h).2;split at h<;>first
     | (simp only[Option.some.injEq,Prod.mk.injEq] at h;exact h.2.2.symm)
     | (cases h;done)
   ·cases h
  cases mx with
  |some m=>cases h
  |none=>cases lo<;>cases hi<;>exact hsl h
 case extract=>
  split at h
  ·exact hval? h
  ·cases h
 case call c=>
  obtain⟨callee,args,argTypes⟩:=c;simp only at h hp;split at h
  ·split at h
   ·split at h
    ·exact hval h
    ·cases h
   ·cases h
  ·exact hval? h
  ·exact hval? h
  ·cases hp
  ·rename_i x;split at h
   ·rw[hnn.2.1] at h;simp only at h;unfold aGT at h;split at h
    ·rename_i gD r0 hr;have fX:r0.news=[]:=by
      unfold tP at hr;split at hr
      ·rename_i m hm;split at hr
       ·split at hr
        ·rename_i hmx;obtain⟨_,hr⟩:=bI hr;cases hr;exact hnn.1 _ _ _ _ _ hm hmx
        ·cases hr
       ·cases hr
      ·cases hr
     rw[fX] at h;cases h;rfl
    ·cases h
   ·cases h
  ·cases h
theorem bLK {C:Cfg U} (hnn:aA3 C) {o:Oper} {ev:Operand->aB U} {look:Nat->Option (aV U)} {cs:List Prop} {v:aB U} {ob:Option (Nat×aV U)} (hp:sV o=true) (h:tW C o ev look=some (cs,v,ob)):ob=none:=by
 obtain⟨dst,op,ty,pos,after,guard⟩:=o;unfold tW at h;unfold sV at hp;cases op<;>(try simp only at h)<;>(try simp only at hp)<;>(try (cases hp;done))<;>(try (cases h;done))
 case slice t x lo hi mx=>
  have hsl:∀{x:aB U} {lo hi:Option (aB U)},vJ C look t x lo hi=some (cs,v,ob)->ob=none:=fun {x lo hi} h=>by
   unfold vJ at h;split at h
   ·split at h
    ·have h:=(bI h).2;split at h<;>first
      | (simp only[Option.some.injEq,Prod.mk.injEq] at h;exact h.2.2.symm)
      | (cases h;done)
    ·cases h
   ·cases h
  cases mx with
  |some m=>cases h
  |none=>cases lo<;>cases hi<;>first| (exact hsl h)| (cases h;done)
 case indexAddr t x ix=>
  unfold aFW at h;split at h
  ·split at h
   ·have h:=(bI h).2;simp only[Option.some.injEq,Prod.mk.injEq] at h;exact h.2.2.symm
   ·cases h
  ·split at h
   ·have h:=(bI h).2;simp only[Option.some.injEq,Prod.mk.injEq] at h;exact h.2.2.symm
   ·cases h
  ·cases h
 case buildSlice t len parts=>
  exfalso;split at h
  ·unfold aGb at h;split at h
   ·split at h
    ·have hb:=(bI h).1;rw[hnn.2.2] at hb;simp at hb
    ·cases h
   ·cases h
  ·cases h
 case call c=>
  exfalso;obtain⟨callee,args,argTypes⟩:=c;simp only at h hp;split at h
  ·simp only at hp;cases hp
  ·simp only at hp;cases hp
  ·cases h
end
end Go.Vm
namespace Go.Vm
open Go.RowKit
set_option linter.unusedVariables false
section
variable {U:dH} {n:Nat} {N:Nat->Prop} {w0:Fr} {w w':World} {ρ ρ':Own} {s s' s1 s2:ASt U} {a:Act}
theorem aVo (l m:List Prop):dE (l++m)↔dE l/\dE m:=by
 simp only[bJD,List.mem_append];exact⟨fun h=>⟨fun p hp=>h p (.inl hp),fun p hp=>h p (.inr hp)⟩,fun ⟨h1,h2⟩ p hp=>hp.elim (h1 p) (h2 p)⟩
theorem bGP {p:Prop} {cs:List Prop} (h:dE (guarded p cs)) (hp:p):dE cs:=by
 cases cs with
 |nil=>trivial
 |cons c cs=>exact h hp
theorem aYW {C:Cfg U} (hnn:aA3 C) {o:Oper} {r:List Prop×ASt U} (h:aAz C s o=some r):False:=by
 unfold aAz at h;split at h
 ·split at h
  ·split at h
   ·split at h
    ·rename_i gD r0 hr;split at h
     ·obtain⟨hcnd,_⟩:=bI h;simp only[Bool.and_eq_true] at hcnd;have h2:=Nat.le_of_ble_eq_true hcnd.1;have fX:r0.news=[]:=by
       unfold tP at hr;split at hr
       ·rename_i m hm;split at hr
        ·split at hr
         ·rename_i hmx;obtain⟨_,hr⟩:=bI hr;cases hr;exact hnn.1 _ _ _ _ _ hm hmx
         ·cases hr
        ·cases hr
       ·cases hr
      rw[fX] at h2;simp at h2
     ·cases h
    ·cases h
   ·cases h
  ·cases h
 ·cases h
theorem aYU {C:Cfg U} (hnn:aA3 C) {o:Oper} {cs:List Prop} (hp:sV o=true) (h:step C n s o=some (cs,s')):s'.objs=s.objs/\∀t,o.dst≠some t->s'.tmps t=s.tmps t:=by
 have fin:∀v:aB U,((s.fK none).put o.dst v).objs=s.objs/\∀t,o.dst≠some t->((s.fK none).put o.dst v).tmps t=s.tmps t:=fun v=>by
  cases hd:o.dst with
  |none=>exact⟨rfl,fun t _=>rfl⟩
  |some d=>
   refine⟨rfl,fun t ht=>?_⟩;show cond (Nat.beq t d) v (s.tmps t)=s.tmps t;rw[fG (fun e=>ht (by rw[e]))];rfl
 unfold step at h;obtain⟨_,h⟩:=bI h;split at h
 ·rename_i cs' v ob hop;simp only[Option.some.injEq,Prod.mk.injEq] at h;obtain⟨rfl,rfl⟩:=h;obtain rfl:=bLI hnn hp hop;exact fin v
 ·split at h
  ·rename_i r kA;cases h;exact(aYW hnn kA).elim
  ·split at h
   ·rename_i r hr;obtain⟨dst,op,ty,pos,after,guard⟩:=o;unfold aDp at hr;have hbn:=(bI hr).1;rw[hnn.2.2,Bool.not_true] at hbn;cases hbn
   ·split at h
    ·rename_i cs' v ob hx;simp only[Option.some.injEq,Prod.mk.injEq] at h;obtain⟨rfl,rfl⟩:=h;obtain rfl:=bLK hnn hp hx;exact fin v
    ·cases h
theorem aIn (s:ASt U) (dst:Option Tmp) (v:aB U):(s.put dst v).objs=s.objs/\∀t,dst≠some t->(s.put dst v).tmps t=s.tmps t:=by
 cases dst with
 |none=>exact⟨rfl,fun t _=>rfl⟩
 |some d=>
  refine⟨rfl,fun t ht=>?_⟩;show cond (Nat.beq t d) v (s.tmps t)=s.tmps t;rw[fG (fun e=>ht (by rw[e]))];rfl
theorem bJP (l:List Oper) (s:ASt U):(jF s l).objs=s.objs/\∀t,(∀o∈l,o.dst≠some t)->(jF s l).tmps t=s.tmps t:=by
 refine⟨aVs l s,?_⟩
 induction l generalizing s with
 |nil=>intro t _;rfl
 |cons o l ih=>
  intro t ht;rw[jF,ih _ t (fun o' ho'=>ht o' (List.mem_cons_of_mem _ ho'))];exact(aIn s o.dst .any).2 t (ht o List.mem_cons_self)
theorem bIx {ops:Array Oper}:∀(f:Nat) (C:Cfg U) (hnn:aA3 C) (asm:List (Nat×Bool)) (l:List Oper) (s s':ASt U) (cs:List Prop),nS C n ops f asm l s=some (cs,s')->l.all sV=true->
  s'.objs=s.objs/\∀t,(∀o∈l,o.dst≠some t)->s'.tmps t=s.tmps t:=by
 intro f
 induction f with
 |zero=>intro C hnn asm l s s' cs h;cases h
 |succ f ih=>
  intro C hnn asm l s s' cs h hp;unfold nS at h;split at h
  ·simp only[Option.some.injEq,Prod.mk.injEq] at h;obtain⟨rfl,rfl⟩:=h;exact⟨rfl,fun _ _=>rfl⟩
  ·rename_i o rest;simp only[List.all_cons,Bool.and_eq_true] at hp;split at h
   ·split at h
    ·rename_i cs1 s1 jK;split at h
     ·rename_i cs2 s2 mS;simp only[Option.some.injEq,Prod.mk.injEq] at h;obtain⟨rfl,rfl⟩:=h;obtain⟨h1,h2⟩:=aYU hnn hp.1 jK;obtain⟨h3,h4⟩:=ih C hnn _ _ _ _ _ mS hp.2;exact⟨h3.trans h1,fun t ht=>(h4 t (fun o' ho'=>ht o' (List.mem_cons_of_mem _ ho'))).trans (h2 t (ht o List.mem_cons_self))⟩
     ·cases h
    ·cases h
   ·obtain⟨_,h⟩:=bI h;obtain⟨h3,h4⟩:=ih C hnn _ _ _ _ _ h hp.2;obtain⟨h1,h2⟩:=aIn s o.dst (.raw undef);exact⟨h3.trans h1,fun t ht=>(h4 t (fun o' ho'=>ht o' (List.mem_cons_of_mem _ ho'))).trans (h2 t (ht o List.mem_cons_self))⟩
   ·rename_i d b want hg;split at h
    ·rename_i sg pk rest' hsp;obtain⟨hl,_⟩:=aNE hsp;split at h
     ·obtain⟨hcnd,h⟩:=bI h;split at h
      ·split at h
       ·split at h
        ·rename_i cs2 s2 mS;simp only[Option.some.injEq,Prod.mk.injEq] at h;obtain⟨rfl,rfl⟩:=h;have hpl:(o::rest).all sV=true:=by simp[hp.1,hp.2]
         rw[hl] at hpl ⊢;simp only[List.all_append,List.all_cons,Bool.and_eq_true] at hpl;obtain⟨h3,h4⟩:=ih C hnn _ _ _ _ _ mS hpl.2.2;rename_i x y v _ _;obtain⟨h1,h2⟩:=bJP sg s;obtain⟨h5,h6⟩:=aIn (jF s sg) pk.dst v;refine⟨h3.trans (h5.trans h1),fun t ht=>?_⟩;rw[h4 t (fun o' ho'=>ht o' (by simp[ho'])),h6 t (ht pk (by simp)),h2 t (fun o' ho'=>ht o' (by simp[ho']))]
        ·cases h
       ·cases h
      ·cases h
     ·cases h
    ·cases h
   ·cases h
theorem aY9 {ops:Array Oper} {d:Nat} {want:Bool}:∀(sg:List Oper) (sk:List Nat),p7 ops d want sk sg=true->∀o∈sg,o.dst≠some d:=by
 intro sg
 induction sg with
 |nil=>intro sk _ o ho;cases ho
 |cons o sg ih=>
  intro sk h o' ho';simp only[p7] at h;split at h
  ·rename_i g w1 t hg ht;split at h
   ·simp only[Bool.and_eq_true,Bool.not_eq_true'] at h;rcases List.mem_cons.1 ho' with rfl|ho'
    ·rw[ht];intro e;obtain rfl:=Option.some.inj e;rw[Nat.beq_refl] at h;cases h.1.2
    ·exact ih _ h.2 o' ho'
   ·cases h
  ·cases h
theorem aLs {ops:Array Oper} {Q:Exit->Act->World->Prop}:∀(f:Nat) (C:Cfg U) (hs:fR C w0) (asm:List (Nat×Bool)) (l:List Oper) (s s':ASt U) (cs:List Prop),nS C n ops f asm l s=some (cs,s')->dE cs->
  ∀(ρ:Own) (a:Act) (w:World),RR C.E n N w0 ρ s a w->∀(K:Act->World->Prop),(∀ρ' a' w',RR C.E n N w0 ρ' s' a' w'->K a' w')->wpl C.P ops Q l K a w:=by
 intro f
 induction f with
 |zero=>intro C hs asm l s s' cs h;cases h
 |succ f ih=>
  intro C hs asm l s s' cs h hc ρ a w hR K hK;unfold nS at h;split at h
  ·simp only[Option.some.injEq,Prod.mk.injEq] at h;obtain⟨rfl,rfl⟩:=h;exact hK ρ a w hR
  ·rename_i o rest;split at h
   ·rename_i hg;split at h
    ·rename_i cs1 s1 jK;split at h
     ·rename_i cs2 s2 mS;simp only[Option.some.injEq,Prod.mk.injEq] at h;obtain⟨rfl,rfl⟩:=h;rw[aVo] at hc;unfold wpl;rw[if_pos (aT0 hR hg)];exact aMz hs hR jK hc.1 (fun ρ' a' w' hR'=>ih C hs _ _ _ _ _ mS hc.2 ρ' a' w' hR' K hK)
     ·cases h
    ·cases h
   ·rename_i hg;obtain⟨hd,h⟩:=bI h;unfold wpl;rw[if_neg (by rw[bGQ hR hg];simp)];exact ih C hs _ _ _ _ _ h hc ρ _ w (hR.put o.dst (qH hd) (.raw _)) K hK
   ·rename_i d b want hg;split at h
    ·rename_i sg pk rest' hsp;obtain⟨hl,x0,y0,hpk0⟩:=aNE hsp;split at h
     ·rename_i cc x y hgp hpk;rw[hpk0] at hpk;simp only[Op.pick.injEq] at hpk;obtain⟨rfl,rfl,rfl⟩:=hpk;obtain⟨hcnd,h⟩:=bI h;simp only[Bool.and_eq_true] at hcnd;obtain⟨⟨⟨hpure,hskip⟩,hdpk⟩,hdn⟩:=hcnd;have hdn:d<n:=Nat.le_of_ble_eq_true hdn;split at h
      ·rename_i cs1 s1 jK;split at h
       ·rename_i v hv;split at h
        ·rename_i cs2 s2 mS;simp only[Option.some.injEq,Prod.mk.injEq] at h;obtain⟨rfl,rfl⟩:=h;rw[aVo] at hc;obtain⟨g,hog,hdg,hsd0⟩:=bGR hg;obtain⟨hlt,hsd⟩:=aKK hsd0 (fun e=>by cases e);rw[hl];refine aDP sg (pk::rest') ?_;have hrel:=hR.tmps d;rw[hsd,j3 hlt] at hrel;have had:=aGc hrel
         -- what follows, from a state that is cleared, with the pick's value
         have fin:∀ρ' a' w',RR C.E n N w0 ρ' (jF s sg) a' w'->a'.tmps.getD d undef=.bool b->Rel C.E w' ρ' (aM N ρ' w') v (if b=true then a'.eval x0 else a'.eval y0)->
           Region.wanted pk (yielded ops a'.tmps)=true->wpl C.P ops Q (pk::rest') K a' w':=fun ρ' a' w' hR' hb hv' hw=>by
          unfold wpl;rw[if_pos hw];refine hJ (u:=if b=true then a'.eval x0 else a'.eval y0) (w':=w') ?_ (ih C hs _ _ _ _ _ mS hc.2 ρ' _ w' (hR'.put pk.dst (qH hdpk) hv') K hK);have he:a'.eval (.tmp d)=.bool b:=hb;simp[execOp,hpk0,he,asBool]
         have hpkw:∀ρ' a' w',RR C.E n N w0 ρ' (jF s sg) a' w'->Region.wanted pk (yielded ops a'.tmps)=true:=fun ρ' a' w' hR'=>by
          exact aT0 (s:=jF s sg) (asm:=asm) hR' hgp
         by_cases hbw:b=want
         ·subst hbw;have hR1:RR C.E n N w0 ρ (s.set d (.bool b)) a w:=by
           refine hR.weaken rfl (fun t=>.inr ?_);show cond (Nat.beq t d) (.bool b) (s.tmps t)=s.tmps t
           by_cases ht:t=d
           ·subst ht;rw[Nat.beq_refl,hsd];rfl
           ·rw[fG ht];rfl
          refine ih C.down hs.down _ _ _ _ _ jK (bGP hc.1 rfl) ρ a w hR1 _ (fun ρ' a' w' hR'=>?_);obtain⟨ho,ht⟩:=bIx f C.down (bDN C) _ _ _ _ _ jK hpure;have hset:(s.set d (.bool b)).tmps d=.bool b:=by
           show cond (Nat.beq d d) _ _=_;rw[Nat.beq_refl];rfl
          have hd1:s1.tmps d=.bool b:=by
           rw[ht d (aY9 sg [] hskip),hset]
          have hRc:RR C.E n N w0 ρ' (jF s sg) a' w':=by
           refine hR'.weaken ((aVs sg s).trans ho.symm) (fun t=>?_);rcases bJO sg s t with ⟨_,h2⟩|⟨h1,h2⟩
           ·exact .inl h2
           ·refine .inr ?_;rw[h2,ht t h1];show s.tmps t=cond (Nat.beq t d) (.bool b) (s.tmps t)
            by_cases ht:t=d
            ·subst ht;rw[Nat.beq_refl,hsd];rfl
            ·rw[fG ht];rfl
          have had':a'.tmps.getD d undef=.bool b:=by
           have:=hR'.tmps d;rw[hd1,j3 hlt] at this;exact aGc this
          refine fin ρ' a' w' hRc had' ?_ (hpkw ρ' a' w' hRc)
          -- the value: what the part computed
          unfold aJz at hv;split at hv
          ·rename_i p q hvp hvq;have gU:Rel C.E w' ρ' (aM N ρ' w') (s1.eval (cond b x0 y0)) (a'.eval (cond b x0 y0)):=hR'.eval (cond b x0 y0);rw[hvp] at gU;cases b with
           |true=>
            simp only[cond_true] at gU hv;split at hv<;>(obtain rfl:=Option.some.inj hv;simpa using gU)
           |false=>
            simp only[cond_false] at gU hv;split at hv<;>(obtain rfl:=Option.some.inj hv;simpa using gU)
          ·cases hv
         ·refine aY8 hbw sg [] s a hR had (fun t ht=>by cases ht) hskip (fun a' hR' hd'=>?_);refine fin ρ a' w hR' hd' ?_ (hpkw ρ a' w hR');unfold aJz at hv;split at hv
          ·rename_i p q hvp hvq;have gU:=hR'.eval (cond want y0 x0);rw[hvq] at gU;cases want with
           |true=>
            have hb:b=false:=by cases b<;>simp_all
            subst hb;simp only[cond_true] at gU hv;split at hv
            ·obtain rfl:=Option.some.inj hv;exact .bool _
            ·obtain rfl:=Option.some.inj hv;simpa using gU
           |false=>
            have hb:b=true:=by cases b<;>simp_all
            subst hb;simp only[cond_false] at gU hv;split at hv
            ·obtain rfl:=Option.some.inj hv;exact .bool _
            ·obtain rfl:=Option.some.inj hv;simpa using gU
          ·cases hv
        ·cases h
       ·cases h
      ·cases h
     ·cases h
    ·cases h
   ·cases h
end
end Go.Vm
namespace Go.Vm
open Go.RowKit
set_option linter.unusedVariables false
structure Ent (U:dH) where
 dst:Option Tmp
 v:aB U
 ob:Option (Nat×aV U)
 looks:List Nat
 ids:List Nat
section
variable {U:dH}
def app (s:ASt U) (e:Ent U):ASt U:=(s.fK e.ob).put e.dst e.v
def SD (D:Nat->Bool):Nat->ASt U->List (Ent U)->ASt U
 |_,s,[]=>s
 |k,s,e::es=>SD D (k+1) (cond (D k) (app s e) s) es
def wid (e:Ent U):Option Nat:=e.ob.map (·.1)
theorem bB6 (s:ASt U) (dst:Option Tmp) (v:aB U) (t:Nat):(s.put dst v).tmps t=if dst=some t then v else s.tmps t:=by
 cases dst with
 |none=>simp[ASt.put]
 |some d=>
  show cond (Nat.beq t d) v (s.tmps t)=_
  by_cases hc:t=d
  ·subst hc;simp
  ·rw[fG hc,if_neg (fun e=>hc (Option.some.inj e).symm)];rfl
theorem aHm (s:ASt U) (e:Ent U) (t:Nat):(app s e).tmps t=if e.dst=some t then e.v else s.tmps t:=by
 unfold app;rw[bB6];cases e.ob<;>rfl
theorem aHn (s:ASt U) (e:Ent U) (id:Nat):(app s e).objs id=if wid e=some id then e.ob.map (·.2) else s.objs id:=by
 unfold app wid;have h:((s.fK e.ob).put e.dst e.v).objs=(s.fK e.ob).objs:=by cases e.dst<;>rfl
 rw[h];cases e.ob with
 |none=>simp[ASt.fK]
 |some p=>
  obtain⟨i,o⟩:=p;show cond (Nat.beq id i) (some o) (s.objs id)=_
  by_cases hc:id=i
  ·subst hc;simp
  ·rw[fG hc,if_neg (fun e=>hc (by simpa using e.symm))];rfl
theorem aHt {D D':Nat->Bool} {t:Nat}:∀(es:List (Ent U)) (k:Nat) (s s':ASt U),s.tmps t=s'.tmps t->(∀i (h:i<es.length),es[i].dst=some t->D (k+i)=D' (k+i))->(SD D k s es).tmps t=(SD D' k s' es).tmps t:=by
 intro es
 induction es with
 |nil=>intro k s s' h _;exact h
 |cons e es ih=>
  intro k s s' h hD;refine ih (k+1) _ _ ?_ (fun i hi hd=>by have:=hD (i+1) (by simpa using hi) (by simpa using hd);rw[Nat.add_assoc,Nat.add_comm 1 i];exact this)
  by_cases hd:e.dst=some t
  ·have:=hD 0 (by simp) (by simpa using hd);simp only[Nat.add_zero] at this;rw[this];cases D' k
   ·exact h
   ·simp only[cond_true,aHm,if_pos hd]
  ·have h1:∀(s:ASt U) b,(cond b (app s e) s).tmps t=s.tmps t:=fun s b=>by
    cases b
    ·rfl
    ·simp only[cond_true,aHm,if_neg hd]
   rw[h1,h1];exact h
theorem aHu {D D':Nat->Bool} {id:Nat}:∀(es:List (Ent U)) (k:Nat) (s s':ASt U),s.objs id=s'.objs id->(∀i (h:i<es.length),wid es[i]=some id->D (k+i)=D' (k+i))->(SD D k s es).objs id=(SD D' k s' es).objs id:=by
 intro es
 induction es with
 |nil=>intro k s s' h _;exact h
 |cons e es ih=>
  intro k s s' h hD;refine ih (k+1) _ _ ?_ (fun i hi hd=>by have:=hD (i+1) (by simpa using hi) (by simpa using hd);rw[Nat.add_assoc,Nat.add_comm 1 i];exact this)
  by_cases hd:wid e=some id
  ·have:=hD 0 (by simp) (by simpa using hd);simp only[Nat.add_zero] at this;rw[this];cases D' k
   ·exact h
   ·simp only[cond_true,aHn,if_pos hd]
  ·have h1:∀(s:ASt U) b,(cond b (app s e) s).objs id=s.objs id:=fun s b=>by
    cases b
    ·rfl
    ·simp only[cond_true,aHn,if_neg hd]
   rw[h1,h1];exact h
theorem aHv {D:Nat->Bool}:∀(es:List (Ent U)) (k:Nat) (s:ASt U),(∀i,i<es.length->D (k+i)=false)->SD D k s es=s:=by
 intro es
 induction es with
 |nil=>intro k s _;rfl
 |cons e es ih=>
  intro k s h;have h0:=h 0 (by simp);simp only[Nat.add_zero] at h0;simp only[SD,h0,cond_false];exact ih (k+1) s (fun i hi=>by have:=h (i+1) (by simpa using hi);rw[Nat.add_assoc,Nat.add_comm 1 i];exact this)
theorem bL6 {D:Nat->Bool} {t:Nat}:∀(es:List (Ent U)) (k:Nat) (s:ASt U) (i:Nat) (hi:i<es.length),D (k+i)=true->es[i].dst=some t->(∀j (h:j<es.length),i<j->es[j].dst=some t->D (k+j)=false)->
  (SD D k s es).tmps t=es[i].v:=by
 intro es
 induction es with
 |nil=>intro k s i hi;simp at hi
 |cons e es ih=>
  intro k s i hi hD hd hlast;cases i with
  |zero=>
   simp only[Nat.add_zero] at hD;simp only[List.getElem_cons_zero] at hd ⊢;show (SD D (k+1) (cond (D k) (app s e) s) es).tmps t=e.v;rw[hD];have hb:(app s e).tmps t=e.v:=by rw[aHm,if_pos hd]
   rw[<- hb];have:=aHt (D:=D) (D':=fun _=>false) (t:=t) es (k+1) (app s e) (app s e) rfl (fun j hj hdj=>by
    have:=hlast (j+1) (by simpa using hj) (by omega) (by simpa using hdj);rw[Nat.add_assoc,Nat.add_comm 1 j];exact this)
   simp only[cond_true];rw[this,aHv es (k+1) _ (fun _ _=>rfl)]
  |succ i=>
   simp only[List.getElem_cons_succ] at hd ⊢;exact ih (k+1) _ i (by simpa using hi) (by rw[Nat.add_assoc,Nat.add_comm 1 i];exact hD) hd (fun j hj hij hdj=>by
    have:=hlast (j+1) (by simpa using hj) (by omega) (by simpa using hdj);rw[Nat.add_assoc,Nat.add_comm 1 j];exact this)
theorem bL8 {D:Nat->Bool} {id:Nat}:∀(es:List (Ent U)) (k:Nat) (s:ASt U) (i:Nat) (hi:i<es.length),D (k+i)=true->wid es[i]=some id->(∀j (h:j<es.length),i<j->wid es[j]=some id->D (k+j)=false)->
  (SD D k s es).objs id=es[i].ob.map (·.2):=by
 intro es
 induction es with
 |nil=>intro k s i hi;simp at hi
 |cons e es ih=>
  intro k s i hi hD hd hlast;cases i with
  |zero=>
   simp only[Nat.add_zero] at hD;simp only[List.getElem_cons_zero] at hd ⊢;show (SD D (k+1) (cond (D k) (app s e) s) es).objs id=_;rw[hD];have hb:(app s e).objs id=e.ob.map (·.2):=by rw[aHn,if_pos hd]
   rw[<- hb];have:=aHu (D:=D) (D':=fun _=>false) (id:=id) es (k+1) (app s e) (app s e) rfl (fun j hj hdj=>by
    have:=hlast (j+1) (by simpa using hj) (by omega) (by simpa using hdj);rw[Nat.add_assoc,Nat.add_comm 1 j];exact this)
   simp only[cond_true];rw[this,aHv es (k+1) _ (fun _ _=>rfl)]
  |succ i=>
   simp only[List.getElem_cons_succ] at hd ⊢;exact ih (k+1) _ i (by simpa using hi) (by rw[Nat.add_assoc,Nat.add_comm 1 i];exact hD) hd (fun j hj hij hdj=>by
    have:=hlast (j+1) (by simpa using hj) (by omega) (by simpa using hdj);rw[Nat.add_assoc,Nat.add_comm 1 j];exact this)
theorem ASt.ext' {s s':ASt U} (h1:∀t,s.tmps t=s'.tmps t) (h2:∀id,s.objs id=s'.objs id):s=s':=by
 cases s;cases s';simp only[ASt.mk.injEq];exact⟨funext h1,funext h2⟩
def oQ (x y:Ent U):Bool:=
 (match x.dst with
  |some d=>!y.looks.any (Nat.beq d)&&(match y.dst with
   |some e=>!Nat.beq d e
   |none=>true)
  |none=>true)&&
 (match y.dst with
  |some e=>!x.looks.any (Nat.beq e)
  |none=>true)&&
 (match x.ob with
  |some (i,_)=>!y.ids.any (Nat.beq i)&&(match y.ob with
   |some (j,_)=>!Nat.beq i j
   |none=>true)
  |none=>true)&&
 (match y.ob with
  |some (j,_)=>!x.ids.any (Nat.beq j)
  |none=>true)
def waits (o:Oper) (i:Nat):Bool:=o.after.toList.any fun e=>Region.binds .any e&&Nat.beq e.on i
def nZ (ops:Array Oper):Nat->Oper->Nat->Bool
 |0,o,i=>waits o i
 |f+1,o,i=>waits o i||o.after.toList.any fun e=>Region.binds .any e&&(Nat.blt i e.on&&(match ops[e.on]? with
  |some o'=>nZ ops f o' i
  |none=>false))
def aGR (ops:Array Oper) (o:Oper) (e:Ent U):Nat->List (Ent U)->Bool
 |_,[]=>true
 |i,x::xs=>(waits o i||oQ x e||nZ ops 3 o i)&&aGR ops o e (i+1) xs
def xE (ops:Array Oper):List Oper->List (Ent U)->List (Ent U)->Bool
 |[],_,_=>true
 |o::os,done,e::es=>(o.after.toList.all fun ed=>!Region.binds .any ed||Nat.blt ed.on done.length)&&aGR ops o e 0 done&&xE ops os (done++[e]) es
 |_::_,_,[]=>false
def aKA:aB U->List Nat
 | .ptr id _=>[id]
 | .eptr id _ _ _ _=>[id]
 | .osl id _=>[id]
 | .msl id _ _=>[id]
 | .meptr id _ _ _ _ _=>[id]
 | .ovw id _ _ _ _=>[id]
 |_=>[]
def mentions:aB U->List Nat
 | .agg l=>l.flatMap aKA
 | .fn _ l=>l.flatMap aKA
 |c=>aKA c
def lO (ids:List Nat) (f:Nat->Option (aV U)):Nat->Option (aV U):=fun id=>cond (ids.any (Nat.beq id)) (f id) none
def aAD (C:Cfg U) (o:Oper) (s:ASt U):List Nat:=
 match o.op with
 | .move _=>o.dst.toList.map (C.off+·)
 | .assign _=>o.dst.toList.map (C.off+·)
 |_=>o.dst.toList.map (C.off+·)++o.op.operands.toList.flatMap fun x=>mentions (s.eval x)
def lE (ops:Array Oper) (o:Oper):List Nat:=
 (o.op.operands.toList.filterMap fun | .tmp t=>some t|_=>none)++(match o.guard with
  |some (g,_)=>(lW ops g).toList
  |none=>[])
def both (cs:List Prop) (p:Prop):Prop:=
 match cs with
 |[]=>p
 |c::cs=>dE (c::cs)/\p
def pD (C:Cfg U) (n:Nat) (ops:Array Oper):List Oper->List (Ent U)->ASt U->(List (Ent U)->ASt U->Prop)->Prop
 |[],es,s,K=>K es s
 |o::r,es,s,K=>
  let run (s:ASt U):Prop:=match nT C.dm o s.eval (lO (aAD C o s) s.objs) with
   |some (cs,v,ob)=>both cs (pD C n ops r (es++[⟨o.dst,v,ob,lE ops o,aAD C o s⟩]) ((s.fK ob).put o.dst v) K)
   |none=>False
  let skip (s:ASt U):Prop:=pD C n ops r (es++[⟨o.dst,.raw undef,none,lE ops o,[]⟩]) (s.put o.dst (.raw undef)) K
  cond (lV n o) (match o.guard with
   |none=>run s
   |some (g,want)=>match lW ops g with
    |none=>False
    |some d=>match s.look d with
     | .raw (.tuple vs)=>cond (Nat.beq vs.size 0) (skip s) False
     | .bool b=>match b with
      |true=>cond want (run (s.set d (.bool true))) (skip (s.set d (.bool true)))
      |false=>cond want (skip (s.set d (.bool false))) (run (s.set d (.bool false)))
     |_=>False) False
end
end Go.Vm
namespace Go.Vm
open Go.RowKit
set_option linter.unusedVariables false
section
variable {U:dH} {n:Nat} {N:Nat->Prop} {w0:Fr} {w w':World} {ρ ρ':Own} {s s' s0:ASt U} {a:Act} {C:Cfg U} {ops:Array Oper}
def AL:Nat->Bool:=fun _=>true
theorem bLb (D:Nat->Bool):∀(es:List (Ent U)) (k:Nat) (s:ASt U) (e:Ent U),SD D k s (es++[e])=cond (D (k+es.length)) (app (SD D k s es) e) (SD D k s es):=by
 intro es
 induction es with
 |nil=>intro k s e;rfl
 |cons x es ih=>
  intro k s e;simp only[List.cons_append,SD,List.length_cons];rw[ih,Nat.add_assoc,Nat.add_comm 1]
theorem aWu (es:List (Ent U)) (i:Nat):∀(k:Nat) (s:ASt U),SD AL k s (es.take i)=SD (fun j=>decide (j<k+i)) k s es:=by
 induction es generalizing i with
 |nil=>intro k s;simp[SD]
 |cons e es ih=>
  intro k s;cases i with
  |zero=>
   rw[List.take_zero];exact(aHv (e::es) k s (fun j _=>by simp)).symm
  |succ i=>
   simp only[List.take_succ_cons,SD];rw[ih];have h1:AL k=true:=rfl;have h2:decide (k<k+(i+1))=true:=by simp
   rw[h1,h2];have h3:k+1+i=k+(i+1):=by omega
   rw[h3]
def aA8 (ops:Array Oper) (s:ASt U) (o:Oper):Prop:=
 o.guard=none\/∃g want d b,o.guard=some (g,want)/\lW ops g=some d/\s.look d=.bool b/\b=want
def aB2 (ops:Array Oper) (s:ASt U) (o:Oper):Prop:=
 ∃g want d,o.guard=some (g,want)/\lW ops g=some d/\((∃vs,s.look d=.raw (.tuple vs)/\vs.size=0)\/∃b,s.look d=.bool b/\b≠want)
theorem aXs {E:Enc U} (h:RR E n N w0 ρ s a w) {o:Oper} (hw:aA8 ops s o):Region.wanted o (yielded ops a.tmps)=true:=by
 unfold Region.wanted;rcases hw with hn|⟨g,want,d,b,hg,hd,hb,rfl⟩
 ·rw[hn]
 ·rw[hg];simp[aHy h hd hb]
theorem bDM {E:Enc U} (h:RR E n N w0 ρ s a w) {o:Oper} (hw:aB2 ops s o):Region.wanted o (yielded ops a.tmps)=false:=by
 unfold Region.wanted;obtain⟨g,want,d,hg,hd,hb⟩:=hw;rw[hg];rcases hb with ⟨vs,hv,hz⟩|⟨b,hb,hne⟩
 ·have h1:=h.look d;rw[hv] at h1;have hy:yielded ops a.tmps g=none:=by
   generalize hq:a.tmps.getD d undef=v at h1;cases h1;unfold yielded;unfold lW at hd;rw[hd];simp only[Option.bind_some];cases hz:a.tmps[d]? with
   |none=>rfl
   |some v=>
    have:v=.tuple vs:=by simpa[hz] using hq
    rw[this]
  simp[hy]
 ·simp[aHy h hd hb,hne]
def uJ (C:Cfg U) (n:Nat) (ops:Array Oper) (s0:ASt U) (es:List (Ent U)) (i:Nat):Prop:=
 ∀h:i<es.length,∃o,ops[i]?=some o/\lV n o=true/\es[i].dst=o.dst/\es[i].looks=lE ops o/\
  ((∃cs,aA8 ops (SD AL 0 s0 (es.take i)) o/\nT C.dm o (SD AL 0 s0 (es.take i)).eval (lO es[i].ids (SD AL 0 s0 (es.take i)).objs)=some (cs,es[i].v,es[i].ob)/\dE cs/\∀d,o.dst=some d->C.off+d∈es[i].ids)\/
   (aB2 ops (SD AL 0 s0 (es.take i)) o/\es[i].v=.raw undef/\es[i].ob=none))
theorem aCg {cs:List Prop} {p:Prop} (h:both cs p):dE cs/\p:=by
 cases cs with
 |nil=>exact⟨trivial,h⟩
 |cons c cs=>exact h
theorem bLd {es:List (Ent U)} {e:Ent U} {i:Nat} (hi:i<es.length) (h:uJ C n ops s0 es i):uJ C n ops s0 (es++[e]) i:=by
 intro _;have e1:(es++[e])[i]'(by simp;omega)=es[i]:=List.getElem_append_left hi;have e2:(es++[e]).take i=es.take i:=by rw[List.take_append_of_le_length (by omega)]
 rw[e2];simp only[e1];exact h hi
theorem aXn:∀(r:List Oper) (es:List (Ent U)) (s:ASt U) (K:List (Ent U)->ASt U->Prop),(∀j,r[j]?=ops[es.length+j]?)->s=SD AL 0 s0 es->(∀i,i<es.length->uJ C n ops s0 es i)->pD C n ops r es s K->
  ∃es',es'.length=es.length+r.length/\(∀i,i<es'.length->uJ C n ops s0 es' i)/\K es' (SD AL 0 s0 es'):=by
 intro r
 induction r with
 |nil=>
  intro es s K hr hs hes hx;exact⟨es,by simp,hes,by rw[<- hs];exact hx⟩
 |cons o r ih=>
  intro es s K hr hs hes hx;have ho:ops[es.length]?=some o:=by simpa using (hr 0).symm
  have hr':∀(e:Ent U) j,r[j]?=ops[(es++[e]).length+j]?:=fun e j=>by
   have:=hr (j+1);simpa[Nat.add_assoc,Nat.add_comm 1 j] using this
  have go:∀(e:Ent U) (s':ASt U),s'=app s e->(∃o,ops[es.length]?=some o/\lV n o=true/\e.dst=o.dst/\e.looks=lE ops o/\
    ((∃cs,aA8 ops s o/\nT C.dm o s.eval (lO e.ids s.objs)=some (cs,e.v,e.ob)/\dE cs/\∀d,o.dst=some d->C.off+d∈e.ids)\/(aB2 ops s o/\e.v=.raw undef/\e.ob=none)))->
    pD C n ops r (es++[e]) s' K->∃es',es'.length=es.length+(o::r).length/\(∀i,i<es'.length->uJ C n ops s0 es' i)/\K es' (SD AL 0 s0 es'):=fun e s' hs' hok hx'=>by
   obtain⟨es',h1,h2,h3⟩:=ih (es++[e]) s' K (hr' e) (by rw[bLb];show s'=app (SD AL 0 s0 es) e;rw[hs',hs]) (fun i hi=>by
    by_cases hc:i<es.length
    ·exact bLd hc (hes i hc)
    ·have:i=es.length:=by simp at hi;omega
     subst this;intro _;have e1:(es++[e])[es.length]'(by simp)=e:=by simp
     have e2:(es++[e]).take es.length=es:=by simp
     rw[e2];simp only[e1];rw[<- hs];exact hok) hx'
   exact⟨es',by rw[h1];simp;omega,h2,h3⟩
  unfold pD at hx;have hdo:lV n o=true:=by
   cases hd:lV n o
   ·rw[hd] at hx;exact hx.elim
   ·rfl
  rw[hdo] at hx;simp only[cond_true] at hx;have hrun:aA8 ops s o->(match nT C.dm o s.eval (lO (aAD C o s) s.objs) with
   |some (cs,v,ob)=>both cs (pD C n ops r (es++[⟨o.dst,v,ob,lE ops o,aAD C o s⟩]) ((s.fK ob).put o.dst v) K)
   |none=>False)->∃es',es'.length=es.length+(o::r).length/\(∀i,i<es'.length->uJ C n ops s0 es' i)/\K es' (SD AL 0 s0 es'):=fun hw hx=>by
   split at hx
   ·rename_i cs v ob hop;obtain⟨hc,hx⟩:=aCg hx;refine go ⟨o.dst,v,ob,lE ops o,aAD C o s⟩ _ rfl ⟨o,ho,hdo,rfl,rfl,.inl ⟨cs,hw,hop,hc,fun d hd=>?_⟩⟩ hx
    (unfold aAD;split<;>simp[hd])
   ·exact hx.elim
  have hskip:aB2 ops s o->pD C n ops r (es++[⟨o.dst,.raw undef,none,lE ops o,[]⟩]) (s.put o.dst (.raw undef)) K->∃es',es'.length=es.length+(o::r).length/\(∀i,i<es'.length->uJ C n ops s0 es' i)/\K es' (SD AL 0 s0 es'):=fun hw hx=>
   go ⟨o.dst,.raw undef,none,lE ops o,[]⟩ _ rfl ⟨o,ho,hdo,rfl,rfl,.inr ⟨hw,rfl,rfl⟩⟩ hx
  split at hx
  ·rename_i hn;exact hrun (.inl hn) hx
  ·rename_i g want hg;split at hx
   ·exact hx.elim
   ·rename_i d hd;split at hx
    ·rename_i vs hv;cases hz:Nat.beq vs.size 0 with
     |false=>rw[hz] at hx;exact hx.elim
     |true=>
      rw[hz] at hx;exact hskip ⟨g,want,d,hg,hd,.inl ⟨vs,hv,Nat.eq_of_beq_eq_true hz⟩⟩ hx
    ·rename_i b hb;have e:s.set d (.bool b)=s:=by
      have hb:=(aKK hb (fun e=>by cases e)).2;have:(s.set d (.bool b)).tmps=s.tmps:=funext fun t=>by
       show cond (Nat.beq t d) (.bool b) (s.tmps t)=s.tmps t
       by_cases ht:t=d
       ·subst ht;rw[Nat.beq_refl];exact hb.symm
       ·rw[fG ht];rfl
      exact congrArg (ASt.mk · s.objs) this
     cases b<;>cases want
     ·simp only[cond_false,e] at hx;exact hrun (.inr ⟨g,false,d,false,hg,hd,hb,rfl⟩) hx
     ·simp only[cond_true,e] at hx;exact hskip ⟨g,true,d,hg,hd,.inr ⟨false,hb,by simp⟩⟩ hx
     ·simp only[cond_false,e] at hx;exact hskip ⟨g,false,d,hg,hd,.inr ⟨true,hb,by simp⟩⟩ hx
     ·simp only[cond_true,e] at hx;exact hrun (.inr ⟨g,true,d,true,hg,hd,hb,rfl⟩) hx
    ·exact hx.elim
theorem aXw {ops:Array Oper} {o:Oper} {i:Nat} (f:Nat) (h:waits o i=true):nZ ops f o i=true:=by
 cases f with
 |zero=>exact h
 |succ f=>rw[nZ,h];rfl
theorem bJR {ops:Array Oper} {o:Oper} {e:Ent U}:∀(xs:List (Ent U)) (i:Nat),aGR ops o e i xs=true->∀j (h:j<xs.length),nZ ops 3 o (i+j)=true\/oQ xs[j] e=true:=by
 intro xs
 induction xs with
 |nil=>intro i _ j h;simp at h
 |cons x xs ih=>
  intro i h j hj;simp only[aGR,Bool.and_eq_true,Bool.or_eq_true] at h;cases j with
  |zero=>
   rcases h.1 with (h|h)|h
   ·exact .inl (aXw 3 h)
   ·exact .inr h
   ·exact .inl h
  |succ j=>
   have:=ih (i+1) h.2 j (by simpa using hj);rw[Nat.add_assoc,Nat.add_comm 1 j] at this;exact this
theorem bJS {ops:Array Oper}:∀(os:List Oper) (done es:List (Ent U)),xE ops os done es=true->os.length=es.length->∀j (hj:j<os.length) (hj':j<es.length),
  (∀ed∈os[j].after.toList,Region.binds .any ed=true->ed.on<done.length+j)/\∀i (hi:i<done.length+j),nZ ops 3 os[j] i=true\/oQ ((done++es)[i]'(by simp;omega)) es[j]=true:=by
 intro os
 induction os with
 |nil=>intro done es _ _ j hj;simp at hj
 |cons o os ih=>
  intro done es h hlen j hj hj';cases es with
  |nil=>simp at hj'
  |cons e es=>
   simp only[xE,Bool.and_eq_true] at h;obtain⟨⟨h1,h2⟩,h3⟩:=h;cases j with
   |zero=>
    refine⟨fun ed hed hb=>?_,fun i hi=>?_⟩
    ·have:=List.all_eq_true.1 h1 ed hed;rw[hb] at this;simp only[Bool.not_true,Bool.false_or] at this;exact Nat.le_of_ble_eq_true this
    ·have hi':i<done.length:=by simpa using hi
     have:=bJR done 0 h2 i hi';rw[Nat.zero_add] at this;simpa[List.getElem_append_left hi'] using this
   |succ j=>
    have:=ih (done++[e]) es h3 (by simpa using hlen) j (by simpa using hj) (by simpa using hj');have hl:(done++[e]).length+j=done.length+(j+1):=by simp;omega
    refine⟨fun ed hed hb=>by rw[<- hl];exact this.1 ed hed hb,fun i hi=>?_⟩;have:=this.2 i (by rw[hl];exact hi);simpa using this
end
end Go.Vm
namespace Go.Vm
open Go.RowKit
set_option linter.unusedVariables false
section
variable {U:dH} {n:Nat} {N:Nat->Prop} {w0:Fr} {w w':World} {ρ ρ':Own} {s s' s0:ASt U} {a:Act} {C:Cfg U} {ops:Array Oper}
theorem bFG {ids:List Nat} {f g:Nat->Option (aV U)} (h:∀id∈ids,f id=g id):lO ids f=lO ids g:=by
 funext id;unfold lO;cases hc:ids.any (Nat.beq id) with
 |false=>rfl
 |true=>
  obtain⟨j,hj,hb⟩:=List.any_eq_true.1 hc;obtain rfl:=Nat.eq_of_beq_eq_true hb;exact h _ hj
theorem bLJ {o:Oper} {ev ev':Operand->aB U} {look:Nat->Option (aV U)} (h:∀x∈o.op.operands,ev x=ev' x):aop C o ev look=aop C o ev' look:=by
 have pairs:∀ps:Array (Nat×Operand),(∀x∈(ps.toList.map (·.2)).toArray,ev x=ev' x)->(ps.toList.map fun p=>(p.1,ev p.2))=(ps.toList.map fun p=>(p.1,ev' p.2)):=fun ps hp=>
  List.map_congr_left fun p hm=>by
   rw[hp p.2 (by simp only[List.mem_toArray,List.mem_map];exact⟨p,hm,rfl⟩)]
 obtain⟨dst,op,ty,pos,after,guard⟩:=o;unfold aop;cases op<;>simp only[Op.operands] at h<;>(try rfl)
 case move x=>simp only[h x (by simp)]
 case assign x=>simp only[h x (by simp)]
 case pick c x y=>simp only[h c (by simp),h x (by simp),h y (by simp)]
 case box t x=>simp only[h x (by simp)]
 case build t ps=>simp only[pairs ps h]
 case buildSlice t m ps=>simp only[pairs ps h]
 case makeSlice t x y=>simp only[h x (by simp),h y (by simp)]
 case load t x=>simp only[h x (by simp)]
 case store t x y=>simp only[h x (by simp),h y (by simp)]
 case binOp op t x y t'=>simp only[h x (by simp),h y (by simp)]
 case unOp op t x=>simp only[h x (by simp)]
 case nilCheck x=>simp only[h x (by simp)]
 case makeInterface t x=>simp only[h x (by simp)]
 case lookup t x y ok=>simp only[h x (by simp),h y (by simp)]
 case makeFunc fn first captured=>
  have hmap:captured.toList.map ev=captured.toList.map ev':=List.map_congr_left fun x hx=>h x (by simp;exact .inr (by simpa using hx))
  simp only[hmap]
 case fieldAddr t x f=>simp only[h x (by simp)]
 case field t x f=>simp only[h x (by simp)]
 case indexAddr t x y=>simp only[h x (by simp),h y (by simp)]
 case index t x y=>simp only[h x (by simp),h y (by simp)]
 case extract x i=>simp only[h x (by simp)]
 case convert s d x=>simp only[h x (by simp)]
 case slice t x lo hi mx=>
  cases mx with
  |some m=>rfl
  |none=>cases lo<;>cases hi<;>simp_all
 case call c=>
  obtain⟨callee,args,argTypes⟩:=c;have hargs:∀x∈args.toList,ev x=ev' x:=fun x hx=>h x (by simp[Call.operands];exact .inr (by simpa using hx))
  have hmap:args.toList.map ev=args.toList.map ev':=List.map_congr_left hargs;simp only[hmap];cases callee with
  |value f=>
   have hf:=h f (by simp[Call.operands]);simp only[hf]
  |invoke r m=>rfl
  |builtin b=>
   cases b<;>(try rfl)
   case len=>
    simp only;split
    ·rename_i x t hx ht;rw[hargs x (by rw[hx];simp)]
    ·rfl
   case append=>
    simp only;split
    ·rename_i d x y hx;rw[hargs x (by rw[hx];simp),hargs y (by rw[hx];simp)]
    ·rfl
theorem bLL {o:Oper} {ev ev':Operand->aB U} {look:Nat->Option (aV U)} (h:∀x∈o.op.operands,ev x=ev' x):tW C o ev look=tW C o ev' look:=by
 have pairs:∀ps:Array (Nat×Operand),(∀x∈(ps.toList.map (·.2)).toArray,ev x=ev' x)->(ps.toList.map fun p=>(p.1,ev p.2))=(ps.toList.map fun p=>(p.1,ev' p.2)):=fun ps hp=>
  List.map_congr_left fun p hm=>by
   rw[hp p.2 (by simp only[List.mem_toArray,List.mem_map];exact⟨p,hm,rfl⟩)]
 obtain⟨dst,op,ty,pos,after,guard⟩:=o;unfold tW;cases op<;>simp only[Op.operands] at h<;>(try rfl)
 case buildSlice t m ps=>simp only[pairs ps h]
 case store t x y=>simp only[h x (by simp),h y (by simp)]
 case indexAddr t x y=>simp only[h x (by simp),h y (by simp)]
 case slice t x lo hi mx=>
  cases mx with
  |some m=>rfl
  |none=>cases lo<;>cases hi<;>simp_all
 case call c=>
  obtain⟨callee,args,argTypes⟩:=c;have hargs:∀x∈args.toList,ev x=ev' x:=fun x hx=>h x (by simp[Call.operands];exact .inr (by simpa using hx))
  simp only;split
  ·rename_i x y hx;rw[hargs x (by rw[hx];simp),hargs y (by rw[hx];simp)]
  ·rename_i x y hx;rw[hargs x (by rw[hx];simp),hargs y (by rw[hx];simp)]
  ·rfl
theorem bLM {o:Oper} {ev ev':Operand->aB U} {look:Nat->Option (aV U)} (h:∀x∈o.op.operands,ev x=ev' x):nT C o ev look=nT C o ev' look:=by
 unfold nT;rw[bLJ h,bLL h]
structure aDJ (ops:Array Oper) (es:List (Ent U)):Prop where
 len:es.length=ops.size
 pre:∀j o,ops[j]?=some o->∀ed∈o.after,Region.binds .any ed=true->ed.on<j
 pair:∀i j (hi:i<es.length) (hj:j<es.length) o,i<j->ops[j]?=some o->nZ ops 3 o i=true\/oQ es[i] es[j]=true
theorem bEp {es:List (Ent U)} (h:xE ops ops.toList [] es=true) (hl:es.length=ops.size):aDJ ops es:=by
 have h1:=bJS (ops:=ops) ops.toList [] es h (by simp[hl]);refine⟨hl,fun j o ho ed hed hb=>?_,fun i j hi hj o hij ho=>?_⟩
 ·have hj:j<ops.size:=(Array.getElem?_eq_some_iff.1 ho).1;have hoj:=(Array.getElem?_eq_some_iff.1 ho).2;have:=(h1 j (by simpa using hj) (by omega)).1 ed (by
   simp only[Array.getElem_toList,hoj];simpa using hed) hb
  simpa using this
 ·have hj':j<ops.size:=by omega
  have hoj:=(Array.getElem?_eq_some_iff.1 ho).2;have:=(h1 j (by simpa using hj') hj).2 i (by simpa using hij);simp only[Array.getElem_toList,hoj] at this;simpa using this
theorem aXv {o:Oper} {i:Nat} (h:waits o i=true):∃ed∈o.after,Region.binds .any ed=true/\ed.on=i:=by
 obtain⟨ed,hed,hb⟩:=List.any_eq_true.1 h;simp only[Bool.and_eq_true] at hb;exact⟨ed,by simpa using hed,hb.1,Nat.eq_of_beq_eq_true hb.2⟩
def aA6 (ops:Array Oper) (D:Nat->Bool):Prop:=∀j o,ops[j]?=some o->D j=true->∀ed∈o.after,Region.binds .any ed=true->D ed.on=true
theorem aIC {D:Nat->Bool} (hcl:aA6 ops D) {i:Nat}:∀(f:Nat) (o:Oper),(∀ed∈o.after,Region.binds .any ed=true->D ed.on=true)->nZ ops f o i=true->D i=true:=by
 have h0:∀o:Oper,(∀ed∈o.after,Region.binds .any ed=true->D ed.on=true)->waits o i=true->D i=true:=fun o hp hw=>by
  obtain⟨ed,hed,hb,he⟩:=aXv hw;rw[<- he];exact hp ed hed hb
 intro f
 induction f with
 |zero=>exact h0
 |succ f ih=>
  intro o hp hw;rw[nZ,Bool.or_eq_true] at hw;rcases hw with hw|hw
  ·exact h0 o hp hw
  ·obtain⟨ed,hed,hb⟩:=List.any_eq_true.1 hw;simp only[Bool.and_eq_true] at hb;obtain⟨hb,_,cA⟩:=hb;have hD:=hp ed (by simpa using hed) hb;split at cA
   ·rename_i o' ho';exact ih o' (fun ed' hed' hb'=>hcl _ _ ho' hD ed' hed' hb') cA
   ·cases cA
theorem xN {l:List Nat} {d:Nat}:l.any (Nat.beq d)=true↔d∈l:=by
 rw[List.any_eq_true];constructor
 ·rintro ⟨x,hx,hb⟩
  obtain rfl:=Nat.eq_of_beq_eq_true hb;exact hx
 ·intro h;exact⟨d,h,Nat.beq_refl d⟩
theorem aFK {es:List (Ent U)} (hm:aDJ ops es) {D:Nat->Bool} (hcl:aA6 ops D) {i:Nat} (hun:D i=false) {j:Nat} (hj:j<es.length) (hw:∀oj,ops[j]?=some oj->nZ ops 3 oj i=true):D j=false:=by
 have hjs:j<ops.size:=by rw[<- hm.len];exact hj
 have hoj:ops[j]?=some ops[j]:=Array.getElem?_eq_getElem hjs;cases hD:D j with
 |false=>rfl
 |true=>
  have:=aIC hcl 3 _ (fun ed hed hb=>hcl j _ hoj hD ed hed hb) (hw _ hoj);rw[hun] at this;cases this
theorem bJB {i:Nat} {f g:Nat->Bool}:∀(m:Nat),i<m->f i=true->g i=false->(∀k,k<m->k≠i->g k=f k)->(List.range m).countP g+1=(List.range m).countP f:=by
 intro m
 induction m with
 |zero=>intro h;omega
 |succ m ih=>
  intro hi hf hg h;rw[List.range_succ,List.countP_append,List.countP_append]
  by_cases hm:m=i
  ·subst hm;have e:(List.range m).countP g=(List.range m).countP f:=List.countP_congr (fun k hk=>by
    have hk':k<m:=by simpa using hk
    rw[h k (by omega) (by omega)])
   simp[e,hf,hg]
  ·have:=ih (by omega) hf hg (fun k hk hne=>h k (by omega) hne);have e:=h m (by omega) hm;simp only[List.countP_cons,List.countP_nil,e];omega
section
variable {es:List (Ent U)} (hm:aDJ ops es) {D:Nat->Bool} (hcl:aA6 ops D) {i:Nat} (hi:i<es.length) (hun:D i=false) {o:Oper} (ho:ops[i]?=some o)
 (hpre:∀ed∈o.after,Region.binds .any ed=true->D ed.on=true)
include hm hcl hun ho hpre
theorem bL9 {t:Nat} (ht:t∈es[i].looks):(SD D 0 s0 es).tmps t=(SD AL 0 s0 (es.take i)).tmps t:=by
 rw[aWu];refine aHt es 0 s0 s0 rfl (fun k hk hd=>?_);simp only[Nat.zero_add];rcases Nat.lt_trichotomy k i with hlt|rfl|hgt
 ·have e:decide (k<i)=true:=by simpa using hlt
  rw[e];rcases hm.pair k i hk hi o hlt ho with hw|hap
  ·exact aIC hcl 3 _ hpre hw
  ·simp only[oQ,hd,Bool.and_eq_true,Bool.not_eq_true'] at hap;have:=hap.1.1.1.1;rw[xN.2 ht] at this;cases this
 ·have e:decide (k<k)=false:=by simp
  rw[e,hun]
 ·have e:decide (k<i)=false:=by simp;omega
  rw[e];refine aFK hm hcl hun hk (fun oj hoj=>?_);rcases hm.pair i k hi hk oj hgt hoj with hw|hap
  ·exact hw
  ·simp only[oQ,hd,Bool.and_eq_true,Bool.not_eq_true'] at hap;have:=hap.1.1.2;rw[xN.2 ht] at this;cases this
theorem bLa {id:Nat} (ht:id∈es[i].ids):(SD D 0 s0 es).objs id=(SD AL 0 s0 (es.take i)).objs id:=by
 rw[aWu];refine aHu es 0 s0 s0 rfl (fun k hk hd=>?_);simp only[Nat.zero_add];have hob:∃x,es[k].ob=some (id,x):=by
  unfold wid at hd;cases hob:es[k].ob with
  |none=>rw[hob] at hd;cases hd
  |some p=>
   rw[hob] at hd;obtain⟨j,x⟩:=p;simp only[Option.map_some,Option.some.injEq] at hd;subst hd;exact⟨x,rfl⟩
 obtain⟨x,hob⟩:=hob;rcases Nat.lt_trichotomy k i with hlt|rfl|hgt
 ·have e:decide (k<i)=true:=by simpa using hlt
  rw[e];rcases hm.pair k i hk hi o hlt ho with hw|hap
  ·exact aIC hcl 3 _ hpre hw
  ·simp only[oQ,hob,Bool.and_eq_true,Bool.not_eq_true'] at hap;have:=hap.1.2.1;rw[xN.2 ht] at this;cases this
 ·have e:decide (k<k)=false:=by simp
  rw[e,hun]
 ·have e:decide (k<i)=false:=by simp;omega
  rw[e];refine aFK hm hcl hun hk (fun oj hoj=>?_);rcases hm.pair i k hi hk oj hgt hoj with hw|hap
  ·exact hw
  ·simp only[oQ,hob,Bool.and_eq_true,Bool.not_eq_true'] at hap;have:=hap.2;rw[xN.2 ht] at this;cases this
end
theorem bL7 {es:List (Ent U)} (hm:aDJ ops es) {D:Nat->Bool} (hcl:aA6 ops D) {i:Nat} (hi:i<es.length) (hun:D i=false) {D':Nat->Bool} (hD':∀k,k<es.length->D' k=(D k||decide (k=i))):app (SD D 0 s0 es) es[i]=SD D' 0 s0 es:=by
 have hD'i:D' i=true:=by rw[hD' i hi];simp
 refine ASt.ext' (fun t=>?_) (fun id=>?_)
 ·rw[aHm]
  by_cases hd:es[i].dst=some t
  ·rw[if_pos hd];refine(bL6 es 0 s0 i hi (by rw[Nat.zero_add];exact hD'i) hd (fun j hj hij hdj=>?_)).symm;rw[Nat.zero_add,hD' j hj];have hne:¬j=i:=by omega
   simp only[hne,decide_false,Bool.or_false];refine aFK hm hcl hun hj (fun oj hoj=>?_);rcases hm.pair i j hi hj oj hij hoj with hw|hap
   ·exact hw
   ·simp only[oQ,hd,hdj,Bool.and_eq_true,Bool.not_eq_true'] at hap;have:=hap.1.1.1.2;rw[Nat.beq_refl] at this;cases this
  ·rw[if_neg hd];refine aHt es 0 s0 s0 rfl (fun k hk hdk=>?_);rw[Nat.zero_add,hD' k hk];have hne:¬k=i:=fun e=>by subst e;exact hd hdk
   simp[hne]
 ·rw[aHn]
  by_cases hd:wid es[i]=some id
  ·rw[if_pos hd];refine(bL8 es 0 s0 i hi (by rw[Nat.zero_add];exact hD'i) hd (fun j hj hij hdj=>?_)).symm;rw[Nat.zero_add,hD' j hj];have hne:¬j=i:=by omega
   simp only[hne,decide_false,Bool.or_false];refine aFK hm hcl hun hj (fun oj hoj=>?_);rcases hm.pair i j hi hj oj hij hoj with hw|hap
   ·exact hw
   ·exfalso;unfold wid at hd hdj;cases hob:es[i].ob with
    |none=>rw[hob] at hd;cases hd
    |some p=>
     cases hob':es[j].ob with
     |none=>rw[hob'] at hdj;cases hdj
     |some q=>
      rw[hob] at hd;rw[hob'] at hdj;obtain⟨x,_⟩:=p;obtain⟨y,_⟩:=q;simp only[Option.map_some,Option.some.injEq] at hd hdj;subst hd;subst hdj;simp only[oQ,hob,hob',Bool.and_eq_true,Bool.not_eq_true'] at hap;have:=hap.1.2.2;rw[Nat.beq_refl] at this;cases this
  ·rw[if_neg hd];refine aHu es 0 s0 s0 rfl (fun k hk hdk=>?_);rw[Nat.zero_add,hD' k hk];have hne:¬k=i:=fun e=>by subst e;exact hd hdk
   simp[hne]
theorem bEn {o:Oper} {x:Operand} (hx:x∈o.op.operands) {t:Nat} (ht:x=.tmp t):t∈lE ops o:=by
 unfold lE;refine List.mem_append.2 (.inl (List.mem_filterMap.2 ⟨x,by simpa using hx,by rw[ht]⟩))
theorem aT1 {o:Oper} {g d:Nat} {want:Bool} (hg:o.guard=some (g,want)) (hd:lW ops g=some d):d∈lE ops o:=by
 unfold lE;rw[hg];simp[hd]
theorem bLN (hs:fR C w0) {es:List (Ent U)} (hm:aDJ ops es) (hes:∀i,i<es.length->uJ C n ops s0 es i) {Q:Exit->Act->World->Prop}
  (hK:∀ρ a w,RR C.E n N w0 ρ (SD AL 0 s0 es) a w->Q .normal a w):
  ∀(fuel:Nat) (listed:Array Bool) (ρ:Own) (a:Act) (w:World),listed.size=ops.size->((List.range ops.size).countP fun k=>!listed.getD k true)<=fuel->aA6 ops (fun k=>listed.getD k true)->
   RR C.E n N w0 ρ (SD (fun k=>listed.getD k true) 0 s0 es) a w->wpAny C.P .any ops Q fuel listed a w:=by
 have done:∀(listed:Array Bool),(∀k,k<ops.size->listed.getD k true=true)->SD (fun k=>listed.getD k true) 0 s0 es=SD AL 0 s0 es:=fun listed h=>by
  refine ASt.ext' (fun t=>aHt es 0 s0 s0 rfl (fun k hk _=>?_)) (fun id=>aHu es 0 s0 s0 rfl (fun k hk _=>?_))
  ·rw[Nat.zero_add];exact h k (by rw[<- hm.len];exact hk)
  ·rw[Nat.zero_add];exact h k (by rw[<- hm.len];exact hk)
 have ready_nil:∀(listed:Array Bool),listed.size=ops.size->Region.ready .any ops listed=[]->∀k,k<ops.size->listed.getD k true=true:=fun listed hsz hr k=>by
  induction k using Nat.strongRecOn with
  |_ k ih=>
   intro hk;cases hc:listed.getD k true with
   |true=>rfl
   |false=>
    have hok:ops[k]?=some ops[k]:=Array.getElem?_eq_getElem hk;have:k∈Region.ready .any ops listed:=mem_ready.2 ⟨hc,ops[k],hok,fun e he hb=>by
     have hlt:=hm.pre k _ hok e he hb;have h2:=ih e.on hlt (by omega);have h3:e.on<listed.size:=by omega
     simpa[h3] using h2⟩
    rw[hr] at this;cases this
 intro fuel
 induction fuel with
 |zero=>
  intro listed ρ a w hsz hcount hcl hR;have hall:∀k,k<ops.size->listed.getD k true=true:=fun k hk=>by
   have h0:((List.range ops.size).countP fun k=>!listed.getD k true)=0:=by omega
   have:=List.countP_eq_zero.1 h0 k (by simpa using hk);simpa using this
  refine⟨?_,hK ρ a w (by rw[<- done listed hall];exact hR)⟩;rw[List.eq_nil_iff_forall_not_mem];intro k hk;obtain⟨h1,o,h2,_⟩:=mem_ready.1 hk;rw[hall k (Array.getElem?_eq_some_iff.1 h2).1] at h1;cases h1
 |succ fuel ih=>
  intro listed ρ a w hsz hcount hcl hR;refine⟨fun h0=>hK ρ a w (by rw[<- done listed (ready_nil listed hsz h0)];exact hR),fun i hi=>?_⟩;obtain⟨hun,o,ho,hpre⟩:=mem_ready.1 hi;have his:i<ops.size:=(Array.getElem?_eq_some_iff.1 ho).1;have hie:i<es.length:=by rw[hm.len];exact his
  have hpre':∀ed∈o.after,Region.binds .any ed=true->(fun k=>listed.getD k true) ed.on=true:=fun ed hed hb=>by
   have:=hpre ed hed hb;have hlt:=hm.pre i o ho ed hed hb;have h3:ed.on<listed.size:=by omega
   simpa[h3] using this
  obtain⟨o',ho',hdo,hdst,hlooks,hcase⟩:=hes i hie hie;rw[ho] at ho';obtain rfl:=Option.some.inj ho'
  -- the state when i is done too
  have hset:∀k,k<es.length->(listed.setIfInBounds i true).getD k true=(listed.getD k true||decide (k=i)):=fun k hk=>by
   have hks:k<listed.size:=by rw[hsz,<- hm.len];exact hk
   by_cases hki:k=i
   ·subst hki;simp[hks]
   ·rw[getD_set_ne true (Ne.symm hki)];simp[hki]
  have hstep:=bL7 (s0:=s0) hm hcl hie hun (D':=fun k=>(listed.setIfInBounds i true).getD k true) hset;have hcl':aA6 ops (fun k=>(listed.setIfInBounds i true).getD k true):=fun j oj hoj hD ed hed hb=>by
   have hjs:j<ops.size:=(Array.getElem?_eq_some_iff.1 hoj).1;have hlt:=hm.pre j oj hoj ed hed hb;have h1:=hset j (by rw[hm.len];exact hjs);have h2:=hset ed.on (by rw[hm.len];omega);simp only at hD ⊢;rw[h1] at hD;rw[h2];simp only[Bool.or_eq_true,decide_eq_true_eq] at hD ⊢;rcases hD with hD|rfl
   ·exact .inl (hcl j oj hoj hD ed hed hb)
   ·rw[ho] at hoj;obtain rfl:=Option.some.inj hoj;exact .inl (hpre' ed hed hb)
  have hcount':((List.range ops.size).countP fun k=>!(listed.setIfInBounds i true).getD k true)<=fuel:=by
   have h1:=bJB (i:=i) (f:=fun k=>!listed.getD k true) (g:=fun k=>!(listed.setIfInBounds i true).getD k true) ops.size his (by simp[hun]) (by
    have:=hset i hie;simp[this]) (fun k hk hne=>by
    have:=hset k (by rw[hm.len];exact hk);simp[this,hne])
   omega
  have hnext:∀ρ' a' w',RR C.E n N w0 ρ' (app (SD (fun k=>listed.getD k true) 0 s0 es) es[i]) a' w'->wpAny C.P .any ops Q fuel (listed.setIfInBounds i true) a' w':=fun ρ' a' w' hR'=>
   ih _ ρ' a' w' (by simpa using hsz) hcount' hcl' (by rw[<- hstep];exact hR')
  have htm:∀t∈lE ops o,(SD (fun k=>listed.getD k true) 0 s0 es).tmps t=(SD AL 0 s0 (es.take i)).tmps t:=fun t ht=>bL9 hm hcl hie hun ho hpre' (by rw[hlooks];exact ht)
  have hlkt:∀t∈lE ops o,(SD (fun k=>listed.getD k true) 0 s0 es).look t=(SD AL 0 s0 (es.take i)).look t:=fun t ht=>by
   unfold ASt.look;rw[htm t ht]
  unfold wpOp;simp only[ho];rcases hcase with ⟨cs,hw,hop,hc,hdid⟩|⟨hw,hv,hob⟩
  ·have hw':aA8 ops (SD (fun k=>listed.getD k true) 0 s0 es) o:=by
    rcases hw with hn|⟨g,want,d,b,hg,hd,hb,he⟩
    ·exact .inl hn
    ·exact .inr ⟨g,want,d,b,hg,hd,by rw[hlkt d (aT1 hg hd)];exact hb,he⟩
   rw[if_pos (aXs hR hw')];refine .inl ?_;have hev:∀x∈o.op.operands,(SD (fun k=>listed.getD k true) 0 s0 es).eval x=(SD AL 0 s0 (es.take i)).eval x:=fun x hx=>by
    cases x with
    |tmp t=>exact hlkt t (bEn hx rfl)
    |_=>rfl
   have hlk:lO es[i].ids (SD (fun k=>listed.getD k true) 0 s0 es).objs=lO es[i].ids (SD AL 0 s0 (es.take i)).objs:=
    bFG (fun id hid=>bLa hm hcl hie hun ho hpre' hid)
   have hop':nT C.dm o (SD (fun k=>listed.getD k true) 0 s0 es).eval (lO es[i].ids (SD (fun k=>listed.getD k true) 0 s0 es).objs)=some (cs,es[i].v,es[i].ob):=by
    rw[bLM hev,hlk];exact hop
   refine aWN (C:=C.dm) hs hR (fun id ob h=>?_) (fun d hd h=>?_) (qH hdo) hop' hc (fun ρ' u w' hR'=>hnext ρ' _ w' ?_)
   ·unfold lO at h;cases hc:es[i].ids.any (Nat.beq id)<;>rw[hc] at h
    ·cases h
    ·exact h
   ·change lO es[i].ids _ (C.off+d)=none at h;unfold lO at h;rw[xN.2 (hdid d hd)] at h;exact h
   ·unfold app;rw[hdst];exact hR'
  ·have hw':aB2 ops (SD (fun k=>listed.getD k true) 0 s0 es) o:=by
    obtain⟨g,want,d,hg,hd,hb⟩:=hw;have e:=hlkt d (aT1 hg hd);refine⟨g,want,d,hg,hd,?_⟩;rcases hb with ⟨vs,hv,hz⟩|⟨b,hb,hne⟩
    ·exact .inl ⟨vs,by rw[e];exact hv,hz⟩
    ·exact .inr ⟨b,by rw[e];exact hb,hne⟩
   rw[if_neg (by rw[bDM hR hw'];simp)];refine hnext ρ _ w ?_;unfold app;rw[hdst,hv,hob];exact hR.put o.dst (qH hdo) (.raw _)
theorem bIf (hs:fR C w0) (hmix:C.P.follows .mixedOrders=true) {id:Nat} {Q:Exit->Act->World->Prop} (h:RR C.E n N w0 ρ s0 a w) {K:ASt U->Prop}
  (hx:pD C n ops ops.toList [] s0 (fun es s'=>xE ops ops.toList [] es=true/\K s')) (hK:∀s' ρ' a' w',K s'->RR C.E n N w0 ρ' s' a' w'->Q .normal a' w'):(Code.region id ops true).wp C.P Q a w:=by
 obtain⟨es,hlen,hes,hchk,hKs⟩:=aXn (s0:=s0) ops.toList [] s0 _ (fun j=>by simp) rfl (fun i hi=>absurd hi (by simp)) hx;have hl:es.length=ops.size:=by simpa using hlen
 refine wp_region_any hmix (bLN (N:=N) (w0:=w0) hs (bEp hchk hl) hes (fun ρ' a' w' hR=>hK _ ρ' a' w' hKs hR) ops.size (Array.replicate ops.size false) ρ a _ (by simp) ?_ ?_ ?_)
 ·exact Nat.le_trans List.countP_le_length (by simp)
 ·intro j o ho hD;have hj:j<ops.size:=(Array.getElem?_eq_some_iff.1 ho).1;simp[hj] at hD
 ·have:SD (fun k=>(Array.replicate ops.size false).getD k true) 0 s0 es=s0:=aHv es 0 s0 (fun i hi=>by
   have:i<ops.size:=by omega
   simp[this])
  rw[this];exact h.drew
end
end Go.Vm
namespace Go.Vm
open Go.RowKit
set_option linter.unusedVariables false
inductive Slot where
 |tmp (t:Nat)
 |cell (id off:Nat)
structure Canon (U:dH) where
 keep:List Nat
 cells:List Nat
 own:List (Slot×Nat×U.τ)
 soft:List (Slot×U.τ)
 deep:List Nat:=[]
section
variable {U:dH}
def tD (p:Nat->Bool):aB U->Bool
 | .ptr id _=>p id
 | .eptr _ _ _ _ _=>false
 | .osl id _=>p id
 | .ovw id _ _ _ _=>p id
 | .any=>true
 |c=>stays 4 c
def aJY (p:Nat->Bool):aB U->Bool
 | .agg l=>l.all (tD p)
 | .tup l=>l.all (tD p)
 | .fn _ l=>l.all (tD p)
 | .ref l _=>l.all (tD p)
 |c=>tD p c
def aBH (s:ASt U):Slot->Option (aB U)
 | .tmp t=>some (s.tmps t)
 | .cell id off=>match s.objs id with
  |some (.cells l)=>l[off]?
  |_=>none
def aI3 (s:ASt U) (sl:Slot) (τ:U.τ) (d:Bool):Option (Option Nat×List (U.T τ)):=
 match aBH s sl with
 |some .nils=>cond (!d||Nat.beq (U.size τ) 1) (some (none,[])) none
 |some (.osl j g)=>match s.objs j with
  |some (.row t g' xs)=>cond (Nat.beq g g'&&!d) (match kD τ t xs with
   |some ys=>some (some j,ys)
   |none=>none) none
  |some (.deep t g' _ xs)=>cond (Nat.beq g g'&&d) (match kD τ t xs with
   |some ys=>some (some j,ys)
   |none=>none) none
  |_=>none
 |_=>none
def z8 (own:List (Slot×Nat×U.τ)) (t:Nat):Option Nat:=
 match own with
 |[]=>none
 | (.tmp t',id,_)::r=>cond (Nat.beq t t') (some id) (z8 r t)
 |_::r=>z8 r t
def qA (own:List (Slot×Nat×U.τ)) (i k:Nat):Option Nat:=
 match own with
 |[]=>none
 | (.cell i' k',id,_)::r=>cond (Nat.beq i i'&&Nat.beq k k') (some id) (qA r i k)
 |_::r=>qA r i k
def aJT (own:List (Slot×Nat×U.τ)) (i k:Nat) (c:aB U):aB U:=
 match qA own i k with
 |some id=>.osl id 0
 |none=>c
def patch (own:List (Slot×Nat×U.τ)) (i:Nat):Nat->List (aB U)->List (aB U)
 |_,[]=>[]
 |k,c::cs=>aJT own i k c::patch own i (k+1) cs
def aB0 (own:List (Slot×Nat×U.τ)) (i:Nat) (p:Nat->Bool):Nat->List (aB U)->Bool
 |_,[]=>true
 |k,c::cs=>(match qA own i k with
  |some _=>true
  |none=>tD p c)&&aB0 own i p (k+1) cs
def aFU (s:ASt U) (own:List (Slot×Nat×U.τ)) (p:Nat->Bool):List Nat->Option (Nat->aB U)
 |[]=>some fun _=>.any
 |t::ts=>match aFU s own p ts with
  |some f=>match z8 own t with
   |some id=>some fun u=>cond (Nat.beq u t) (.osl id 0) (f u)
   |none=>cond (aJY p (s.tmps t)) (some fun u=>cond (Nat.beq u t) (s.tmps t) (f u)) none
  |none=>none
def wO (s:ASt U) (own:List (Slot×Nat×U.τ)) (p:Nat->Bool):List Nat->Option (Nat->Option (aV U))
 |[]=>some fun _=>none
 |i::is=>match wO s own p is,s.objs i with
  |some f,some (.cells l)=>cond (aB0 own i p 0 l) (some fun u=>cond (Nat.beq u i) (some (.cells (patch own i 0 l))) (f u)) none
  |some f,some (.row t g xs)=>some fun u=>cond (Nat.beq u i) (some (.row t g xs)) (f u)
  |some f,some (.opq k d)=>some fun u=>cond (Nat.beq u i) (some (.opq k d)) (f u)
  |some f,some (.rowF t g xs k m gm)=>cond (p m) (some fun u=>cond (Nat.beq u i) (some (.rowF t g xs k m gm)) (f u)) none
  |_,_=>none
def aCK (s:ASt U) (dp:List Nat) (f:Nat->Option (aV U)):List (Slot×Nat×U.τ)->Option ((Nat->Option (aV U))×List Nat)
 |[]=>some (f,[])
 | (sl,id,τ)::r=>match aCK s dp f r,aI3 s sl τ (dp.any (Nat.beq id)) with
  |some (h,js),some (j,xs)=>match h id with
   |none=>match j with
    |some j=>cond (js.any (Nat.beq j)||(f j).isSome) none (some (fun u=>cond (Nat.beq u id) (some (cZ.obj ⟨dp.any (Nat.beq id),τ,xs⟩)) (h u),j::js))
    |none=>some (fun u=>cond (Nat.beq u id) (some (cZ.obj ⟨dp.any (Nat.beq id),τ,xs⟩)) (h u),js)
   |some _=>none
  |_,_=>none
def aEI (τ:U.τ):aB U->aB U
 | .nils=>.sl τ []
 |x=>x
def pK (τ:U.τ):Nat->List (aB U)->List (aB U)
 |_,[]=>[]
 |0,c::cs=>aEI τ c::cs
 |k+1,c::cs=>c::pK τ k cs
def aI1 (s:ASt U):Slot×U.τ->ASt U
 | (.tmp t,τ)=>⟨fun u=>cond (Nat.beq u t) (aEI τ (s.tmps t)) (s.tmps u),s.objs⟩
 | (.cell i k,τ)=>match s.objs i with
  |some (.cells l)=>⟨s.tmps,fun u=>cond (Nat.beq u i) (some (.cells (pK τ k l))) (s.objs u)⟩
  |_=>s
def aEH:List (Slot×U.τ)->ASt U->ASt U
 |[],s=>s
 |x::l,s=>aEH l (aI1 s x)
def aL3 (s:ASt U) (j:Nat):ASt U:=
 match s.objs j with
 |some (.rowF t g xs i m gm)=>match s.objs m with
  |some (.row t1 gm' ys)=>match Nat.beq gm gm',U.unsl t t1 ys with
   |true,some y=>(s.obj m (.row t1 (gm+1) [])).obj j (.row t g (xs.set i y))
   |_,_=>s
  |_=>s
 |some (.deepF t g gm xs m gq)=>match s.objs m with
  |some (.row t1 gm' ys)=>match Nat.beq gq gm',U.unsl t t1 ys with
   |true,some y=>(s.obj m (.row t1 (gq+1) [])).obj j (.deep t g gm (xs++[y]))
   |_,_=>s
  |_=>s
 |_=>s
def aL2 (s:ASt U) (x:Slot×Nat×U.τ):ASt U:=
 match aBH s x.1 with
 |some (.osl j _)=>aL3 s j
 |_=>s
def aGC:List (Slot×Nat×U.τ)->ASt U->ASt U
 |[],s=>s
 |x::l,s=>aGC l (aL2 s x)
def aVw (m:Canon U) (s:ASt U):Option (ASt U):=
 match aFU s m.own (fun i=>m.cells.any (Nat.beq i)) m.keep,wO s m.own (fun i=>m.cells.any (Nat.beq i)) m.cells with
 |some f,some g=>match aCK s m.deep g m.own with
  |some (h,_)=>some ⟨f,h⟩
  |none=>none
 |_,_=>none
def canon (m:Canon U) (s:ASt U):Option (ASt U):=aVw m (aGC m.own (aEH m.soft s))
end
end Go.Vm
namespace Go.Vm
open Go.RowKit
set_option linter.unusedVariables false
section
variable {U:dH} {E:Enc U} {n:Nat} {N:Nat->Prop} {w0:Fr} {w w':World} {ρ ρ':Own} {s s':ASt U} {a:Act}
theorem vZ {st st':Nat->Prop} {p:Nat->Bool} {x:aB U} {v:Value} (hx:tD p x=true) (hρ:∀id g u,p id=true->ρ id=some (g,u)->ρ' id=some (g,u)) (hst:∀b,st b->st' b)
  (h:Rel E w ρ st x v):Rel E w ρ' st' x v:=by
 have hflat:stays 4 x=true->Rel E w ρ' st' x v:=fun hf=>(aNA (ρ':=fun _=>none) 4 _ _ hf h).mono (fun b hb=>⟨hst b hb,rfl⟩) (fun _ _ _ hr=>by cases hr)
 cases x with
 |ptr id off=>
  cases h with
  |ptr _ _ b hb=>exact .ptr id off b (hρ _ _ _ hx hb)
 |any=>exact .any _
 |eptr=>cases hx
 |osl id g=>
  cases h with
  |osl _ _ u hr hp=>exact .osl id g _ (hρ _ _ _ hx hr) hp
  |oslOld _ _ g' u v hr hg=>exact .oslOld id g g' u _ (hρ _ _ _ hx hr) hg
 |ovw id g lo hi sz=>
  cases h with
  |ovw _ _ _ _ _ u ad c hr hp hl had=>exact .ovw id g lo hi sz u ad c (hρ _ _ _ hx hr) hp hl had
  |ovwOld _ _ _ _ _ g' u v hr hg=>exact .ovwOld id g lo hi sz g' u _ (hρ _ _ _ hx hr) hg
 |_=>exact hflat hx
theorem bDI {st st':Nat->Prop} {p:Nat->Bool} {x:aB U} {v:Value} (hx:aJY p x=true) (hρ:∀id g u,p id=true->ρ id=some (g,u)->ρ' id=some (g,u)) (hst:∀b,st b->st' b)
  (h:Rel E w ρ st x v):Rel E w ρ' st' x v:=by
 cases x with
 |agg l=>
  cases h with
  |agg _ vs hn hl=>exact .agg l vs hn (fun k hk=>vZ (List.all_eq_true.1 hx _ (List.getElem_mem hk)) hρ hst (hl k hk))
 |tup l=>
  cases h with
  |tup _ vs hn hl=>exact .tup l vs hn (fun k hk=>vZ (List.all_eq_true.1 hx _ (List.getElem_mem hk)) hρ hst (hl k hk))
 |fn f l=>
  cases h with
  |fn _ _ vs hn hl=>exact .fn f l vs hn (fun k hk=>vZ (List.all_eq_true.1 hx _ (List.getElem_mem hk)) hρ hst (hl k hk))
 |ref l off=>
  cases h with
  |ref _ _ b o f hb hc hl=>exact .ref l off b o f (hst b hb) hc (fun k hk=>vZ (List.all_eq_true.1 hx _ (List.getElem_mem hk)) hρ hst (hl k hk))
 |_=>exact vZ hx hρ hst h
def aMV (F:Fr) (s:ASt U) (ρ:Own) (a:Act) (w:World):Slot->Value->Prop
 | .tmp t,u=>a.iA F t=u
 | .cell i k,u=>∃l b c ty,s.objs i=some (.cells l)/\ρ i=some (0,.pointer (some ⟨b,0,none⟩))/\w.heap[b]?=some (.cells c ty (0,0))/\k<l.length/\c.getD k undef=u
theorem aI2 (h:RR E n N w0 ρ s a w) {sl:Slot} {x:aB U} (hv:aBH s sl=some x):∃u,aMV w0 s ρ a w sl u/\Rel E w ρ (aM N ρ w) x u:=by
 cases sl with
 |tmp t=>
  simp only[aBH,Option.some.injEq] at hv;subst hv;exact⟨_,rfl,h.tmps t⟩
 |cell i k=>
  simp only[aBH] at hv;split at hv
  ·rename_i l hl;obtain⟨b,c,ty,h1,h2,h3,h4,h5⟩:=h.objs _ _ hl;have hk:=(List.getElem?_eq_some_iff.1 hv).1;have hx:=(List.getElem?_eq_some_iff.1 hv).2;refine⟨_,⟨l,b,c,ty,hl,h1,h3,hk,rfl⟩,?_⟩;rw[<- hx];exact h5 k hk
  ·cases hv
def bLc (E:Enc U) (N:Nat->Prop) (w0:Fr) (ρ:Own) (w:World) (j:Option Nat) (x:cZ U) (u:Value):Prop:=
 ∃ρ1:Own,ρ1 (.ob 0)=some (0,u)/\(∀nm v q,ρ1 nm=some (q,v)->nm.id=0/\q=0)/\(∀i,ρ1 (.mem 0 i)=match x.1,j with
   |true,some j=>(ρ (.mem j i)).map fun p=>(0,p.2)
   |_,_=>none)/\eG E w ρ1 (aM N ρ w) w0.heap.size 0 x.obj
theorem aGG {ρ ρ':Own} {st:Nat->Prop} {c:aB U} {v:Value} (hc:c.flat=true) (h:Rel E w ρ st c v):Rel E w ρ' st c v:=h.flat hc
theorem aY6 (h:RR E n N w0 ρ s a w) {sl:Slot} {τ:U.τ} {d:Bool} {j:Option Nat} {xs:List (U.T τ)} (hr:aI3 s sl τ d=some (j,xs)):
  ∃u,aMV w0 s ρ a w sl u/\(∀a,u≠ .pointer a)/\bLc E N w0 ρ w j ⟨d,τ,xs⟩ u/\(j=none->u=.slice none 0 0)/\∀i,j=some i->∃g ob,ρ i=some (g,u)/\s.objs i=some ob:=by
 unfold aI3 at hr;split at hr
 ·rename_i hv;have hbr:=bI hr;clear hr;obtain⟨hb,hr⟩:=hbr;simp only[Option.some.injEq,Prod.mk.injEq] at hr;obtain⟨rfl,rfl⟩:=hr;obtain⟨u,hu,hrel⟩:=aI2 h hv;cases hrel;refine⟨_,hu,(fun a e=>by cases e),⟨fun nm=>match nm with | .ob 0=>some (0,.slice none 0 0)|_=>none,rfl,fun nm v q hr=>?_,fun i=>?_,?_⟩,(fun _=>rfl),(fun i e=>by cases e)⟩
  ·simp only at hr;split at hr
   ·cases hr;exact⟨rfl,rfl⟩
   ·cases hr
  ·cases d<;>rfl
  ·cases d with
   |false=>exact⟨_,[],rfl,(fun a e=>by cases e),World.ownsRow_nil _ _ _ _,fun i hi=>absurd hi (by simp)⟩
   |true=>
    refine⟨_,[],rfl,(fun a e=>by cases e),World.ownsRow_nil _ _ _ _,?_,fun _ _=>rfl,fun i hi=>absurd hi (by simp)⟩;simp only[Bool.not_true,Bool.false_or] at hb;exact Nat.eq_of_beq_eq_true hb
 ·rename_i j' g hv;split at hr
  ·rename_i t g' ys hl;have hbr:=bI hr;clear hr;obtain⟨hb,hr⟩:=hbr;simp only[Bool.and_eq_true,Bool.not_eq_true'] at hb;obtain⟨bV,rfl⟩:=hb;obtain rfl:=Nat.eq_of_beq_eq_true bV;split at hr
   ·rename_i zs hz;simp only[Option.some.injEq,Prod.mk.injEq] at hr;obtain⟨rfl,rfl⟩:=hr;obtain⟨rfl,rfl⟩:=kS hz;obtain⟨u,hu,hrel⟩:=aI2 h hv;obtain⟨u1,cs,h1,hp,h2,h3⟩:=h.objs _ _ hl;have hue:u1=u:=by
     cases hrel with
     |osl _ _ u' hr' hp'=>
      rw[h1] at hr';simp only[Option.some.injEq,Prod.mk.injEq,true_and] at hr';exact hr'
     |oslOld _ _ g' u' v hr' hg=>
      rw[h1] at hr';simp only[Option.some.injEq,Prod.mk.injEq] at hr';omega
    subst hue;refine⟨u1,hu,hp,⟨fun nm=>match nm with | .ob 0=>some (0,u1)|_=>none,rfl,fun nm v q hr=>?_,fun i=>rfl,⟨u1,cs,rfl,hp,h2,fun i hi k hk=>aGG (E.enc_flat _ _ _ (List.getElem_mem hk)).1 (h3 i hi k hk)⟩⟩,(fun e=>by cases e),fun i e=>?_⟩
    ·simp only at hr;split at hr
     ·cases hr;exact⟨rfl,rfl⟩
     ·cases hr
    ·obtain rfl:=Option.some.inj e;exact⟨g,_,h1,hl⟩
   ·cases hr
  ·rename_i t g' gm ys hl;have hbr:=bI hr;clear hr;obtain⟨hb,hr⟩:=hbr;simp only[Bool.and_eq_true] at hb;obtain⟨bV,rfl⟩:=hb;obtain rfl:=Nat.eq_of_beq_eq_true bV;split at hr
   ·rename_i zs hz;simp only[Option.some.injEq,Prod.mk.injEq] at hr;obtain⟨rfl,rfl⟩:=hr;obtain⟨rfl,rfl⟩:=kS hz;obtain⟨u,hu,hrel⟩:=aI2 h hv;obtain⟨u1,cs,h1,hp,h2,hs,hno,h3⟩:=h.objs _ _ hl;have hue:u1=u:=by
     cases hrel with
     |osl _ _ u' hr' hp'=>
      rw[h1] at hr';simp only[Option.some.injEq,Prod.mk.injEq,true_and] at hr';exact hr'
     |oslOld _ _ g' u' v hr' hg=>
      rw[h1] at hr';simp only[Option.some.injEq,Prod.mk.injEq] at hr';omega
    subst hue;refine⟨u1,hu,hp,⟨fun nm=>match nm with | .ob 0=>some (0,u1) | .mem 0 i=>(ρ (.mem j' i)).map (fun p=>(0,p.2))|_=>none,rfl,fun nm v q hr=>?_,fun i=>rfl,⟨u1,cs,rfl,hp,h2,hs,fun i hi=>?_,fun i hi=>?_⟩⟩,(fun e=>by cases e),fun i e=>?_⟩
    ·simp only at hr;split at hr
     ·cases hr;exact⟨rfl,rfl⟩
     ·simp only[Option.map_eq_some_iff] at hr;obtain⟨p,_,e⟩:=hr;cases e;exact⟨rfl,rfl⟩
     ·cases hr
    ·show (ρ (.mem j' i)).map _=none;rw[hno i hi];rfl
    ·obtain⟨t1,pC,v1,ds,r1,r2,r3,r4,r5,r6⟩:=h3 i hi;exact⟨t1,pC,v1,ds,r1,by show (ρ (.mem j' i)).map _=_;rw[r2];rfl,r3,r4,r5,fun i hi k hk=>aGG (E.enc_flat _ _ _ (List.getElem_mem hk)).1 (r6 i hi k hk)⟩
    ·obtain rfl:=Option.some.inj e;exact⟨g,_,h1,hl⟩
   ·cases hr
  ·cases hr
 ·cases hr
structure Pack (E:Enc U) (n:Nat) (N:Nat->Prop) (w0:Fr) (ρ:Own) (s:ASt U) (a:Act) (w:World) (g:Nat->Option (aV U)) (own:List (Slot×Nat×U.τ)) (h:Nat->Option (aV U)) (js:List Nat)
  (ρ':Own) (sg:Nat->Option Nat):Prop where
 obs:∀id ob,h id=some ob->(g id=some ob/\∀nm:Name,nm.id=id->ρ' nm=ρ nm)\/(g id=none/\∃x:cZ U,ob=x.obj/\eG E w ρ' (aM N ρ w) w0.heap.size id x.obj)
 old:∀id ob,g id=some ob->h id=some ob/\∀nm:Name,nm.id=id->ρ' nm=ρ nm
 dom:∀nm q u,ρ' nm=some (q,u)->∃ob,h nm.id=some ob/\(ob.simple=true->∃k,nm=.ob k)
 src:∀nm q u b,ρ' nm=some (q,u)->blk u=some b->∃j q0,sg nm.id=some j/\ρ (nm.at j)=some (q0,u)
 inj:∀i i' j,sg i=some j->sg i'=some j->i=i'
 sgin:∀i j,sg i=some j->((∃ob,g j=some ob)/\i=j)\/j∈js
 slots:∀sl id τ,(sl,id,τ)∈own->∃u,ρ' (.ob id)=some (0,u)/\aMV w0 s ρ a w sl u/\∀a,u≠ .pointer a
theorem Pack.sep {g h:Nat->Option (aV U)} {own:List (Slot×Nat×U.τ)} {js:List Nat} {sg:Nat->Option Nat} (hR:RR E n N w0 ρ s a w) (P:Pack E n N w0 ρ s a w g own h js ρ' sg):
  ∀nm nm' q q' u u' b,ρ' nm=some (q,u)->ρ' nm'=some (q',u')->nm≠nm'->blk u=some b->blk u'≠some b:=by
 intro nm nm' q q' u u' b hr hr' hne hb hb';obtain⟨j,q0,h1,h2⟩:=P.src _ _ _ b hr hb;obtain⟨j',q0',h1',h2'⟩:=P.src _ _ _ b hr' hb';refine hR.sep _ _ _ _ _ _ b h2 h2' (fun e=>?_) hb hb';have hj:j=j':=by
  have:=congrArg Name.id e;rwa [Name.lZ,Name.lZ] at this
 subst hj;exact hne (Name.aHi (P.inj _ _ _ h1 h1') e)
theorem bF9 (hR:RR E n N w0 ρ s a w) {dp:List Nat} {g:Nat->Option (aV U)} (hg:∀id ob,g id=some ob->∃ob',s.objs id=some ob'/\(ob.simple=true->ob'.simple=true)):
  ∀(own:List (Slot×Nat×U.τ)) (h:Nat->Option (aV U)) (js:List Nat),aCK s dp g own=some (h,js)->∃ρ' sg,Pack E n N w0 ρ s a w g own h js ρ' sg:=by
 intro own
 induction own with
 |nil=>
  intro h js hk;simp only[aCK,Option.some.injEq,Prod.mk.injEq] at hk;obtain⟨rfl,rfl⟩:=hk;have hin:∀{nm:Name} {q:Nat} {u:Value},(if (g nm.id).isSome then ρ nm else none)=some (q,u)->(∃ob,g nm.id=some ob)/\ρ nm=some (q,u):=fun {nm q u} hr=>by
   split at hr
   ·rename_i hs;exact⟨Option.isSome_iff_exists.1 hs,hr⟩
   ·cases hr
  refine⟨fun nm=>if (g nm.id).isSome then ρ nm else none,fun i=>if (g i).isSome then some i else none,fun id ob ho=>.inl ⟨ho,fun nm hn=>by simp[hn,ho]⟩,fun id ob ho=>⟨ho,fun nm hn=>by simp[hn,ho]⟩,fun nm q u hr=>?_,fun nm q u b hr _=>?_,fun i i' j h1 h2=>?_,fun i j h1=>?_,fun _ _ _ hm=>by simp at hm⟩
  ·obtain⟨⟨ob,ho⟩,hr⟩:=hin hr;refine⟨ob,ho,fun hs=>?_⟩;obtain⟨ob',q1,q2⟩:=hg _ _ ho;obtain⟨ob2,q3,q4⟩:=hR.dom _ _ _ hr;rw[q1] at q3;cases q3;exact q4 (q2 hs)
  ·obtain⟨⟨ob,ho⟩,hr⟩:=hin hr;exact⟨nm.id,q,by simp[ho],by rw[Name.bKw];exact hr⟩
  ·split at h1
   ·split at h2
    ·cases h1;cases h2;rfl
    ·cases h2
   ·cases h1
  ·split at h1
   ·rename_i hs;cases h1;exact .inl ⟨Option.isSome_iff_exists.1 hs,rfl⟩
   ·cases h1
 |cons o own ih=>
  intro h js hk;obtain⟨sl,id,τ⟩:=o;simp only[aCK] at hk;generalize hd:dp.any (Nat.beq id)=d at hk;split at hk
  ·rename_i h1 mP j xs mU hrow;split at hk
   ·rename_i hnone;obtain⟨ρ1,sg1,P⟩:=ih h1 mP mU;obtain⟨u,hslot,hup,⟨ρx,x1,x2,x3,x4⟩,hnil,hj⟩:=aY6 hR hrow;have hfree:∀nm:Name,nm.id=id->ρ1 nm=none:=fun nm hn=>by
     cases hq:ρ1 nm with
     |none=>rfl
     |some p=>
      obtain⟨ob,ho,_⟩:=P.dom nm p.1 p.2 hq;rw[hn,hnone] at ho;cases ho
    have hgn:g id=none:=by
     cases hq:g id with
     |none=>rfl
     |some ob=>
      have:=(P.old id ob hq).1;rw[hnone] at this;cases this
    -- the new row, whichever list of old names
    have build:∀(js':List Nat),(∀i∈mP,i∈js')->(∀i,j=some i->i∈js'/\i ∉ mP/\g i=none)->
      ∃ρ' sg,Pack E n N w0 ρ s a w g ((sl,id,τ)::own) (fun q=>cond (Nat.beq q id) (some (cZ.obj ⟨d,τ,xs⟩)) (h1 q)) js' ρ' sg:=fun js' lS hj3=>by
     have hh:∀q,(cond (Nat.beq q id) (some (cZ.obj ⟨d,τ,xs⟩)) (h1 q))=if q=id then some (cZ.obj ⟨d,τ,xs⟩) else h1 q:=fun q=>by
      by_cases hq:q=id
      ·subst hq;rw[Nat.beq_refl,if_pos rfl];rfl
      ·rw[fG hq,if_neg hq];rfl
     let ρ2:Own:=fun nm=>if nm.id=id then ρx (nm.at 0) else ρ1 nm
     have in2:∀nm:Name,nm.id=id->ρ2 nm=ρx (nm.at 0):=fun nm hn=>by show (if _ then _ else _)=_;rw[if_pos hn]
     have out2:∀nm:Name,¬nm.id=id->ρ2 nm=ρ1 nm:=fun nm hn=>by show (if _ then _ else _)=_;rw[if_neg hn]
     have hobj:eG E w ρ2 (aM N ρ w) w0.heap.size id (cZ.obj ⟨d,τ,xs⟩):=by
      refine x4.join (Nat.le_refl _) (fun _ _=>rfl) (in2 (.ob id) rfl) (fun i=>in2 (.mem id i) rfl) (fun t z c v _ _ hc hv=>aGG (E.enc_flat t z c hc).1 hv)
     refine⟨ρ2,fun q=>if q=id then j else sg1 q,fun q ob ho=>?_,fun q ob ho=>?_,fun nm gq uq hr=>?_,fun nm gq uq b hr hb=>?_,fun i i' k e1 e2=>?_,fun i k e1=>?_,fun sl' id' τ' hm=>?_⟩
     ·rw[hh] at ho;split at ho
      ·rename_i hq;subst hq;obtain rfl:=Option.some.inj ho;exact .inr ⟨hgn,_,rfl,hobj⟩
      ·rename_i hq;rcases P.obs q ob ho with ⟨h2,h3⟩|⟨h2,x,h3,h4⟩
       ·exact .inl ⟨h2,fun nm hn=>by rw[out2 nm (by rw[hn];exact hq)];exact h3 nm hn⟩
       ·refine .inr ⟨h2,x,h3,?_⟩;exact h4.join (Nat.le_refl _) (fun _ _=>rfl) (out2 (.ob q) hq) (fun i=>out2 (.mem q i) hq) (fun t z c v _ _ hc hv=>aGG (E.enc_flat t z c hc).1 hv)
     ·have hq:q≠id:=fun e=>by subst e;rw[hgn] at ho;cases ho
      obtain⟨h2,h3⟩:=P.old q ob ho;exact⟨by rw[hh,if_neg hq];exact h2,fun nm hn=>by rw[out2 nm (by rw[hn];exact hq)];exact h3 nm hn⟩
     ·by_cases hq:nm.id=id
      ·refine⟨_,by rw[hh,if_pos hq],fun hs=>?_⟩;have hd0:d=false:=(cZ.aJZ ⟨d,τ,xs⟩ hs:_);cases nm with
       |ob k=>exact⟨k,rfl⟩
       |mem k i=>
        rw[in2 _ hq] at hr;have hr':ρx (.mem 0 i)=some (gq,uq):=hr;rw[x3 i,hd0] at hr';cases hr'
      ·rw[out2 nm hq] at hr;obtain⟨ob,ho,hs⟩:=P.dom nm gq uq hr;exact⟨ob,by rw[hh,if_neg hq];exact ho,hs⟩
     ·by_cases hq:nm.id=id
      ·rw[in2 _ hq] at hr;cases hjj:j with
       |none=>
        cases nm with
        |ob k=>
         have hr':ρx (.ob 0)=some (gq,uq):=hr;rw[x1] at hr';cases hr';rw[hnil hjj] at hb;cases hb
        |mem k i=>
         have hr':ρx (.mem 0 i)=some (gq,uq):=hr;rw[x3 i,hjj] at hr';cases d<;>cases hr'
       |some i=>
        refine⟨i,?_⟩;cases nm with
        |ob k=>
         have hr':ρx (.ob 0)=some (gq,uq):=hr;rw[x1] at hr';cases hr';obtain⟨g0,ob,h2,h3⟩:=hj i hjj;exact⟨g0,by rw[if_pos hq],h2⟩
        |mem k i2=>
         have hr':ρx (.mem 0 i2)=some (gq,uq):=hr;rw[x3 i2,hjj] at hr';cases d with
         |false=>cases hr'
         |true=>
          simp only[Option.map_eq_some_iff] at hr';obtain⟨p,hp,e⟩:=hr';cases e;exact⟨p.1,by rw[if_pos hq],hp⟩
      ·rw[out2 nm hq] at hr;obtain⟨k,q0,h2,h3⟩:=P.src nm gq uq b hr hb;exact⟨k,q0,by rw[if_neg hq];exact h2,h3⟩
     ·have key:∀i' k,¬i'=id->j=some k->sg1 i'=some k->False:=fun i' k hi' hjk hs=>by
       obtain⟨_,q1,q2⟩:=hj3 k hjk;rcases P.sgin i' k hs with ⟨⟨ob,ho⟩,_⟩|hm
       ·rw[q2] at ho;cases ho
       ·exact q1 hm
      by_cases hi:i=id
      ·rw[if_pos hi] at e1
       by_cases hi':i'=id
       ·rw[hi,hi']
       ·rw[if_neg hi'] at e2;exact(key i' k hi' e1 e2).elim
      ·rw[if_neg hi] at e1
       by_cases hi':i'=id
       ·rw[if_pos hi'] at e2;exact(key i k hi e2 e1).elim
       ·rw[if_neg hi'] at e2;exact P.inj _ _ _ e1 e2
     ·by_cases hi:i=id
      ·rw[if_pos hi] at e1;exact .inr (hj3 k e1).1
      ·rw[if_neg hi] at e1;rcases P.sgin i k e1 with h2|h2
       ·exact .inl h2
       ·exact .inr (lS k h2)
     ·rcases List.mem_cons.1 hm with e|hm
      ·simp only[Prod.mk.injEq] at e;obtain⟨rfl,rfl,rfl⟩:=e;exact⟨u,by rw[in2 _ rfl];exact x1,hslot,hup⟩
      ·obtain⟨u',h2,h3,h4⟩:=P.slots sl' id' τ' hm;have hq:id'≠id:=fun e=>by
        subst e;rw[hfree (.ob id') rfl] at h2;cases h2
       exact⟨u',by rw[out2 (.ob id') hq];exact h2,h3,h4⟩
    split at hk
    ·rename_i i;cases hany2:(mP.any (Nat.beq i)||(g i).isSome) with
     |true=>rw[hany2] at hk;cases hk
     |false=>
      rw[hany2] at hk;simp only[cond_false,Option.some.injEq,Prod.mk.injEq] at hk;simp only[Bool.or_eq_false_iff] at hany2;obtain⟨hany,hgi⟩:=hany2;obtain⟨rfl,rfl⟩:=hk;refine build (i::mP) (fun q hq=>List.mem_cons_of_mem _ hq) (fun q hq=>?_);obtain rfl:=Option.some.inj hq;refine⟨List.mem_cons_self,fun hm=>?_,by simpa using hgi⟩;have:=xN.2 hm;rw[hany] at this;cases this
    ·simp only[Option.some.injEq,Prod.mk.injEq] at hk;obtain⟨rfl,rfl⟩:=hk;exact build mP (fun q hq=>hq) (fun q hq=>by cases hq)
   ·cases hk
  ·cases hk
end
end Go.Vm
namespace Go.Vm
open Go.RowKit
set_option linter.unusedVariables false
section
variable {U:dH} {E:Enc U} {n:Nat} {N:Nat->Prop} {w0:Fr} {w w':World} {ρ ρ':Own} {s s':ASt U} {a:Act}
theorem bFc {own:List (Slot×Nat×U.τ)} {t id:Nat} (h:z8 own t=some id):∃τ,(.tmp t,id,τ)∈own:=by
 induction own with
 |nil=>cases h
 |cons o own ih=>
  obtain⟨sl,i,τ⟩:=o;cases sl with
  |tmp t'=>
   simp only[z8] at h;cases hb:Nat.beq t t' with
   |true=>
    rw[hb] at h;obtain rfl:=Option.some.inj h;obtain rfl:=Nat.eq_of_beq_eq_true hb;exact⟨τ,List.mem_cons_self⟩
   |false=>
    rw[hb] at h;obtain⟨τ',hm⟩:=ih h;exact⟨τ',List.mem_cons_of_mem _ hm⟩
  |cell i' k'=>
   simp only[z8] at h;obtain⟨τ',hm⟩:=ih h;exact⟨τ',List.mem_cons_of_mem _ hm⟩
theorem bFd {own:List (Slot×Nat×U.τ)} {i k id:Nat} (h:qA own i k=some id):∃τ,(.cell i k,id,τ)∈own:=by
 induction own with
 |nil=>cases h
 |cons o own ih=>
  obtain⟨sl,j,τ⟩:=o;cases sl with
  |tmp t'=>
   simp only[qA] at h;obtain⟨τ',hm⟩:=ih h;exact⟨τ',List.mem_cons_of_mem _ hm⟩
  |cell i' k'=>
   simp only[qA] at h;cases hb:(Nat.beq i i'&&Nat.beq k k') with
   |true=>
    rw[hb] at h;obtain rfl:=Option.some.inj h;simp only[Bool.and_eq_true] at hb;obtain rfl:=Nat.eq_of_beq_eq_true hb.1;obtain rfl:=Nat.eq_of_beq_eq_true hb.2;exact⟨τ,List.mem_cons_self⟩
   |false=>
    rw[hb] at h;obtain⟨τ',hm⟩:=ih h;exact⟨τ',List.mem_cons_of_mem _ hm⟩
theorem kC {α:Type} (u t:Nat) (x y:α):cond (Nat.beq u t) x y=if u=t then x else y:=by
 by_cases h:u=t
 ·subst h;rw[Nat.beq_refl,if_pos rfl];rfl
 ·rw[fG h,if_neg h];rfl
theorem bF8 {own:List (Slot×Nat×U.τ)} {p:Nat->Bool}:∀(l:List Nat) (f:Nat->aB U),aFU s own p l=some f->
  ∀t,f t=.any\/(∃id τ,(.tmp t,id,τ)∈own/\f t=.osl id 0)\/(f t=s.tmps t/\aJY p (s.tmps t)=true):=by
 intro l
 induction l with
 |nil=>
  intro f hf t;obtain rfl:=Option.some.inj hf;exact .inl rfl
 |cons u l ih=>
  intro f hf t;simp only[aFU] at hf;split at hf
  ·rename_i f' hf';split at hf
   ·rename_i id hid;obtain rfl:=Option.some.inj hf;simp only[kC]
    by_cases h:t=u
    ·subst h;obtain⟨τ,hm⟩:=bFc hid;exact .inr (.inl ⟨id,τ,hm,by rw[if_pos rfl]⟩)
    ·rw[if_neg h];exact ih f' hf' t
   ·have hfb:=bI hf;clear hf;obtain⟨hb,hf⟩:=hfb;obtain rfl:=Option.some.inj hf;simp only[kC]
    by_cases h:t=u
    ·subst h;exact .inr (.inr ⟨by rw[if_pos rfl],hb⟩)
    ·rw[if_neg h];exact ih f' hf' t
  ·cases hf
theorem aRi {own:List (Slot×Nat×U.τ)} {p:Nat->Bool}:∀(l:List Nat) (g:Nat->Option (aV U)),wO s own p l=some g->
  ∀id ob,g id=some ob->id∈l/\((∃cs,s.objs id=some (.cells cs)/\ob=.cells (patch own id 0 cs)/\aB0 own id p 0 cs=true)\/
   s.objs id=some ob/\((∃t q xs,ob=.row t q xs)\/(∃t q xs k m gm,ob=.rowF t q xs k m gm/\p m=true)\/∃k d,ob=.opq k d)):=by
 intro l
 induction l with
 |nil=>
  intro g hg id ob ho;obtain rfl:=Option.some.inj hg;cases ho
 |cons i l ih=>
  intro g hg id ob ho;simp only[wO] at hg;split at hg
  ·rename_i g' cs hg' hcs;have hgb:=bI hg;clear hg;obtain⟨hb,hg⟩:=hgb;obtain rfl:=Option.some.inj hg;simp only[kC] at ho
   by_cases h:id=i
   ·subst h;rw[if_pos rfl] at ho;obtain rfl:=Option.some.inj ho;exact⟨List.mem_cons_self,.inl ⟨cs,hcs,rfl,hb⟩⟩
   ·rw[if_neg h] at ho;obtain⟨h1,h2⟩:=ih g' hg' id ob ho;exact⟨List.mem_cons_of_mem _ h1,h2⟩
  ·rename_i g' t q xs hg' hcs;obtain rfl:=Option.some.inj hg;simp only[kC] at ho
   by_cases h:id=i
   ·subst h;rw[if_pos rfl] at ho;obtain rfl:=Option.some.inj ho;exact⟨List.mem_cons_self,.inr ⟨hcs,.inl ⟨t,q,xs,rfl⟩⟩⟩
   ·rw[if_neg h] at ho;obtain⟨h1,h2⟩:=ih g' hg' id ob ho;exact⟨List.mem_cons_of_mem _ h1,h2⟩
  ·rename_i g' k d hg' hcs;obtain rfl:=Option.some.inj hg;simp only[kC] at ho
   by_cases h:id=i
   ·subst h;rw[if_pos rfl] at ho;obtain rfl:=Option.some.inj ho;exact⟨List.mem_cons_self,.inr ⟨hcs,.inr (.inr ⟨k,d,rfl⟩)⟩⟩
   ·rw[if_neg h] at ho;obtain⟨h1,h2⟩:=ih g' hg' id ob ho;exact⟨List.mem_cons_of_mem _ h1,h2⟩
  ·rename_i g' t q xs k m gm hg' hcs;have hgb:=bI hg;clear hg;obtain⟨hb,hg⟩:=hgb;obtain rfl:=Option.some.inj hg;simp only[kC] at ho
   by_cases h:id=i
   ·subst h;rw[if_pos rfl] at ho;obtain rfl:=Option.some.inj ho;exact⟨List.mem_cons_self,.inr ⟨hcs,.inr (.inl ⟨t,q,xs,k,m,gm,rfl,hb⟩)⟩⟩
   ·rw[if_neg h] at ho;obtain⟨h1,h2⟩:=ih g' hg' id ob ho;exact⟨List.mem_cons_of_mem _ h1,h2⟩
  ·cases hg
theorem aRj {own:List (Slot×Nat×U.τ)} {p:Nat->Bool}:∀(l:List Nat) (g:Nat->Option (aV U)),wO s own p l=some g->∀id∈l,∃ob,g id=some ob:=by
 intro l
 induction l with
 |nil=>intro g hg id hid;simp at hid
 |cons i l ih=>
  intro g hg id hid;have key:∀(g':Nat->Option (aV U)) (o:aV U),wO s own p l=some g'->g=(fun u=>cond (Nat.beq u i) (some o) (g' u))->∃ob,g id=some ob:=fun g' o hg' e=>by
   subst e;simp only[kC]
   by_cases h:id=i
   ·subst h;exact⟨_,by rw[if_pos rfl]⟩
   ·rw[if_neg h];rcases List.mem_cons.1 hid with e|hid
    ·exact absurd e h
    ·exact ih g' hg' id hid
  simp only[wO] at hg;split at hg
  ·rename_i g' cs hg' hcs;exact key g' _ hg' (Option.some.inj (bI hg).2).symm
  ·rename_i g' t q xs hg' hcs;exact key g' _ hg' (Option.some.inj hg).symm
  ·rename_i g' k d hg' hcs;exact key g' _ hg' (Option.some.inj hg).symm
  ·rename_i g' t q xs k m gm hg' hcs;exact key g' _ hg' (Option.some.inj (bI hg).2).symm
  ·cases hg
theorem aJS (own:List (Slot×Nat×U.τ)) (i:Nat):∀(cs:List (aB U)) (k:Nat),(patch own i k cs).length=cs.length:=by
 intro cs
 induction cs with
 |nil=>intro k;rfl
 |cons c cs ih=>intro k;simp[patch,ih]
theorem bBr (own:List (Slot×Nat×U.τ)) (i:Nat):∀(cs:List (aB U)) (k j:Nat) (h:j<cs.length),(patch own i k cs)[j]'(by rw[aJS];exact h)=aJT own i (k+j) cs[j]:=by
 intro cs
 induction cs with
 |nil=>intro k j h;simp at h
 |cons c cs ih=>
  intro k j h;cases j with
  |zero=>rfl
  |succ j=>
   simp only[patch,List.getElem_cons_succ];rw[ih (k+1) j (by simpa using h),Nat.add_assoc,Nat.add_comm 1 j]
theorem bBs {own:List (Slot×Nat×U.τ)} {i:Nat} {p:Nat->Bool}:∀(cs:List (aB U)) (k:Nat),aB0 own i p k cs=true->∀j (h:j<cs.length),qA own i (k+j)=none->tD p cs[j]=true:=by
 intro cs
 induction cs with
 |nil=>intro k _ j h;simp at h
 |cons c cs ih=>
  intro k hk j h hn;simp only[aB0,Bool.and_eq_true] at hk;cases j with
  |zero=>
   rw[Nat.add_zero] at hn;rw[hn] at hk;exact hk.1
  |succ j=>
   rw[<- Nat.add_assoc,Nat.add_right_comm] at hn;exact ih (k+1) hk.2 j (by simpa using h) hn
theorem aNK {st:Nat->Prop} {τ:U.τ} {x:aB U} {v:Value} (h:Rel E w ρ st x v):Rel E w ρ st (aEI τ x) v:=by
 cases x with
 |nils=>
  cases h;exact .jI τ
 |_=>exact h
theorem aNJ (τ:U.τ):∀(l:List (aB U)) (k:Nat),(pK τ k l).length=l.length:=by
 intro l
 induction l with
 |nil=>intro k;cases k<;>rfl
 |cons c l ih=>
  intro k;cases k with
  |zero=>rfl
  |succ k=>simp[pK,ih]
theorem aY4 {st:Nat->Prop} {τ:U.τ}:∀(l:List (aB U)) (k:Nat) (f:Nat->Value),(∀j (h:j<l.length),Rel E w ρ st l[j] (f j))->∀j (h:j<(pK τ k l).length),Rel E w ρ st (pK τ k l)[j] (f j):=by
 intro l
 induction l with
 |nil=>
  intro k f _ j h;rw[aNJ] at h;exact absurd h (by simp)
 |cons c l ih=>
  intro k f hf j h;cases k with
  |zero=>
   cases j with
   |zero=>exact aNK (hf 0 (by simp))
   |succ j=>exact hf (j+1) (by simpa[pK] using h)
  |succ k=>
   cases j with
   |zero=>exact hf 0 (by simp)
   |succ j=>exact ih k (fun i=>f (i+1)) (fun i hi=>hf (i+1) (by simpa using hi)) j (by simpa[pK] using h)
theorem aY3 (hR:RR E n N w0 ρ s a w) (x:Slot×U.τ):RR E n N w0 ρ (aI1 s x) a w:=by
 obtain⟨sl,τ⟩:=x;cases sl with
 |tmp t=>
  refine⟨hR.defers,hR.size,fun u=>?_,hR.objs,hR.dom,hR.sep,hR.below,hR.nlt,hR.kept,hR.free,hR.pin,hR.nle⟩;show Rel E w ρ _ (cond (Nat.beq u t) (aEI τ (s.tmps t)) (s.tmps u)) _;rw[kC];split
  ·rename_i e;subst e;exact aNK (hR.tmps u)
  ·exact hR.tmps u
 |cell i k=>
  simp only[aI1];split
  ·rename_i l hl;refine⟨hR.defers,hR.size,hR.tmps,fun id ob ho=>?_,fun nm g u hr=>?_,hR.sep,hR.below,hR.nlt,hR.kept,hR.free,fun id u hp=>by
    obtain⟨⟨ob,ho⟩,h2⟩:=hR.pin id u hp;refine⟨?_,h2⟩;simp only[kC];split
    ·exact⟨_,rfl⟩
    ·exact⟨ob,ho⟩,hR.nle⟩
   ·simp only[kC] at ho;split at ho
    ·rename_i e;subst e;obtain rfl:=Option.some.inj ho;obtain⟨b,c,ty,h1,h2,h3,h4,h5⟩:=hR.objs _ _ hl;exact⟨b,c,ty,h1,h2,h3,by rw[aNJ];exact h4,aY4 l k _ h5⟩
    ·exact hR.objs _ _ ho
   ·obtain⟨ob,q1,q2⟩:=hR.dom _ _ _ hr
    by_cases e:nm.id=i
    ·refine⟨.cells (pK τ k l),by simp only[kC,if_pos e],fun _=>?_⟩;rw[e,hl] at q1;cases q1;exact q2 rfl
    ·exact⟨ob,by simp only[kC,if_neg e];exact q1,q2⟩
  ·exact hR
theorem aNI:∀(l:List (Slot×U.τ)) (s:ASt U),RR E n N w0 ρ s a w->RR E n N w0 ρ (aEH l s) a w
 |[],_,h=>h
 |x::l,s,h=>aNI l _ (aY3 h x)
theorem bGk (h:RR E n N w0 ρ s a w) (j:Nat):∃ρ',RR E n N w0 ρ' (aL3 s j) a w:=by
 unfold aL3;split
 ·rename_i t g xs i m gm hj;split
  ·rename_i t1 gm' ys hm;split
   ·rename_i y hb hy;obtain rfl:=Nat.eq_of_beq_eq_true hb;obtain⟨u,cs,h1,hp,h2,hsz,hi,hmr,h3⟩:=h.objs _ _ hj;have hjm:j≠m:=fun e=>by
     subst e;rw[hj] at hm;cases hm
    obtain⟨hR1,hv⟩:=h.aLl hm;have hobj1:(s.obj m (.row t1 (gm+1) [])).objs j=some (.rowF t g xs i m gm):=by
     show cond (Nat.beq j m) _ (s.objs j)=_;rw[fG hjm];exact hj
    refine⟨bZ ρ m (gm+1) (.slice none 0 0),?_⟩;have hmono:∀{x:aB U} {v:Value},Rel E w ρ (aM N ρ w) x v->x.flat=true->Rel E w (bZ ρ m (gm+1) (.slice none 0 0)) (aM N (bZ ρ m (gm+1) (.slice none 0 0)) w) x v:=fun {x v} hx hf=>
     (hx.flat (ρ':=bU) hf).mono (fun b ⟨q1,q2,q3⟩=>⟨⟨q1,q2,fun nm g u hr hbl=>by
      unfold bZ at hr;split at hr
      ·cases hr;cases hbl
      ·exact q3 _ _ _ hr hbl⟩,rfl⟩) (fun _ _ _ hr=>by cases hr)
    have hhold:=hR1;have c:Chg N (fun q=>q=j) w0.heap.size (bZ ρ m (gm+1) (.slice none 0 0)) (bZ ρ m (gm+1) (.slice none 0 0)) w w:=
     ⟨fun _ _=>rfl,fun _ _ _ _ cH=>.inl cH,Below.refl _ _,fun _ _ _=>rfl,fun nm g1 u1 b' hd cH hb'=>.inl ⟨nm,g1,u1,hd,cH,hb'⟩,fun nm nm' g1 g2 u1 u2 b' _ _ cH jA hne bV=>hR1.sep _ _ _ _ _ _ b' cH jA hne bV⟩
    refine hR1.change c rfl (fun q hq=>?_) (fun nm g1 u1 hd cH=>?_) (fun q ob hq ho=>?_) (fun q ob hq _=>⟨.row t g (xs.set i y),by
     rw[hq];show cond (Nat.beq j j) _ _=_;rw[Nat.beq_refl];rfl⟩)
    ·show cond (Nat.beq q j) _ _=_;rw[fG hq];rfl
    ·obtain⟨ob,q1,q2⟩:=hR1.dom _ _ _ cH;rw[hd,hobj1] at q1;cases q1;refine⟨.row t g (xs.set i y),?_,fun _=>q2 rfl⟩;rw[hd];show cond (Nat.beq j j) _ _=_;rw[Nat.beq_refl];rfl
    ·subst hq;have e0:((s.obj m (.row t1 (gm+1) [])).obj q (.row t g (xs.set i y))).objs q=some (.row t g (xs.set i y)):=by
      show cond (Nat.beq q q) _ _=_;rw[Nat.beq_refl];rfl
     rw[e0] at ho;cases ho;refine⟨u,cs,?_,hp,by rw[List.length_set];exact h2,fun p hq k hk=>?_⟩
     ·unfold bZ;rw[if_neg (fun e=>hjm (Name.ob.inj e))];exact h1
     ·rw[List.length_set] at hq
      by_cases hqi:p=i
      ·subst hqi;have hey:=E.unsl_ok _ _ _ _ hy;have iI:k=0:=by
        rw[E.enc_len,hsz] at hk;omega
       subst iI;have e1:(E.enc t (xs.set p y)[p])[0]=.sl t1 ys:=by
        simp only[List.getElem_set_self,hey];rfl
       rw[e1,hsz,Nat.mul_one,Nat.add_zero];exact hv hmr
      ·have e1:(xs.set i y)[p]'(by simpa using hq)=xs[p]:=by rw[List.getElem_set_ne (Ne.symm hqi)]
       have cW:k<(E.enc t xs[p]).length:=by rw[E.enc_len] at hk ⊢;exact hk
       have:=hmono (h3 p hq hqi k cW) (E.enc_flat t _ _ (List.getElem_mem cW)).1;simp only[e1];exact this
   ·exact⟨ρ,h⟩
  ·exact⟨ρ,h⟩
 ·rename_i t g gm xs m gq hj;split
  ·rename_i t1 gm' ys hm;split
   ·rename_i y hb hy;obtain rfl:=Nat.eq_of_beq_eq_true hb;obtain⟨u,cs,h1,hp,h2,hsz,hno,hmr,h3⟩:=h.objs _ _ hj;obtain⟨um,csm,m1,mp,m2,m4⟩:=h.objs _ _ hm;have hmj:m≠j:=fun e=>by
     subst e;rw[hj] at hm;cases hm
    have hum:cs.getD xs.length undef=um:=by
     generalize cs.getD xs.length undef=c at hmr;cases hmr with
     |osl _ _ u' hr' hp'=>
      rw[m1] at hr';simp only[Option.some.injEq,Prod.mk.injEq,true_and] at hr';exact hr'.symm
     |oslOld _ _ g' u' v hr' hg=>
      rw[m1] at hr';simp only[Option.some.injEq,Prod.mk.injEq] at hr';omega
    have hmemm:=h.pV (id:=m) (fun ob ho=>by rw[hm] at ho;cases ho;rfl)
    let ρ2:Own:=gT (gT ρ m (some (gq+1,.slice none 0 0)) (fun _=>none)) j (ρ (.ob j)) (fun k=>if k=xs.length then some (gm,um) else ρ (.mem j k))
    have ej:ρ2 (.ob j)=ρ (.ob j):=pN;have ejm:∀k,ρ2 (.mem j k)=if k=xs.length then some (gm,um) else ρ (.mem j k):=fun k=>pO
    have em:ρ2 (.ob m)=some (gq+1,.slice none 0 0):=by
     show gT _ j _ _ (.ob m)=_;rw[kL (show (Name.ob m).id≠j from hmj)];exact pN
    have emm:∀k,ρ2 (.mem m k)=none:=fun k=>by
     show gT _ j _ _ (.mem m k)=_;rw[kL (show (Name.mem m k).id≠j from hmj)];exact pO
    have eout:∀nm:Name,nm.id≠m->nm.id≠j->ρ2 nm=ρ nm:=fun nm h1 h2=>by
     show gT _ j _ _ nm=_;rw[kL h2,kL h1]
    have hcase:∀(nm:Name) g u b,(nm.id=m\/nm.id=j)->ρ2 nm=some (g,u)->blk u=some b->(nm=.ob j/\ρ (.ob j)=some (g,u))\/(nm=.mem j xs.length/\u=um)\/∃k,k≠xs.length/\nm=.mem j k/\ρ (.mem j k)=some (g,u):=fun nm g u b hq hr hb=>by
     cases nm with
     |ob q=>
      rcases hq with hq|hq
      ·obtain rfl:q=m:=hq;rw[em] at hr;cases hr;cases hb
      ·obtain rfl:q=j:=hq;rw[ej] at hr;exact .inl ⟨rfl,hr⟩
     |mem q k=>
      rcases hq with hq|hq
      ·obtain rfl:q=m:=hq;rw[emm] at hr;cases hr
      ·obtain rfl:q=j:=hq;rw[ejm] at hr;split at hr
       ·rename_i hk;subst hk;cases hr;exact .inr (.inl ⟨rfl,rfl⟩)
       ·rename_i hk;exact .inr (.inr ⟨k,hk,rfl,hr⟩)
    have c:Chg N (fun q=>q=m\/q=j) w0.heap.size ρ ρ2 w w:=by
     refine aIU h hmj eout (fun nm g u hq hr=>?_) (Below.refl _ _) (fun b hb _=>rfl) (fun nm=>match nm with | .ob q=>.ob q | .mem q k=>if k=xs.length then .ob m else .mem q k) (fun nm g u b hq hr hb=>?_) (fun nm nm' g g1 u u1 b b1 hq hq' hr hr' hb bV he=>?_)
     ·cases nm with
      |ob q=>
       rcases hq with hq|hq
       ·obtain rfl:q=m:=hq;rw[m1] at hr;cases hr;exact .inr ⟨mp,_,_,em,by omega⟩
       ·obtain rfl:q=j:=hq;exact .inl (by rw[ej];exact hr)
      |mem q k=>
       rcases hq with hq|hq
       ·obtain rfl:q=m:=hq;rw[hmemm k] at hr;cases hr
       ·obtain rfl:q=j:=hq
        by_cases hk:k=xs.length
        ·rw[hno k (by omega)] at hr;cases hr
        ·exact .inl (by rw[ejm,if_neg hk];exact hr)
     ·rcases hcase nm g u b hq hr hb with ⟨rfl,h4⟩|⟨rfl,rfl⟩|⟨k,hk,rfl,h4⟩
      ·exact⟨.inr rfl,.inl ⟨_,_,h4,hb⟩⟩
      ·simp only[if_true];exact⟨.inl rfl,.inl ⟨_,_,m1,hb⟩⟩
      ·simp only[if_neg hk];exact⟨.inr rfl,.inl ⟨_,_,h4,hb⟩⟩
     ·rcases hcase nm g u b hq hr hb with ⟨rfl,h4⟩|⟨rfl,rfl⟩|⟨k,hk,rfl,h4⟩
      ·rcases hcase nm' g1 u1 b1 hq' hr' bV with ⟨rfl,h5⟩|⟨rfl,rfl⟩|⟨k',hk',rfl,h5⟩
       ·rfl
       ·simp only[if_true] at he;exact absurd (Name.ob.inj he).symm hmj
       ·simp only[if_neg hk'] at he;cases he
      ·rcases hcase nm' g1 u1 b1 hq' hr' bV with ⟨rfl,h5⟩|⟨rfl,rfl⟩|⟨k',hk',rfl,h5⟩
       ·simp only[if_true] at he;exact absurd (Name.ob.inj he) hmj
       ·rfl
       ·simp only[if_true,if_neg hk'] at he;cases he
      ·rcases hcase nm' g1 u1 b1 hq' hr' bV with ⟨rfl,h5⟩|⟨rfl,rfl⟩|⟨k',hk',rfl,h5⟩
       ·simp only[if_neg hk] at he;cases he
       ·simp only[if_true,if_neg hk] at he;cases he
       ·simp only[if_neg hk,if_neg hk'] at he;exact he
    obtain⟨o1,o2,o3⟩:=aJ0 s m j 0 hmj (.row t1 (gq+1) []) (.deep t g gm (xs++[y])) .any;refine⟨ρ2,h.change (s':=(s.obj m (.row t1 (gq+1) [])).obj j (.deep t g gm (xs++[y]))) c rfl (fun q hq=>o1 q (fun e=>hq (.inl e)) (fun e=>hq (.inr e))) (fun nm g u hq hr=>?_) (fun q ob hq ho=>?_) (fun q ob hq _=>by
      rcases hq with e|e
      ·exact⟨_,(congrArg _ e).trans o2⟩
      ·exact⟨_,(congrArg _ e).trans o3⟩)⟩
    ·rcases hq with hq|hq
     ·refine⟨_,by rw[hq];exact o2,fun _=>?_⟩;cases nm with
      |ob q=>exact⟨q,rfl⟩
      |mem q k=>
       obtain rfl:q=m:=hq;rw[emm] at hr;cases hr
     ·exact⟨_,by rw[hq];exact o3,fun e=>by cases e⟩
    ·rcases hq with rfl|rfl
     ·rw[show ((s.obj q (.row t1 (gq+1) [])).obj j (.deep t g gm (xs++[y]))).objs q=some (.row t1 (gq+1) []) from o2] at ho;cases ho;exact⟨.slice none 0 0,[],em,(fun a e=>by cases e),World.ownsRow_nil _ _ _ _,fun i hi=>absurd hi (by simp)⟩
     ·rw[show ((s.obj m (.row t1 (gq+1) [])).obj q (.deep t g gm (xs++[y]))).objs q=some (.deep t g gm (xs++[y])) from o3] at ho;cases ho;refine⟨u,cs,by rw[ej];exact h1,hp,by rw[List.length_append];exact h2,hsz,fun k hk=>?_,fun k hk=>?_⟩
      ·rw[List.length_append,List.length_singleton] at hk;rw[ejm,if_neg (by omega)];exact hno k (by omega)
      ·rw[List.length_append,List.length_singleton] at hk
       by_cases hkl:k=xs.length
       ·subst hkl;refine⟨t1,ys,um,csm,?_,by rw[ejm,if_pos rfl],hum,mp,m2,fun i hi k hk=>c.rel (m4 i hi k hk)⟩;rw[List.getElem_concat_length (by rfl)];exact E.unsl_ok _ _ _ _ hy
       ·obtain⟨t2,ws,v2,qI,p1,p2,p3,p4,p5,p6⟩:=h3 k (by omega);refine⟨t2,ws,v2,qI,?_,by rw[ejm,if_neg hkl];exact p2,p3,p4,p5,fun i hi k hk=>c.rel (p6 i hi k hk)⟩;rw[List.getElem_append_left (by omega)];exact p1
   ·exact⟨ρ,h⟩
  ·exact⟨ρ,h⟩
 ·exact⟨ρ,h⟩
theorem aVV:∀(l:List (Slot×Nat×U.τ)) (s:ASt U) (ρ:Own),RR E n N w0 ρ s a w->∃ρ',RR E n N w0 ρ' (aGC l s) a w
 |[],_,ρ,h=>⟨ρ,h⟩
 |x::l,s,ρ,h=>by
  have:∃ρ',RR E n N w0 ρ' (aL2 s x) a w:=by
   unfold aL2;split
   ·exact bGk h _
   ·exact⟨ρ,h⟩
  obtain⟨ρ',h'⟩:=this;exact aVV l _ ρ' h'
theorem aC7 (hR0:RR E n N w0 ρ s a w) {m:Canon U} (lT:canon m s=some s') (hpin:∀id u,w0.pin id=some u->id∈m.cells):∃ρ',RR E n N w0 ρ' s' a w:=by
 obtain⟨ρ1,hR⟩:=aVV m.own _ ρ (aNI m.soft s hR0)
 revert hR lT
 unfold canon;generalize aGC m.own (aEH m.soft s)=s;clear hR0
 revert ρ1
 intro ρ hc hR;unfold aVw at hc;split at hc
 ·rename_i f g hf hg;split at hc
  ·rename_i h js hk;obtain rfl:=Option.some.inj hc;have hgs:∀id ob,g id=some ob->∃ob',s.objs id=some ob'/\(ob.simple=true->ob'.simple=true):=fun id ob ho=>by
    rcases(aRi m.cells g hg id ob ho).2 with ⟨cs,h3,rfl,_⟩|⟨h3,_⟩
    ·exact⟨_,h3,fun _=>rfl⟩
    ·exact⟨_,h3,fun h=>h⟩
   obtain⟨ρ',sg,P⟩:=bF9 hR hgs m.own h js hk;have hp:∀id q u,(m.cells.any (Nat.beq id))=true->ρ (.ob id)=some (q,u)->ρ' (.ob id)=some (q,u):=fun id q u hid hr=>by
    obtain⟨ob,ho⟩:=aRj m.cells g hg id (xN.1 hid);rw[(P.old id ob ho).2 (.ob id) rfl];exact hr
   have hst:∀b,aM N ρ w b->aM N ρ' w b:=fun b ⟨h1,h2,h3⟩=>⟨h1,h2,fun nm q u hr hb=>by
    obtain⟨j,q0,_,hr'⟩:=P.src nm q u b hr hb;exact h3 _ _ _ hr' hb⟩
   refine⟨ρ',hR.defers,hR.size,fun t=>?_,fun id ob ho=>?_,P.dom,P.sep hR,hR.below,hR.nlt,hR.kept,fun nm q u b hr hb=>?_,fun id u hpi=>by
    obtain⟨ob,ho⟩:=aRj m.cells g hg id (hpin id u hpi);obtain⟨_,hq⟩:=hR.pin id u hpi;obtain⟨h1,h2⟩:=P.old id ob ho;exact⟨⟨ob,h1⟩,by rw[h2 (.ob id) rfl];exact hq⟩,hR.nle⟩
   ·rcases bF8 m.keep f hf t with e|⟨id,τ,hm,e⟩|⟨e,hok⟩
    ·show Rel E w ρ' _ (f t) _;rw[e];exact .any _
    ·show Rel E w ρ' _ (f t) _;rw[e];obtain⟨u,h1,h2,h3⟩:=P.slots _ _ _ hm;rw[show a.iA w0 t=u from h2];exact .osl id 0 u h1 h3
    ·show Rel E w ρ' _ (f t) _;rw[e];exact bDI hok hp hst (hR.tmps t)
   ·have flat:∀{x:aB U} {v:Value},x.flat=true->Rel E w ρ (aM N ρ w) x v->Rel E w ρ' (aM N ρ' w) x v:=fun hx hv=>
     (hv.flat (ρ':=ρ') hx).mono (fun b hb=>⟨hst b hb,rfl⟩) (fun _ _ _ hr=>.inl hr)
    rcases P.obs id ob ho with ⟨h1,h2⟩|⟨_,x,rfl,h2⟩
    ·rcases(aRi m.cells g hg id ob h1).2 with ⟨cs,h3,rfl,h4⟩|⟨h3,hrow⟩
     ·obtain⟨b,c,ty,h5,h6,h7,h8,h9⟩:=hR.objs _ _ h3;refine⟨b,c,ty,by rw[h2 (.ob id) rfl];exact h5,h6,h7,by rw[aJS];exact h8,fun k hk=>?_⟩;have hk':k<cs.length:=by rw[aJS] at hk;exact hk
      rw[bBr _ _ _ _ _ hk',Nat.zero_add];unfold aJT;cases hid':qA m.own id k with
      |some id'=>
       obtain⟨τ,hm⟩:=bFd hid';obtain⟨u,h10,⟨l',b',c',ty',h11,h12,h13,h14,h15⟩,h16⟩:=P.slots _ _ _ hm;rw[h5] at h12;simp only[Option.some.injEq,Prod.mk.injEq,true_and,Value.pointer.injEq,Addr.mk.injEq,and_true] at h12;subst h12;rw[h7] at h13;simp only[Option.some.injEq,Obj.cells.injEq] at h13;obtain⟨rfl,rfl,_⟩:=h13;rw[h15];exact .osl id' 0 u h10 h16
      |none=>exact vZ (bBs cs 0 h4 k hk' (by rw[Nat.zero_add];exact hid')) hp hst (h9 k hk')
     ·have h5:=hR.objs _ _ h3;rcases hrow with ⟨t,q,xs,rfl⟩|⟨t,q,xs,k,m',gm,rfl,hpm⟩|⟨k,d,rfl⟩
      ·obtain⟨u,cs,r1,r2,r3,r4⟩:=h5;exact⟨u,cs,by rw[h2 (.ob id) rfl];exact r1,r2,r3,fun i hi k hk=>flat (E.enc_flat t _ _ (List.getElem_mem hk)).1 (r4 i hi k hk)⟩
      ·obtain⟨u,cs,r1,r2,r3,r4,r5,r6,r7⟩:=h5;exact⟨u,cs,by rw[h2 (.ob id) rfl];exact r1,r2,r3,r4,r5,vZ (p:=fun i=>m.cells.any (Nat.beq i)) (x:=.osl m' gm) hpm hp hst r6,fun i hi hik k hk=>flat (E.enc_flat t _ _ (List.getElem_mem hk)).1 (r7 i hi hik k hk)⟩
      ·exact eG.closed (w:=w) (ob:=.opq k d) rfl (h2 (.ob id) rfl) (fun j=>h2 (.mem id j) rfl) (fun b hb=>hb) h5
    ·refine h2.join (Nat.le_refl _) (fun _ _=>rfl) rfl (fun _=>rfl) (fun t z c v _ _ hc hv=>?_);exact(hv.flat (ρ':=ρ') (E.enc_flat t z c hc).1).mono (fun b hb=>⟨hst b hb,rfl⟩) (fun _ _ _ hr=>.inl hr)
   ·obtain⟨j,q0,_,hr'⟩:=P.src nm q u b hr hb;exact hR.free _ _ _ _ hr' hb
  ·cases hc
 ·cases hc
end
end Go.Vm
namespace Go.Vm
open Go.RowKit
set_option linter.unusedVariables false
inductive AEx where
 |normal
 |exit (id:Nat)
 |ret
def AEx.to:AEx->Exit
 | .normal=>.normal
 | .exit id=>.exit id
 | .ret=>.ret
section
variable {U:dH}
def aEP (C:Cfg U) (s:ASt U):ResultVar->Option (aB U)
 | .tmp x=>some (s.look x)
 | .cell x t'=>match behind C.E s.objs (s.look x) with
  |some (l,off)=>partOf C.P t' l off
  |none=>none
def jM (lvl t:Nat):Bool:=Nat.ble lvl t&&Nat.blt t (lvl+1000000)
def hSub (lvl t:Nat):Nat:=t-lvl
def hAdd (lvl t:Nat):Nat:=t+lvl
def ASt.enter (s:ASt U) (lvl:Nat) (xs:List (aB U)):ASt U:=
 ⟨fun t=>cond (Nat.blt t 1000000) (xs.getD t (.raw undef)) (cond (jM lvl t) (s.tmps (hSub lvl t)) (s.tmps t)),s.objs⟩
def ASt.leave (s:ASt U) (lvl:Nat):ASt U:=
 ⟨fun t=>cond (Nat.blt t 1000000) (s.tmps (hAdd lvl t)) (cond (jM lvl t) .any (s.tmps t)),s.objs⟩
def Fr.hold (F:Fr) (lvl:Nat) (a:Act):Fr:={F with hv:=fun t=>cond (jM lvl t) (a.tmps.getD (hSub lvl t) undef) (F.hv t),ds:=[]}
def aBO (C:Cfg U) (s:ASt U):List ResultVar->Option (List (aB U))
 |[]=>some []
 |r::rs=>match aEP C s r,aBO C s rs with
  |some x,some xs=>some (x::xs)
  |_,_=>none
def aBN (C:Cfg U) (s:ASt U) (fn:Func):Option (aB U):=
 match aBO C s fn.results.toList with
 |some [x]=>some x
 |some l=>some (.tup l)
 |none=>none
abbrev oW (U:dH):=Nat->Func->Code->ASt U->(AEx->ASt U->Prop)->Prop
def kG:List Oper->List Oper×Option (Oper×List Oper)
 |[]=>([],none)
 |o::r=>match o.guard,o.op with
  |none,.call c=>match c.callee with
   | .value _=>([],some (o,r))
   |_=>(o::(kG r).1,(kG r).2)
  |_,_=>(o::(kG r).1,(kG r).2)
def aTR (C:Cfg U) (s:ASt U) (o:Oper):Option (Func×Code×List (aB U)):=
 match o.op with
 | .call c=>match c.callee with
  | .value x=>match s.eval x with
   | .fn f caps=>match C.inl f with
    |some (fn,code)=>some (fn,code,c.args.toList.map s.eval++caps)
    |none=>none
   |_=>none
  |_=>none
 |_=>none
def aLm (X:oW U) (C:Cfg U) (n:Nat) (o:Oper) (s:ASt U) (K:ASt U->Prop):Prop:=
 match aTR C s o with
 |some (fn,code,xs)=>cond (lV n o&&Nat.ble xs.length fn.ntmps&&Nat.ble fn.ntmps 1000000&&Nat.ble 1000000 C.hb)
   (X (1000*(C.off+1+o.dst.getD 999)) fn code (s.enter C.hb xs) fun e s2=>match e with
    | .exit _=>False
    |_=>match aBN C s2 fn with
     |some r=>K ((s2.leave C.hb).put o.dst r)
     |none=>False) False
 |none=>match step C n s o with
  |some (cs,s')=>both cs (K s')
  |none=>False
def aBK (X:oW U) (C:Cfg U) (n:Nat) (ops:Array Oper):Nat->List Oper->ASt U->(ASt U->Prop)->Prop
 |0,_,_,_=>False
 |f+1,l,s,K=>match kG l with
  | (l1,none)=>match nS C n ops (l1.length+1) [] l1 s with
   |some (cs,s')=>both cs (K s')
   |none=>False
  | (l1,some (o,l2))=>match nS C n ops (l1.length+1) [] l1 s with
   |some (cs,s1)=>both cs (aLm X C n o s1 fun s2=>aBK X C n ops f l2 s2 K)
   |none=>False
variable {n n':Nat} {N:Nat->Prop} {w0:Fr} {w w':World} {ρ ρ':Own} {s s':ASt U} {a a':Act} {C:Cfg U}
theorem aLz {a b:Nat} (h:a<b):Nat.blt a b=true:=Nat.ble_eq_true_of_le h
theorem aCh {a b:Nat} (h:¬a<b):Nat.blt a b=false:=by
 cases hb:Nat.blt a b
 ·rfl
 ·exact absurd (Nat.le_of_ble_eq_true hb) h
theorem bK9 {a b:Nat} (h:Nat.ble a b=true):a<=b:=Nat.le_of_ble_eq_true h
theorem bK8 {a b:Nat} (h:Nat.blt a b=true):a<b:=Nat.le_of_ble_eq_true h
theorem bLD {l t:Nat} (h:t<1000000):l<=t+l/\t+l<l+1000000:=by omega
theorem bLC {l t:Nat} (hl:1000000<=l) (h1:l<=t) (h2:t<l+1000000):1000000<=t/\t-l<1000000:=by omega
theorem bLB {l t:Nat} (hl:1000000<=l):¬t+l<1000000:=by omega
theorem bGD {lvl t:Nat} (h:t<1000000):jM lvl (hAdd lvl t)=true:=by
 obtain⟨h1,h2⟩:=bLD (l:=lvl) h;unfold jM hAdd;rw[Nat.ble_eq_true_of_le h1,aLz h2];rfl
theorem bGC {lvl t:Nat} (hl:1000000<=lvl) (h:jM lvl t=true):1000000<=t/\hSub lvl t<1000000:=by
 unfold jM at h;unfold hSub;rw[Bool.and_eq_true] at h;exact bLC hl (bK9 h.1) (bK8 h.2)
theorem bGK {lvl:Nat} (hl:1000000<=lvl) (t:Nat):¬hAdd lvl t<1000000:=bLB hl
theorem bGJ (lvl t:Nat):hSub lvl (hAdd lvl t)=t:=by
 unfold hSub hAdd;omega
theorem aIT {F:Fr} {t:Nat} (h:t<1000000):a.iA F t=a.tmps.getD t undef:=j3 h
theorem uZ {F:Fr} {t:Nat} (h:¬t<1000000):a.iA F t=F.hv t:=by
 unfold Act.iA;rw[aCh h];rfl
theorem aTX {F:Fr} {lvl t:Nat} (h:jM lvl t=true):(F.hold lvl a).hv t=a.tmps.getD (hSub lvl t) undef:=by
 have e:∀x y:Value,cond (jM lvl t) x y=x:=fun x y=>by rw[h];rfl
 exact e _ _
theorem aTW {F:Fr} {lvl t:Nat} (h:jM lvl t=false):(F.hold lvl a).hv t=F.hv t:=by
 have e:∀x y:Value,cond (jM lvl t) x y=y:=fun x y=>by rw[h];rfl
 exact e _ _
theorem bHw {lvl t:Nat} {xs:List (aB U)} (h:t<1000000):(s.enter lvl xs).tmps t=xs.getD t (.raw undef):=by
 unfold ASt.enter;simp only[aLz h,cond_true]
theorem bHx {lvl t:Nat} {xs:List (aB U)} (h:¬t<1000000) (hh:jM lvl t=true):(s.enter lvl xs).tmps t=s.tmps (hSub lvl t):=by
 unfold ASt.enter;simp only[aCh h,hh,cond_true,cond_false]
theorem bHv {lvl t:Nat} {xs:List (aB U)} (h:¬t<1000000) (hh:jM lvl t=false):(s.enter lvl xs).tmps t=s.tmps t:=by
 unfold ASt.enter;simp only[aCh h,hh,cond_false]
theorem bFL {lvl t:Nat} (h:t<1000000):(s.leave lvl).tmps t=s.tmps (hAdd lvl t):=by
 unfold ASt.leave;simp only[aLz h,cond_true]
theorem bFM {lvl t:Nat} (h:¬t<1000000) (hh:jM lvl t=true):(s.leave lvl).tmps t=.any:=by
 unfold ASt.leave;simp only[aCh h,hh,cond_true,cond_false]
theorem bFK {lvl t:Nat} (h:¬t<1000000) (hh:jM lvl t=false):(s.leave lvl).tmps t=s.tmps t:=by
 unfold ASt.leave;simp only[aCh h,hh,cond_false]
def aDH (fn:Func) (args:Array Value):Act:={tmps:=args++Array.replicate (fn.ntmps-args.size) undef,defers:=[]}
theorem aWY {E:Enc U} {st:Nat->Prop} {fn:Func} {xs:List (aB U)} {args:Array Value} (hn:args.size=xs.length) (hx:∀k (h:k<xs.length),Rel E w ρ st xs[k] (args.getD k undef)) (t:Nat):
  Rel E w ρ st (xs.getD t (.raw undef)) ((aDH fn args).tmps.getD t undef):=by
 have e0:(aDH fn args).tmps=args++Array.replicate (fn.ntmps-args.size) undef:=rfl;rw[e0]
 by_cases ht:t<xs.length
 ·have e1:xs.getD t (.raw undef)=xs[t]:=by simp[ht]
  have e2:(args++Array.replicate (fn.ntmps-args.size) undef).getD t undef=args.getD t undef:=by
   have:t<args.size:=by omega
   simp[Array.getElem?_append,this]
  rw[e1,e2];exact hx t ht
 ·have e1:xs.getD t (.raw undef)=.raw undef:=by
   have:xs.length<=t:=by omega
   simp[this]
  have e2:(args++Array.replicate (fn.ntmps-args.size) undef).getD t undef=undef:=by
   have h2:¬t<args.size:=by omega
   simp only[Array.getD_eq_getD_getElem?,Array.getElem?_append,if_neg h2]
   by_cases h3:t-args.size<fn.ntmps-args.size
   ·simp[h3]
   ·simp[h3]
  rw[e1,e2];exact .raw _
theorem aTS {E:Enc U} {st:Nat->Prop} {fn:Func} {F:Fr} {xs:List (aB U)} {args:Array Value} (hv:∀t,F.hv t=undef) (hl:xs.length<=fn.ntmps) (hle:fn.ntmps<=1000000) (hn:args.size=xs.length) (hx:∀k (h:k<xs.length),Rel E w ρ st xs[k] (args.getD k undef)) (t:Nat):
  Rel E w ρ st (xs.getD t (.raw undef)) ((aDH fn args).iA F t):=by
 by_cases hlt:t<1000000
 ·rw[aIT hlt];exact aWY hn hx t
 ·rw[uZ hlt,hv];have hge:xs.length<=t:=Nat.le_trans hl (Nat.le_trans hle (Nat.le_of_not_lt hlt));have e1:xs.getD t (.raw undef)=.raw undef:=by simp[hge]
  rw[e1];exact .raw _
theorem RR.enter {E:Enc U} (h:RR E n N w0 ρ s a w) (lvl:Nat) (hlv:1000000<=lvl) {fn:Func} {xs:List (aB U)} {args:Array Value} (hn:args.size=xs.length) (hx:∀k (h:k<xs.length),Rel E w ρ (aM N ρ w) xs[k] (args.getD k undef)) (hl:xs.length<=fn.ntmps) (hle:fn.ntmps<=1000000):
  RR E fn.ntmps N (w0.hold lvl a) ρ (s.enter lvl xs) (aDH fn args) w:=by
 refine⟨rfl,by simp[aDH];omega,fun t=>?_,h.objs,h.dom,h.sep,h.below,h.nlt,h.kept,h.free,h.pin,hle⟩
 by_cases hlt:t<1000000
 ·rw[bHw hlt,aIT hlt];exact aWY hn hx t
 ·cases hh:jM lvl t with
  |true=>
   rw[bHx hlt hh,uZ hlt,aTX hh];have:=h.tmps (hSub lvl t);rw[j3 (bGC hlv hh).2] at this;exact this
  |false=>
   rw[bHv hlt hh,uZ hlt,aTW hh];have:=h.tmps t;rw[uZ hlt] at this;exact this
theorem RR.leave {E:Enc U} (h0:RR E n N w0 ρ s a w) {lvl:Nat} (hlv:1000000<=lvl) (h:RR E n' N (w0.hold lvl a) ρ' s' a' w'):RR E n N w0 ρ' (s'.leave lvl) a w':=by
 refine⟨h0.defers,h0.size,fun t=>?_,h.objs,h.dom,h.sep,h.below,h.nlt,h.kept,h.free,h.pin,h0.nle⟩
 by_cases hlt:t<1000000
 ·rw[bFL hlt,aIT hlt];have h1:=h.tmps (hAdd lvl t);rw[uZ (bGK hlv t),aTX (bGD hlt),bGJ] at h1;exact h1
 ·cases hh:jM lvl t with
  |true=>
   rw[bFM hlt hh];exact .any _
  |false=>
   rw[bFK hlt hh,uZ hlt];have h1:=h.tmps t;rw[uZ hlt,aTW hh] at h1;exact h1
theorem aNU (hR:RR C.E n N w0 ρ s a w) {r:ResultVar} {y:aB U} (h:aEP C s r=some y):
  ∃v,(match r with
   | .tmp t=>pure (a.tmps.getD t undef)
   | .cell x t=>do loadVar t (<- asAddr (a.tmps.getD x undef)):Sem Value).run C.P w=.ok v w/\Rel C.E w ρ (aM N ρ w) y v:=by
 unfold aEP at h;split at h
 ·rename_i x;cases h;exact⟨_,rfl,hR.look x⟩
 ·rename_i x t';split at h
  ·rename_i l off hb;obtain⟨b,o,f,hp,hat⟩:=aWD hR (fun _ _ h=>h) (hR.look x) hb;obtain⟨u,hrun,hu⟩:=aR2 (P:=C.P) h hat;refine⟨u,?_,hu⟩;rw[hp];simp only[asAddr,Sem.run_bind,Sem.run_pure,Result.andThen_ok,hrun]
  ·cases h
theorem bA7 (hR:RR C.E n N w0 ρ s a w):∀(rs:List ResultVar) (xs:List (aB U)),aBO C s rs=some xs->∃vs,(rs.mapM (fun
   | .tmp t=>pure (a.tmps.getD t undef)
   | .cell x t=>do loadVar t (<- asAddr (a.tmps.getD x undef))):Sem (List Value)).run C.P w=.ok vs w/\vs.length=xs.length/\∀k (h:k<xs.length),Rel C.E w ρ (aM N ρ w) xs[k] (vs.getD k undef):=by
 intro rs
 induction rs with
 |nil=>
  intro xs h;cases h;exact⟨[],rfl,rfl,fun k hk=>absurd hk (by simp)⟩
 |cons r rs ih=>
  intro xs h;simp only[aBO] at h;split at h
  ·rename_i x ys hx hys;cases h;obtain⟨vs,h1,h2,h3⟩:=ih ys hys;obtain⟨v,h4,h5⟩:=aNU hR hx;refine⟨v::vs,?_,by simp[h2],fun k hk=>?_⟩
   ·rw[List.mapM_cons];simp only[Sem.run_bind];refine Eq.trans (congrArg (fun r:Result Value=>r.andThen _) h4) ?_;simp only[Result.andThen_ok];refine Eq.trans (congrArg (fun r:Result (List Value)=>r.andThen _) h1) ?_;rfl
   ·cases k with
    |zero=>exact h5
    |succ k=>exact h3 k (by simpa using hk)
  ·cases h
theorem bA6 (hR:RR C.E n N w0 ρ s a w) {fn:Func} {r:aB U} (h:aBN C s fn=some r):∃v,(results fn a.tmps).run C.P w=.ok v w/\Rel C.E w ρ (aM N ρ w) r v:=by
 have main:∀l,aBO C s fn.results.toList=some l->∃vs:List Value,(fn.results.mapM (fun
   | .tmp t=>pure (a.tmps.getD t undef)
   | .cell x t=>do loadVar t (<- asAddr (a.tmps.getD x undef))):Sem (Array Value)).run C.P w=.ok vs.toArray w/\vs.length=l.length/\∀k (h:k<l.length),Rel C.E w ρ (aM N ρ w) l[k] (vs.getD k undef):=fun l hl=>by
  obtain⟨vs,h1,h2,h3⟩:=bA7 hR _ l hl;refine⟨vs,?_,h2,h3⟩;rw[Array.mapM_eq_mapM_toList];simp only[Sem.run_map];rw[h1];rfl
 unfold aBN at h;split at h
 ·rename_i x hx;cases h;obtain⟨vs,h1,h2,h3⟩:=main _ hx
  match vs,h2 with
  |[v],_=>
   refine⟨v,?_,h3 0 (by simp)⟩;simp only[results,Sem.run_bind];exact Eq.trans (congrArg (fun r:Result (Array Value)=>r.andThen _) h1) rfl
 ·rename_i l hne hl;cases h;obtain⟨vs,h1,h2,h3⟩:=main _ hl;refine⟨.tuple vs.toArray,?_,.tup _ vs.toArray (by simpa using h2) (fun k hk=>by simpa using h3 k hk)⟩;have hn:¬vs.toArray.size=1:=fun e=>by
   have hl1:l.length=1:=by rw[<- h2];simpa using e
   match l,hl1 with
   |[x],_=>exact hne x rfl
  simp only[results,Sem.run_bind];refine Eq.trans (congrArg (fun r:Result (Array Value)=>r.andThen _) h1) ?_;simp only[Result.andThen_ok,dif_neg hn];rfl
 ·cases h
def aDM (C:Cfg U) (N:Nat->Prop) (W:World) (pin:Nat->Option (Nat×Value)) (X:oW U):Prop:=
 ∀(off:Nat) (fn:Func) (c:Code) (s:ASt U) (K:AEx->ASt U->Prop) (F:Fr) (ρ:Own) (a:Act) (w:World) (Q:Exit->Act->World->Prop),F.w0=W->F.pin=pin->X off fn c s K->RR C.E fn.ntmps N F ρ s a w->
  (∀e s' ρ' a' w',K e s'->RR C.E fn.ntmps N F ρ' s' a' w'->Q e.to a' w')->c.wp C.P Q a w
theorem aYZ:∀{l l1:List Oper},kG l=(l1,none)->l=l1:=by
 intro l
 induction l with
 |nil=>intro l1 h;cases h;rfl
 |cons o r ih=>
  intro l1 h;have rest:((o::(kG r).1,(kG r).2):List Oper×Option (Oper×List Oper))=(l1,none)->o::r=l1:=fun h=>by
   simp only[Prod.mk.injEq] at h;rw[<- h.1,<- ih (l1:=(kG r).1) (by rw[<- h.2])]
  unfold kG at h;split at h
  ·split at h
   ·cases h
   ·exact rest h
  ·exact rest h
theorem aYY:∀{l l1 l2:List Oper} {o:Oper},kG l=(l1,some (o,l2))->l=l1++o::l2/\o.guard=none:=by
 intro l
 induction l with
 |nil=>intro l1 l2 o h;cases h
 |cons o r ih=>
  intro l1 l2 o' h;have rest:((o::(kG r).1,(kG r).2):List Oper×Option (Oper×List Oper))=(l1,some (o',l2))->o::r=l1++o'::l2/\o'.guard=none:=fun h=>by
   simp only[Prod.mk.injEq] at h;obtain⟨h1,h2⟩:=ih (l1:=(kG r).1) (l2:=l2) (o:=o') (by rw[<- h.2]);exact⟨by rw[<- h.1,List.cons_append,<- h1],h2⟩
  unfold kG at h;split at h
  ·rename_i hg _;split at h
   ·cases h;exact⟨rfl,hg⟩
   ·exact rest h
  ·exact rest h
theorem bIl {X:oW U} (hs:fR C w0) (hX:aDM C N w0.w0 w0.pin X) (hR:RR C.E n N w0 ρ s a w) {o:Oper} {K0:ASt U->Prop} (h:aLm X C n o s K0) {K:Act->World->Prop} {Q:Exit->Act->World->Prop}
  (hK:∀s' ρ' a' w',K0 s'->RR C.E n N w0 ρ' s' a' w'->K a' w'):o.wp C.P a w K Q:=by
 unfold aLm at h;split at h
 ·rename_i fn code xs hi;obtain⟨hb,h⟩:(lV n o&&Nat.ble xs.length fn.ntmps&&Nat.ble fn.ntmps 1000000&&Nat.ble 1000000 C.hb)=true/\_:=by
   cases hb:(lV n o&&Nat.ble xs.length fn.ntmps&&Nat.ble fn.ntmps 1000000&&Nat.ble 1000000 C.hb) with
   |false=>rw[hb] at h;exact h.elim
   |true=>rw[hb] at h;exact⟨rfl,h⟩
  simp only[Bool.and_eq_true] at hb;obtain⟨⟨⟨hd,hl⟩,hle⟩,hlv⟩:=hb;have hlv:=Nat.le_of_ble_eq_true hlv;have hl:=Nat.le_of_ble_eq_true hl;have hle:=Nat.le_of_ble_eq_true hle;obtain⟨dst,op,ty,pos,after,guard⟩:=o;unfold aTR at hi;split at hi
  ·rename_i c hop;simp only at hop;subst hop;obtain⟨callee,args,argTypes⟩:=c;simp only at hi;split at hi
   ·rename_i xo h';split at hi
    ·rename_i f caps hxe;split at hi
     ·rename_i fn' code' hinl;cases hi;obtain⟨hf,hbody,hcall⟩:=C.inlOK _ _ _ hinl;have hxr:=hR.eval xo;rw[hxe] at hxr;generalize hfv:a.eval xo=fv at hxr;cases hxr with
      |fn _ _ vs hvn hvl=>
      have hargsz:(args.map a.eval++vs).size=(args.toList.map s.eval++caps).length:=by simp[hvn]
      refine aIA (f:=f) (args:=args.map a.eval++vs) ?_ (calls_of_wp hf hbody ?_)
      ·have e:#[]++args.map a.eval=args.map a.eval:=by simp
       simp[execOp,resolve,hfv,Deferred.ofValue,invoke,hcall]
      ·have hRe:=hR.enter C.hb hlv (fn:=fn) hargsz (fun k hk=>by
        by_cases hk':k<args.size
        ·have e:(args.map a.eval++vs).getD k undef=a.eval args[k]:=by simp[Array.getElem?_append,hk']
         rw[e];rw[List.getElem_append_left (by simpa using hk')];simp only[List.getElem_map,Array.getElem_toList];exact hR.eval _
        ·have cW:k-args.size<caps.length:=by simp at hk;omega
         have e:(args.map a.eval++vs).getD k undef=vs.getD (k-args.size) undef:=by
          have:k-args.size<vs.size:=by omega
          simp[Array.getElem?_append,hk']
         rw[e,List.getElem_append_right (by simp;omega)];have:=hvl (k-args.size) cW;simpa using this) hl hle
       refine hX _ fn code _ _ (w0.hold C.hb a) ρ _ w _ rfl rfl h hRe (fun e s' ρ' a' w' hK' hR'=>?_);have fin:(match aBN C s' fn with
        |some r=>K0 ((s'.leave C.hb).put dst r)
        |none=>False)->a'.defers=[]/\∃v,(results fn a'.tmps).run C.P w'=.ok v w'/\∃v_1,Ending.returned v=.returned v_1/\K (a.put dst v_1) w':=fun hK'=>by
        split at hK'
        ·rename_i r hr;obtain⟨v,h1,h2⟩:=bA6 hR' hr;exact⟨hR'.defers,v,h1,v,rfl,hK _ ρ' _ _ hK' ((hR.leave hlv hR').put dst (qH hd) h2)⟩
        ·exact hK'.elim
       cases e with
       |normal=>exact fin hK'
       |exit id=>exact hK'.elim
       |ret=>exact fin hK'
     ·cases hi
    ·cases hi
   ·cases hi
  ·cases hi
 ·split at h
  ·rename_i cs s' hst;obtain⟨hc,hk⟩:=aCg h;exact aMz hs hR hst hc (fun ρ' a' w' hR'=>hK _ ρ' a' w' hk hR')
  ·exact h.elim
theorem bA5 {X:oW U} {ops:Array Oper} (hs:fR C w0) (hX:aDM C N w0.w0 w0.pin X) {Q:Exit->Act->World->Prop}:∀(f:Nat) (l:List Oper) (s:ASt U) (K0:ASt U->Prop) (ρ:Own) (a:Act) (w:World),aBK X C n ops f l s K0->RR C.E n N w0 ρ s a w->
  ∀(K:Act->World->Prop),(∀s' ρ' a' w',K0 s'->RR C.E n N w0 ρ' s' a' w'->K a' w')->wpl C.P ops Q l K a w:=by
 intro f
 induction f with
 |zero=>intro l s K0 ρ a w h;exact h.elim
 |succ f ih=>
  intro l s K0 ρ a w h hR K hK;unfold aBK at h;split at h
  ·rename_i l1 hsp;obtain rfl:=aYZ hsp;split at h
   ·rename_i cs s' hrun;obtain⟨hc,hk⟩:=aCg h;exact aLs _ C hs _ _ _ _ _ hrun hc ρ a w hR K (fun ρ' a' w' hR'=>hK _ ρ' a' w' hk hR')
   ·exact h.elim
  ·rename_i l1 o l2 hsp;obtain⟨rfl,hg⟩:=aYY hsp;split at h
   ·rename_i cs s1 hrun;obtain⟨hc,hk⟩:=aCg h;refine aDP l1 (o::l2) (aLs _ C hs _ _ _ _ _ hrun hc ρ a w hR _ (fun ρ1 a1 w1 hR1=>?_));unfold wpl;have hw:Region.wanted o (yielded ops a1.tmps)=true:=by
     unfold Region.wanted;rw[hg]
    rw[if_pos hw];exact bIl hs hX hR1 hk (fun s2 ρ2 a2 w2 h2 hR2=>ih l2 s2 K0 ρ2 a2 w2 h2 hR2 K hK)
   ·exact h.elim
end
end Go.Vm
namespace Go.Vm
open Go.RowKit
set_option linter.unusedVariables false
section
variable {U:dH}
def iter (B:ASt U->(AEx->ASt U->Prop)->Prop) (m:Nat->Canon U):Nat->Nat->ASt U->(AEx->ASt U->Prop)->Prop
 |0,_,_,_=>False
 |f+1,r,s,K=>B s fun e s'=>match e with
  | .normal=>match canon (m (r+1)) s' with
   |some s''=>iter B m f (r+1) s'' K
   |none=>False
  |e=>match canon (m r) s' with
   |some s''=>K e s''
   |none=>False
def ASt.aFT (s:ASt U) (c:Operand) (b:Bool):ASt U:=
 match c with
 | .tmp t=>s.set t (.bool b)
 |_=>s
theorem ASt.aRh {s:ASt U} {c:Operand} {b:Bool} (h:s.eval c=.bool b):s.aFT c b=s:=by
 unfold ASt.aFT;split
 ·rename_i t;have hb:s.tmps t=.bool b:=(aKK (show s.look t=.bool b from h) (fun e=>by cases e)).2;have:(s.set t (.bool b)).tmps=s.tmps:=funext fun u=>by
   show cond (Nat.beq u t) (.bool b) (s.tmps u)=s.tmps u
   by_cases ht:u=t
   ·subst ht;rw[Nat.beq_refl];exact hb.symm
   ·rw[fG ht];rfl
  exact congrArg (ASt.mk · s.objs) this
 ·rfl
def bW (X:oW U) (C:Cfg U) (n:Nat) (M:Nat->Nat->Nat->Canon U) (fuel:Nat):Nat->Code->ASt U->(AEx->ASt U->Prop)->Prop
 |_,.skip,s,K=>K .normal s
 |_,.region _ ops false,s,K=>match C.dep with
  |0=>match nS C n ops (ops.toList.length+1) [] ops.toList s with
   |some (cs,s')=>both cs (K .normal s')
   |none=>False
  |_+1=>aBK X C n ops (ops.toList.length+1) ops.toList s fun s'=>K .normal s'
 |_,.region _ ops true,s,K=>pD C n ops ops.toList [] s fun es s'=>cond (xE ops ops.toList [] es) (K .normal s') False
 |cur,.seq x y,s,K=>bW X C n M fuel cur x s fun e s'=>match e with
  | .normal=>bW X C n M fuel cur y s' K
  |e=>K e s'
 |cur,.cond c x y,s,K=>match s.eval c with
  | .bool b=>match b with
   |true=>bW X C n M fuel cur x (s.aFT c true) K
   |false=>bW X C n M fuel cur y (s.aFT c false) K
  |_=>False
 |_,.block id c,s,K=>bW X C n M fuel id c s fun e s'=>match e with
  | .exit id'=>cond (Nat.beq id' id) (K .normal s') (K (.exit id') s')
  |e=>K e s'
 |cur,.loop c,s,K=>match canon (M C.off cur 0) s with
  |some s'=>iter (bW X C n M fuel cur c) (M C.off cur) fuel 0 s' K
  |none=>False
 |_,.exit id,s,K=>K (.exit id) s
 |_,.ret,s,K=>K .ret s
 |_,_,_,_=>False
def Cfg.at (C:Cfg U) (off:Nat):Cfg U:={C with off:=off,hb:=C.hb+1000000}
def bC (M:Nat->Nat->Nat->Canon U) (fuel:Nat):Nat->Cfg U->oW U
 |0,_=>fun _ _ _ _ _=>False
 |d+1,C=>fun off fn c s K=>bW (bC M fuel d (C.at off)) (C.at off) fn.ntmps M fuel 0 c s K
def exec (C:Cfg U) (n:Nat) (M:Nat->Nat->Nat->Canon U) (fuel:Nat) (cur:Nat) (c:Code) (s:ASt U) (K:AEx->ASt U->Prop):Prop:=bW (bC M fuel C.dep C) C n M fuel cur c s K
variable {n:Nat} {N:Nat->Prop} {w0:Fr} {w w':World} {ρ ρ':Own} {s s':ASt U} {a:Act} {C:Cfg U} {M:Nat->Nat->Nat->Canon U} {fuel:Nat}
theorem bFa {B:ASt U->(AEx->ASt U->Prop)->Prop} {c:Code} {m:Nat->Canon U} (hpin:∀r id u,w0.pin id=some u->id∈(m r).cells)
  (hB:∀(s:ASt U) (K:AEx->ASt U->Prop) (ρ:Own) (a:Act) (w:World) (Q:Exit->Act->World->Prop),B s K->RR C.E n N w0 ρ s a w->(∀e s' ρ' a' w',K e s'->RR C.E n N w0 ρ' s' a' w'->Q e.to a' w')->c.wp C.P Q a w):
  ∀(f r:Nat) (s:ASt U) (K:AEx->ASt U->Prop) (ρ:Own) (a:Act) (w:World) (Q:Exit->Act->World->Prop),iter B m f r s K->RR C.E n N w0 ρ s a w->(∀e s' ρ' a' w',K e s'->RR C.E n N w0 ρ' s' a' w'->Q e.to a' w')->Code.rounds C.P c Q f a w:=by
 intro f
 induction f with
 |zero=>intro r s K ρ a w Q h;exact h.elim
 |succ f ih=>
  intro r s K ρ a w Q h hR hQ;rw[rounds_succ];refine hB s _ ρ a w _ h hR (fun e s' ρ' a' w' hK hR'=>?_);cases e with
  |normal=>
   simp only at hK;split at hK
   ·rename_i s'' hc;obtain⟨ρ'',hR''⟩:=aC7 hR' hc (hpin _);exact ih (r+1) s'' K ρ'' a' w' Q hK hR'' hQ
   ·exact hK.elim
  |exit id=>
   simp only at hK;split at hK
   ·rename_i s'' hc;obtain⟨ρ'',hR''⟩:=aC7 hR' hc (hpin _);exact hQ _ _ _ _ _ hK hR''
   ·exact hK.elim
  |ret=>
   simp only at hK;split at hK
   ·rename_i s'' hc;obtain⟨ρ'',hR''⟩:=aC7 hR' hc (hpin _);exact hQ _ _ _ _ _ hK hR''
   ·exact hK.elim
theorem aV7 {X:oW U} (hs:fR C w0) (hX:aDM C N w0.w0 w0.pin X) (hmix:C.P.follows .mixedOrders=true) (hpin:∀off cur r id u,w0.pin id=some u->id∈(M off cur r).cells):∀(c:Code) (cur:Nat) (s:ASt U) (K:AEx->ASt U->Prop) (ρ:Own) (a:Act) (w:World) (Q:Exit->Act->World->Prop),
  bW X C n M fuel cur c s K->RR C.E n N w0 ρ s a w->(∀e s' ρ' a' w',K e s'->RR C.E n N w0 ρ' s' a' w'->Q e.to a' w')->c.wp C.P Q a w:=by
 intro c
 induction c with
 |skip=>
  intro cur s K ρ a w Q h hR hQ;exact wp_skip (hQ .normal s ρ a w h hR)
 |region id ops draw=>
  intro cur s K ρ a w Q h hR hQ;cases draw with
  |false=>
   simp only[bW] at h;split at h
   ·split at h
    ·rename_i cs s' hrun;obtain⟨hc,hk⟩:=aCg h;exact wp_region (uL (aLs _ C hs _ _ _ _ _ hrun hc ρ a w hR _ (fun ρ' a' w' hR'=>hQ .normal s' ρ' a' w' hk hR')))
    ·exact h.elim
   ·exact wp_region (uL (bA5 hs hX _ _ s _ ρ a w h hR _ (fun s' ρ' a' w' hk hR'=>hQ .normal s' ρ' a' w' hk hR')))
  |true=>
   simp only[bW] at h;refine bIf hs hmix hR (K:=fun s'=>K .normal s') (cast ?_ h) (fun s' ρ' a' w' hk hR'=>hQ .normal s' ρ' a' w' hk hR');congr 1;funext es s';cases xE ops ops.toList [] es<;>simp
 |seq x y ihx ihy=>
  intro cur s K ρ a w Q h hR hQ;simp only[bW] at h;refine wp_seq (ihx cur s _ ρ a w _ h hR (fun e s' ρ' a' w' hK hR'=>?_));cases e with
  |normal=>exact ihy cur s' K ρ' a' w' Q hK hR' hQ
  |exit id=>exact hQ _ _ _ _ _ hK hR'
  |ret=>exact hQ _ _ _ _ _ hK hR'
 |cond c x y ihx ihy=>
  intro cur s K ρ a w Q h hR hQ;simp only[bW] at h;split at h
  ·rename_i b hb;have hc:=hR.eval c;rw[hb] at hc;refine wp_cond (aGc hc) ?_;cases b with
   |true=>
    simp only[ASt.aRh hb] at h;exact ihx cur s K ρ a w Q h hR hQ
   |false=>
    simp only[ASt.aRh hb] at h;exact ihy cur s K ρ a w Q h hR hQ
  ·exact h.elim
 |block id c ih=>
  intro cur s K ρ a w Q h hR hQ;simp only[bW] at h;refine wp_block (ih id s _ ρ a w _ h hR (fun e s' ρ' a' w' hK hR'=>?_));cases e with
  |normal=>exact hQ .normal _ _ _ _ hK hR'
  |exit id'=>
   simp only[kC] at hK;show Exit.inBlock id Q (.exit id') a' w';simp only[Exit.inBlock];split
   ·rename_i hi;rw[if_pos hi] at hK;exact hQ .normal _ _ _ _ hK hR'
   ·rename_i hi;rw[if_neg hi] at hK;exact hQ (.exit id') _ _ _ _ hK hR'
  |ret=>exact hQ .ret _ _ _ _ hK hR'
 |loop c ih=>
  intro cur s K ρ a w Q h hR hQ;simp only[bW] at h;split at h
  ·rename_i s' hc;obtain⟨ρ',hR'⟩:=aC7 hR hc (hpin _ _ _);exact wp_loop_rounds fuel (bFa (hpin _ cur) (fun s K ρ a w Q h hR hQ=>ih cur s K ρ a w Q h hR hQ) fuel 0 s' K ρ' a w Q h hR' hQ)
  ·exact h.elim
 |exit id=>
  intro cur s K ρ a w Q h hR hQ;exact wp_exit (hQ (.exit id) s ρ a w h hR)
 |ret=>
  intro cur s K ρ a w Q h hR hQ;exact wp_ret (hQ .ret s ρ a w h hR)
 |_=>
  intro cur s K ρ a w Q h hR hQ;exact h.elim
theorem bFs {W:World} {pin:Nat->Option (Nat×Value)} (hpin:∀off cur r id u,pin id=some u->id∈(M off cur r).cells):∀(d:Nat) (C:Cfg U),fR C W->C.P.follows .mixedOrders=true->aDM C N W pin (bC M fuel d C):=by
 intro d
 induction d with
 |zero=>intro C hs hmix off fn c s K F ρ a w Q hF hp h;exact h.elim
 |succ d ih=>
  intro C hs hmix off fn c s K F ρ a w Q hF hp h hR hQ;have jK:fR (C.at off) F:=by
   rw[show F.w0=W from hF];exact hs
  have hX:aDM (C.at off) N F.w0 F.pin (bC M fuel d (C.at off)):=by
   rw[hF,hp];exact ih (C.at off) hs hmix
  exact aV7 (C:=C.at off) (w0:=F) jK hX hmix (fun off cur r id u hu=>hpin off cur r id u (by rw[<- hp];exact hu)) c 0 s K ρ a w Q h hR hQ
theorem aGK (hs:fR C w0) (hmix:C.P.follows .mixedOrders=true) (hpin:∀off cur r id u,w0.pin id=some u->id∈(M off cur r).cells) (c:Code) (cur:Nat) (s:ASt U) (K:AEx->ASt U->Prop) (ρ:Own) (a:Act) (w:World) (Q:Exit->Act->World->Prop)
  (h:exec C n M fuel cur c s K) (hR:RR C.E n N w0 ρ s a w) (hQ:∀e s' ρ' a' w',K e s'->RR C.E n N w0 ρ' s' a' w'->Q e.to a' w'):c.wp C.P Q a w:=
 aV7 hs (bFs hpin C.dep C hs hmix) hmix hpin c cur s K ρ a w Q h hR hQ
def aIe (C:Cfg U) (look:Nat->Option (aV U)) (t:TypeId):aB U->Option (aB U)
 | .agg l=>match tV C look (bY C.P 20 t) l with
  |some (ys,_)=>some (.agg ys)
  |none=>none
 |x=>match aVz C look t x with
  |some (y,_)=>some y
  |none=>none
def aGE (C:Cfg U) (look:Nat->Option (aV U)) (t:TypeId):aB U->Option (aB U×List (cZ U×Option Nat))
 | .osl id g=>match look id with
  |some (.row t' g' xs)=>cond (Nat.beq g g') (some (.new t' xs,[(⟨false,t',xs⟩,some id)])) none
  |some (.deep t' g' _ xs)=>cond (Nat.beq g g') (some (.newd t' xs,[(⟨true,t',xs⟩,some id)])) none
  |_=>none
 | .nils=>match iD C t with
  |some τ=>match C.deep,C.E.inner τ,Nat.beq (U.size τ) 1 with
   |true,some _,true=>some (.newd τ [],[(⟨true,τ,[]⟩,none)])
   |_,_,_=>some (.new τ [],[(⟨false,τ,[]⟩,none)])
  |none=>none
 | .int k n=>some (.int k n,[])
 | .bool b=>some (.bool b,[])
 | .str s=>some (.str s,[])
 | .sl t xs=>some (.sl t xs,[])
 |_=>none
def aAM (C:Cfg U) (look:Nat->Option (aV U)):List TypeId->List (aB U)->Option (List (aB U)×List (cZ U×Option Nat))
 |[],[]=>some ([],[])
 |t::ts,v::vs=>match aGE C look t v,aAM C look ts vs with
  |some (y,is),some (ys,js)=>some (y::ys,is++js)
  |_,_=>none
 |_,_=>none
def aL5 (C:Cfg U) (look:Nat->Option (aV U)) (t:TypeId):aB U->Option (aB U×List (cZ U×Option Nat))
 | .agg l=>match aAM C look (bY C.P 20 t) l with
  |some (ys,is)=>some (.agg ys,is)
  |none=>none
 |x=>aGE C look t x
def aId (C:Cfg U) (fr:Bool) (s:ASt U) (t:TypeId) (r:ResultVar):Option (aB U×List (cZ U×Option Nat)):=
 match aEP C s r with
 |some x=>match fr with
  |true=>aL5 C s.objs t x
  |false=>match aIe C s.objs t x with
   |some y=>some (kM (fun _=>fI) 0 y,[])
   |none=>none
 |none=>none
def vL (C:Cfg U) (fr:Bool) (s:ASt U):List TypeId->List ResultVar->Option (List (aB U)×List (cZ U×Option Nat))
 |[],[]=>some ([],[])
 |t::ts,r::rs=>match aId C fr s t r,vL C fr s ts rs with
  |some (x,is),some (xs,js)=>some (x::xs,is++js)
  |_,_=>none
 |_,_=>none
def nG:List (cZ U×Option Nat)->Bool
 |[]=>true
 | (_,some i)::l=>!l.any (fun p=>match p.2 with
  |some j=>Nat.beq i j
  |none=>false)&&nG l
 | (_,none)::l=>nG l
def result (C:Cfg U) (fr:Bool) (fn:Func) (s:ASt U):Option (aB U):=
 match vL C fr s fn.resultTypes.toList fn.results.toList with
 |some ([x],is)=>match x with
  | .tup _=>none
  |x=>cond (nG is) (some x) none
 |some (l,is)=>cond (nG is) (some (.tup l)) none
 |none=>none
def cQ (xs:List (aB U)):ASt U:=⟨fun t=>xs.getD t (.raw undef),fun _=>none⟩
def bH (C:Cfg U) (fr:Bool) (fn:Func) (Post:aB U->Prop) (e:AEx) (s:ASt U):Prop:=
 match e with
 | .exit _=>False
 |_=>match result C fr fn s with
  |some r=>Post r
  |none=>False
theorem bA8 (hR:RR C.E n N w0 ρ s a w) {t:TypeId} {x y:aB U} {v:Value} (hx:Rel C.E w ρ (aM N ρ w) x v) (h:aIe C s.objs t x=some y):Rel C.E w bU (dJ N w) y v:=by
 unfold aIe at h;split at h
 ·rename_i l;split at h
  ·rename_i ys own hys;obtain rfl:=Option.some.inj h;cases hx with
   |agg _ vs hn hl=>
    obtain⟨h1,h2,_⟩:=aWJ hR (fun _ _ h=>h) _ l ys own vs.toList (by simpa using hn) (fun k hk=>by rw[kB];exact hl k hk) hys;exact .agg ys vs (by rw[hn,h1]) (fun k hk=>by have:=h2 k hk;rw[kB] at this;exact this)
  ·cases h
 ·split at h
  ·rename_i y' own hb;obtain rfl:=Option.some.inj h;exact(aWA hR (fun _ _ h=>h) 5 _ _ _ _ _ hx hb).1
  ·cases h
def dY (ρ:Own) (ids:List (cZ U×Option Nat)):Own:=fun nm=>
 match ids[nm.id]? with
 |some (x,some id)=>match nm with
  | .ob _=>(ρ (.ob id)).map fun p=>(0,p.2)
  | .mem _ i=>match x.1 with
   |true=>(ρ (.mem id i)).map fun p=>(0,p.2)
   |false=>none
 |some (_,none)=>match nm with
  | .ob _=>some (0,.slice none 0 0)
  | .mem _ _=>none
 |none=>none
def uH (C:Cfg U) (s:ASt U) (p:cZ U×Option Nat):Prop:=
 match p.2 with
 |some id=>match p.1 with
  |⟨false,t,xs⟩=>∃g,s.objs id=some (.row t g xs)
  |⟨true,t,xs⟩=>∃g gm,s.objs id=some (.deep t g gm xs)
 |none=>p.1.2.2=[]/\(p.1.1=true->U.size p.1.2.1=1)
theorem aVX (hR:RR C.E n N w0 ρ s a w) {ids:List (cZ U×Option Nat)} {t:TypeId} {x y:aB U} {is:List (cZ U×Option Nat)} {v:Value} {st':Nat->Prop} (hst0:∀b,aM N ρ w b->st' b) (h:aGE C s.objs t x=some (y,is)) (hx:Rel C.E w ρ (aM N ρ w) x v):
  is.map (·.1)=fE y/\(∀p∈is,uH C s p)/\(∀l,y≠ .agg l)/\(∀l,y≠ .tup l)/\∀k,(∀j,j<is.length->ids[k+j]?=is[j]?)->Rel C.E w (dY ρ ids) st' (fM (fun k=>k) k y) v:=by
 unfold aGE at h;split at h
 ·split at h
  ·rename_i id g _ t' g' xs hl;obtain⟨hb,h⟩:=bI h;cases h;obtain rfl:=Nat.eq_of_beq_eq_true hb;refine⟨rfl,fun p hp=>?_,(fun l e=>by cases e),(fun l e=>by cases e),fun k hk=>?_⟩
   ·simp only[List.mem_singleton] at hp;subst hp;exact⟨g,hl⟩
   ·have h0:=hk 0 (by simp);rw[Nat.add_zero] at h0;obtain⟨u,cs',q1,q2,_⟩:=hR.objs _ _ hl;have hu:u=v:=by
     cases hx with
     |osl _ _ u' hr' hp'=>
      rw[q1] at hr';simpa using hr'
     |oslOld _ _ g' u' v hr' hg=>
      rw[q1] at hr';simp only[Option.some.injEq,Prod.mk.injEq] at hr';omega
    subst hu;refine .osl k 0 u ?_ q2;unfold dY;rw[show (Name.ob k).id=k from rfl,h0];simp[q1]
  ·rename_i id g _ t' g' gm xs hl;obtain⟨hb,h⟩:=bI h;cases h;obtain rfl:=Nat.eq_of_beq_eq_true hb;refine⟨rfl,fun p hp=>?_,(fun l e=>by cases e),(fun l e=>by cases e),fun k hk=>?_⟩
   ·simp only[List.mem_singleton] at hp;subst hp;exact⟨g,gm,hl⟩
   ·have h0:=hk 0 (by simp);rw[Nat.add_zero] at h0;obtain⟨u,cs',q1,q2,_⟩:=hR.objs _ _ hl;have hu:u=v:=by
     cases hx with
     |osl _ _ u' hr' hp'=>
      rw[q1] at hr';simpa using hr'
     |oslOld _ _ g' u' v hr' hg=>
      rw[q1] at hr';simp only[Option.some.injEq,Prod.mk.injEq] at hr';omega
    subst hu;refine .osl k 0 u ?_ q2;unfold dY;rw[show (Name.ob k).id=k from rfl,h0];simp[q1]
  ·cases h
 ·split at h
  ·rename_i τ hτ;have key:∀d:Bool,(d=true->U.size τ=1)->y=(if d then .newd τ [] else .new τ [])->is=[(⟨d,τ,[]⟩,none)]->is.map (·.1)=fE y/\(∀p∈is,uH C s p)/\(∀l,y≠ .agg l)/\(∀l,y≠ .tup l)/\∀k,(∀j,j<is.length->ids[k+j]?=is[j]?)->Rel C.E w (dY ρ ids) st' (fM (fun k=>k) k y) v:=fun d hsz hy hi=>by
    subst hi;subst hy;refine⟨by cases d<;>rfl,fun p hp=>?_,(fun l e=>by cases d<;>cases e),(fun l e=>by cases d<;>cases e),fun k hk=>?_⟩
    ·simp only[List.mem_singleton] at hp;subst hp;exact⟨rfl,hsz⟩
    ·have h0:=hk 0 (by simp);rw[Nat.add_zero] at h0;cases hx;have e:fM (fun k=>k) k (if d=true then (.newd τ []:aB U) else .new τ [])=.osl k 0:=by cases d<;>rfl
     rw[e];refine .osl k 0 _ ?_ (fun a e=>by cases e);unfold dY;rw[show (Name.ob k).id=k from rfl,h0];rfl
   split at h
   ·rename_i hsz;cases h;exact key true (fun _=>Nat.eq_of_beq_eq_true hsz) rfl rfl
   ·cases h;exact key false (fun e=>by cases e) rfl rfl
  ·cases h
 all_goals first
  | (cases h
     refine⟨rfl,(fun p hp=>by simp at hp),(fun l e=>by cases e),(fun l e=>by cases e),fun k hk=>?_⟩
     first
      | (cases hx;first|exact .int _ _|exact .bool _|exact .str _)
      |exact(hx.flat (ρ':=bU) rfl).mono (fun b hb=>⟨hst0 b hb,rfl⟩) (fun _ _ _ hr=>by cases hr))
  |cases h
theorem bGn (hR:RR C.E n N w0 ρ s a w) {ids:List (cZ U×Option Nat)} {st':Nat->Prop} (hst0:∀b,aM N ρ w b->st' b):∀(ts:List TypeId) (xs ys:List (aB U)) (is:List (cZ U×Option Nat)) (vs:List Value),aAM C s.objs ts xs=some (ys,is)->
  vs.length=xs.length->(∀k (h:k<xs.length),Rel C.E w ρ (aM N ρ w) xs[k] (vs.getD k undef))->
  is.map (·.1)=ys.flatMap fE/\(∀p∈is,uH C s p)/\ys.length=xs.length/\∀k,(∀j,j<is.length->ids[k+j]?=is[j]?)->∀i (h:i<(gM (fM (fun k=>k)) k ys).length),Rel C.E w (dY ρ ids) st' (gM (fM (fun k=>k)) k ys)[i] (vs.getD i undef):=by
 intro ts
 induction ts with
 |nil=>
  intro xs ys is vs h hl hr;cases xs with
  |nil=>cases h;exact⟨rfl,(fun p hp=>by simp at hp),rfl,fun k hk i hi=>absurd hi (by simp[gM])⟩
  |cons x xs=>simp[aAM] at h
 |cons t ts ih=>
  intro xs ys is vs h hl hr;cases xs with
  |nil=>simp[aAM] at h
  |cons x xs=>
   cases vs with
   |nil=>simp at hl
   |cons v vs=>
    simp only[aAM] at h;split at h
    ·rename_i y nL pC mP h1 h2;cases h;have h0:=hr 0 (by simp);simp only[List.getElem_cons_zero,List.getD_cons_zero] at h0;obtain⟨a1,a2,_,_,a3⟩:=aVX (ids:=ids) (st':=st') hR hst0 h1 h0;obtain⟨b1,b2,b3,b4⟩:=ih xs pC mP vs h2 (by simpa using hl) (fun k hk=>hr (k+1) (by simp;omega));refine⟨by rw[List.map_append,List.flatMap_cons,a1,b1],fun p hp=>?_,by simp[b3],fun k hk i hi=>?_⟩
     ·rcases List.mem_append.1 hp with hp|hp
      ·exact a2 p hp
      ·exact b2 p hp
     ·have hlen:(fE y).length=nL.length:=by rw[<- a1,List.length_map]
      cases i with
      |zero=>
       refine a3 k (fun j hj=>?_);rw[hk j (by simp;omega),List.getElem?_append_left hj]
      |succ i=>
       have hi':i<(gM (fM fun k=>k) (k+(fE y).length) pC).length:=by simpa[gM] using hi
       refine b4 (k+(fE y).length) (fun j hj=>?_) i hi';rw[hlen,Nat.add_assoc,hk (nL.length+j) (by simp;omega),List.getElem?_append_right (by omega),Nat.add_sub_cancel_left]
    ·cases h
theorem bGm (hR:RR C.E n N w0 ρ s a w) {ids:List (cZ U×Option Nat)} {st':Nat->Prop} {t:TypeId} {x y:aB U} {is:List (cZ U×Option Nat)} {v:Value} (hst0:∀b,aM N ρ w b->st' b) (h:aL5 C s.objs t x=some (y,is)) (hx:Rel C.E w ρ (aM N ρ w) x v):
  is.map (·.1)=eU y/\(∀p∈is,uH C s p)/\(∀l,y≠ .tup l)/\∀k,(∀j,j<is.length->ids[k+j]?=is[j]?)->Rel C.E w (dY ρ ids) st' (kM (fM (fun k=>k)) k y) v:=by
 unfold aL5 at h;split at h
 ·rename_i l;split at h
  ·rename_i ys nL h1;cases h;cases hx with
   |agg _ vs hn hl=>
    obtain⟨b1,b2,b3,b4⟩:=bGn (ids:=ids) (st':=st') hR hst0 _ l ys is vs.toList h1 (by simpa using hn) (fun k hk=>by rw[kB];exact hl k hk);refine⟨b1,b2,(fun l e=>by cases e),fun k hk=>.agg _ vs (by rw[x8,b3,hn]) (fun i hi=>?_)⟩;have:=b4 k hk i hi;rwa [kB] at this
  ·cases h
 ·obtain⟨a1,a2,a4,a5,a3⟩:=aVX (ids:=ids) (st':=st') hR hst0 h hx;have e1:eU y=fE y:=by
   cases y<;>first|rfl|exact absurd rfl (a4 _)
  have e2:∀k,kM (fM fun k=>k) k y=fM (fun k=>k) k y:=fun k=>by
   cases y<;>first|rfl|exact absurd rfl (a4 _)
  refine⟨by rw[e1];exact a1,a2,a5,fun k hk=>?_⟩;rw[e2];exact a3 k hk
theorem aNV (hR:RR C.E n N w0 ρ s a w) (hN:∀b,N b->b<w0.heap.size) {fr:Bool} {ids:List (cZ U×Option Nat)} {st':Nat->Prop} (hst0:∀b,aM N ρ w b->st' b) (hst:∀b,dJ N w b->(fr=false->st' b)):∀(rs:List ResultVar) (ts:List TypeId) (ys:List (aB U)) (is:List (cZ U×Option Nat)),vL C fr s ts rs=some (ys,is)->
  ∃vs,(rs.mapM (fun
   | .tmp t=>pure (a.tmps.getD t undef)
   | .cell x t=>do loadVar t (<- asAddr (a.tmps.getD x undef))):Sem (List Value)).run C.P w=.ok vs w/\vs.length=ys.length/\is.map (·.1)=ys.flatMap eU/\(∀p∈is,uH C s p)/\
    ∀k,(∀j,j<is.length->ids[k+j]?=is[j]?)->∀i (h:i<(gI (fM (fun k=>k)) k ys).length),Rel C.E w (dY ρ ids) st' (gI (fM (fun k=>k)) k ys)[i] (vs.getD i undef):=by
 intro rs
 induction rs with
 |nil=>
  intro ts ys is h;cases ts with
  |nil=>
   cases h;exact⟨[],rfl,rfl,rfl,(fun p hp=>by simp at hp),fun k hk i hi=>absurd hi (by simp[gI])⟩
  |cons t ts=>cases h
 |cons r rs ih=>
  intro ts ys is h;cases ts with
  |nil=>cases h
  |cons t ts=>
   simp only[vL] at h;split at h
   ·rename_i y nL pC mP h1 h2;cases h;obtain⟨vs,e1,e2,e3,e4,e6⟩:=ih ts pC mP h2;have key:∃v,(match r with
      | .tmp t=>pure (a.tmps.getD t undef)
      | .cell x t=>do loadVar t (<- asAddr (a.tmps.getD x undef)):Sem Value).run C.P w=.ok v w/\nL.map (·.1)=eU y/\(∀p∈nL,uH C s p)/\
       ∀k,(∀j,j<nL.length->ids[k+j]?=nL[j]?)->Rel C.E w (dY ρ ids) st' (kM (fM (fun k=>k)) k y) v:=by
     unfold aId at h1;split at h1
     ·rename_i x hx;obtain⟨v,hrun,hv⟩:=aNU hR hx;cases fr with
      |true=>
       obtain⟨b1,b2,b3,b4⟩:=bGm (ids:=ids) (st':=st') hR hst0 h1 hv;exact⟨v,hrun,b1,b2,b4⟩
      |false=>
       simp only at h1;split at h1
       ·rename_i z hz;cases h1;have hz':=bA8 hR hv hz;refine⟨v,hrun,(aVj _ rfl 0 z).symm,(fun p hp=>by simp at hp),fun k hk=>?_⟩;rw[aVh];have hone:∀{c:aB U} {u:Value},Rel C.E w bU (dJ N w) c u->Rel C.E w (dY ρ ids) st' (fI c) u:=fun {c u} hc=>by
         have:fI c=c:=by
          cases c<;>first|rfl| (cases hc;done)
         rw[this];exact hc.mono (fun b hb=>⟨hst b hb rfl,rfl⟩) (fun _ _ _ hr=>by cases hr)
        cases z with
        |agg l=>
         simp only[kM];rw[aAQ];cases hz' with
         |agg _ vs hn hl=>exact .agg _ vs (by simpa using hn) (fun i hi=>by
           have hi':i<l.length:=by simpa using hi
           rw[List.getElem_map];exact hone (hl i hi'))
        |_=>exact hone hz'
       ·cases h1
     ·cases h1
    obtain⟨v,k1,k2,k3,k5⟩:=key;refine⟨v::vs,?_,by simp[e2],by rw[List.map_append,List.flatMap_cons,k2,e3],fun p hp=>?_,fun k hk i hi=>?_⟩
    ·simp only[List.mapM_cons,Sem.run_bind];rw[k1];simp only[Result.andThen_ok];rw[e1];rfl
    ·rcases List.mem_append.1 hp with hp|hp
     ·exact k3 p hp
     ·exact e4 p hp
    ·have hlen:(eU y).length=nL.length:=by rw[<- k2,List.length_map]
     cases i with
     |zero=>
      refine k5 k (fun j hj=>?_);rw[hk j (by simp;omega),List.getElem?_append_left hj]
     |succ i=>
      have hi':i<(gI (fM fun k=>k) (k+(eU y).length) pC).length:=by simpa[gI] using hi
      refine e6 (k+(eU y).length) (fun j hj=>?_) i hi';rw[hlen,Nat.add_assoc,hk (nL.length+j) (by simp;omega),List.getElem?_append_right (by omega),Nat.add_sub_cancel_left]
   ·cases h
theorem bA9 {C:Cfg U} {s:ASt U}:∀(rs:List ResultVar) (ts:List TypeId) (ys:List (aB U)) (is:List (cZ U×Option Nat)),vL C false s ts rs=some (ys,is)->is=[]:=by
 intro rs
 induction rs with
 |nil=>
  intro ts ys is h;cases ts with
  |nil=>cases h;rfl
  |cons t ts=>cases h
 |cons r rs ih=>
  intro ts ys is h;cases ts with
  |nil=>cases h
  |cons t ts=>
   simp only[vL] at h;split at h
   ·rename_i y nL pC mP h1 h2;cases h;rw[ih ts pC mP h2];unfold aId at h1;split at h1
    ·simp only at h1;split at h1
     ·cases h1;rfl
     ·cases h1
    ·cases h1
   ·cases h
theorem aNl:∀(l:List (cZ U×Option Nat)),nG l=true->∀(a b:Nat) (x y:cZ U) (i j:Nat),a<b->l[a]?=some (x,some i)->l[b]?=some (y,some j)->i≠j:=by
 intro l
 induction l with
 |nil=>intro _ a b x y i j _ h;simp at h
 |cons p l ih=>
  intro h a b x y i j hab ha hb;obtain⟨r,o⟩:=p;cases b with
  |zero=>omega
  |succ b=>
   simp only[List.getElem?_cons_succ] at hb;cases a with
   |zero=>
    simp only[List.getElem?_cons_zero,Option.some.injEq,Prod.mk.injEq] at ha;obtain⟨rfl,rfl⟩:=ha;simp only[nG,Bool.and_eq_true,Bool.not_eq_true'] at h;intro e;subst e;have:=List.any_eq_false.1 h.1 _ (List.mem_of_getElem? hb);simp at this
   |succ a=>
    simp only[List.getElem?_cons_succ] at ha;have hl:nG l=true:=by
     cases o with
     |some i=>simp only[nG,Bool.and_eq_true] at h;exact h.2
     |none=>exact h
    exact ih hl a b x y i j (by omega) ha hb
theorem aYO (hR:RR C.E n N w0 ρ s a w) {is:List (cZ U×Option Nat)} (hon:nG is=true) (hp:∀p∈is,uH C s p):
  (∀b,aM N ρ w b->aM N (dY ρ is) w b)/\(∀(k:Nat) (x:cZ U) o,is[k]?=some (x,o)->eG C.E w (dY ρ is) (aM N (dY ρ is) w) w0.heap.size k x.obj)/\
  (∀nm g u,dY ρ is nm=some (g,u)->∃x o,is[nm.id]?=some (x,o)/\(x.1=false->∃k,nm=.ob k))/\∀nm nm' g g' u u' b,dY ρ is nm=some (g,u)->dY ρ is nm'=some (g',u')->nm≠nm'->blk u=some b->blk u'≠some b:=by
 have inv:∀nm g u,dY ρ is nm=some (g,u)->(∃x o,is[nm.id]?=some (x,o)/\(x.1=false->∃k,nm=.ob k))/\((∃r id g0,is[nm.id]?=some (r,some id)/\ρ (nm.at id)=some (g0,u))\/u=.slice none 0 0):=by
  intro nm g u h;unfold dY at h;split at h
  ·rename_i x id hk;split at h
   ·rename_i q;simp only[Option.map_eq_some_iff] at h;obtain⟨p,jL,e⟩:=h;cases e;exact⟨⟨_,_,hk,fun _=>⟨q,rfl⟩⟩,.inl ⟨_,id,p.1,hk,jL⟩⟩
   ·rename_i q i;split at h
    ·rename_i hd;simp only[Option.map_eq_some_iff] at h;obtain⟨p,jL,e⟩:=h;cases e;exact⟨⟨_,_,hk,fun e=>by rw[hd] at e;cases e⟩,.inl ⟨_,id,p.1,hk,jL⟩⟩
    ·cases h
  ·rename_i x hk;split at h
   ·rename_i q;cases h;exact⟨⟨_,_,hk,fun _=>⟨q,rfl⟩⟩,.inr rfl⟩
   ·cases h
  ·cases h
 have hst:∀b,aM N ρ w b->aM N (dY ρ is) w b:=fun b ⟨q1,q2,q3⟩=>⟨q1,q2,fun k g u hr hbl=>by
  rcases(inv k g u hr).2 with ⟨r,id,g0,_,hu⟩|rfl
  ·exact q3 _ _ _ hu hbl
  ·cases hbl⟩
 have obN:∀{k:Nat} {x:cZ U} {id:Nat},is[k]?=some (x,some id)->dY ρ is (.ob k)=(ρ (.ob id)).map fun p=>(0,p.2):=fun {k x id} hk=>by
  unfold dY;rw[show (Name.ob k).id=k from rfl,hk]
 refine⟨hst,fun k x o hk=>?_,fun nm g u h=>(inv nm g u h).1,fun i j g g' u u' b hi hj hij hbi hbj=>?_⟩
 ·have hpk:=hp _ (List.mem_of_getElem? hk);have flat:∀{t:U.τ} {z:U.T t} {c:aB U} {v:Value},c∈C.E.enc t z->Rel C.E w ρ (aM N ρ w) c v->Rel C.E w (dY ρ is) (aM N (dY ρ is) w) c v:=fun {t z c v} hc hv=>
   (hv.flat (ρ':=bU) (C.E.enc_flat t z c hc).1).mono (fun b hb=>⟨hst b hb,rfl⟩) (fun _ _ _ hr=>by cases hr)
  obtain⟨d,t,xs⟩:=x;cases o with
  |some id=>
   cases d with
   |false=>
    obtain⟨g,hob⟩:∃g,s.objs id=some (.row t g xs):=hpk;obtain⟨u,cs,q1,q2,q3,q4⟩:=hR.objs _ _ hob;exact⟨u,cs,by rw[obN hk,q1];rfl,q2,q3,fun i hi k' hk'=>flat (List.getElem_mem hk') (q4 i hi k' hk')⟩
   |true=>
    obtain⟨g,gm,hob⟩:∃g gm,s.objs id=some (.deep t g gm xs):=hpk;obtain⟨u,cs,q1,q2,q3,q4,q5,q6⟩:=hR.objs _ _ hob;have memN:∀i,dY ρ is (.mem k i)=(ρ (.mem id i)).map fun p=>(0,p.2):=fun i=>by
     unfold dY;rw[show (Name.mem k i).id=k from rfl,hk]
    refine⟨u,cs,by rw[obN hk,q1];rfl,q2,q3,q4,fun i hi=>by rw[memN,q5 i hi];rfl,fun i hi=>?_⟩;obtain⟨t1,ys,v,ds,r1,r2,r3,r4,r5,r6⟩:=q6 i hi;exact⟨t1,ys,v,ds,r1,by rw[memN,r2];rfl,r3,r4,r5,fun i hi k' hk'=>flat (List.getElem_mem hk') (r6 i hi k' hk')⟩
  |none=>
   obtain⟨hxs,hsz⟩:xs=[]/\(d=true->U.size t=1):=hpk;subst hxs;have obE:dY ρ is (.ob k)=some (0,.slice none 0 0):=by
    unfold dY;rw[show (Name.ob k).id=k from rfl,hk]
   cases d with
   |false=>exact⟨.slice none 0 0,[],obE,(fun a e=>by cases e),World.ownsRow_nil _ _ _ _,fun i hi=>absurd hi (by simp)⟩
   |true=>
    refine⟨.slice none 0 0,[],obE,(fun a e=>by cases e),World.ownsRow_nil _ _ _ _,hsz rfl,fun i _=>?_,fun i hi=>absurd hi (by simp)⟩;unfold dY;rw[show (Name.mem k i).id=k from rfl,hk]
 ·rcases(inv i g u hi).2 with ⟨r,id,g0,h1,h2⟩|rfl
  ·rcases(inv j g' u' hj).2 with ⟨r',id',g0',h1',h2'⟩|rfl
   ·refine hR.sep _ _ _ _ _ _ b h2 h2' (fun e=>?_) hbi hbj;have hid:id=id':=by
     have:=congrArg Name.id e;rwa [Name.lZ,Name.lZ] at this
    subst hid
    by_cases hijd:i.id=j.id
    ·exact hij (Name.aHi hijd e)
    ·rcases Nat.lt_or_gt_of_ne hijd with hlt|hgt
     ·exact aNl is hon _ _ _ _ _ _ hlt h1 h1' rfl
     ·exact aNl is hon _ _ _ _ _ _ hgt h1' h1 rfl
   ·cases hbj
  ·cases hbi
theorem aNT (hR:RR C.E n N w0 ρ s a w) (hN:∀b,N b->b<w0.heap.size) {fr:Bool} {fn:Func} {y:aB U} (h:result C fr fn s=some y):∃v,(results fn a.tmps).run C.P w=.ok v w/\jQ C.E w0.heap.size N w y v:=by
 have main:∀l is,vL C fr s fn.resultTypes.toList fn.results.toList=some (l,is)->nG is=true->∃vs:List Value,(fn.results.mapM (fun
   | .tmp t=>pure (a.tmps.getD t undef)
   | .cell x t=>do loadVar t (<- asAddr (a.tmps.getD x undef))):Sem (Array Value)).run C.P w=.ok vs.toArray w/\vs.length=l.length/\is.map (·.1)=l.flatMap eU/\
   (∀(k:Nat) (x:cZ U),(l.flatMap eU)[k]?=some x->eG C.E w (dY ρ is) (aM N (dY ρ is) w) w0.heap.size k x.obj)/\
   (∀nm g u,dY ρ is nm=some (g,u)->∃x,(l.flatMap eU)[nm.id]?=some x/\(x.1=false->∃k,nm=.ob k))/\(∀nm nm' g g' u u' b,dY ρ is nm=some (g,u)->dY ρ is nm'=some (g',u')->nm≠nm'->blk u=some b->blk u'≠some b)/\
   ∀i (h:i<(gI (fM (fun k=>k)) 0 l).length),Rel C.E w (dY ρ is) (aM N (dY ρ is) w) (gI (fM (fun k=>k)) 0 l)[i] (vs.getD i undef):=fun l is hl hon=>by
  have h4:∀p∈is,uH C s p:=by
   obtain⟨_,_,_,_,h4,_⟩:=aNV (ids:=is) (st':=fun _=>True) hR hN (fr:=fr) (fun _ _=>trivial) (fun _ _ _=>trivial) _ _ l is hl;exact h4
  obtain⟨t1,t2,t3,t4⟩:=aYO hR hon h4;obtain⟨vs,h1,h2,h3,_,h5⟩:=aNV (ids:=is) (st':=aM N (dY ρ is) w) hR hN (fr:=fr) t1 (fun b hb hf=>by
   subst hf;have:=bA9 _ _ _ _ hl;subst this;exact⟨hb.1,hb.2,fun k g u hr=>by cases hr⟩) _ _ l is hl
  refine⟨vs,?_,h2,h3,fun k x hk=>?_,fun nm g u hk=>?_,t4,h5 0 (fun j hj=>by rw[Nat.zero_add])⟩
  ·rw[Array.mapM_eq_mapM_toList];simp only[Sem.run_map];rw[h1];rfl
  ·rw[<- h3,List.getElem?_map] at hk;obtain⟨p,jL,hp2⟩:=Option.map_eq_some_iff.1 hk;obtain⟨r,o⟩:=p;simp only at hp2;subst hp2;exact t2 k _ o jL
  ·obtain⟨x,o,q1,q2⟩:=t3 nm g u hk;exact⟨x,by rw[<- h3,List.getElem?_map,q1];rfl,q2⟩
 unfold result at h;split at h
 ·rename_i x is hx;have hnt:∀l,x≠ .tup l:=fun l e=>by
   subst e;cases h
  have hon:nG is=true/\x=y:=by
   split at h
   ·cases h
   ·obtain⟨h1,h2⟩:=bI h;cases h2;exact⟨h1,rfl⟩
  obtain⟨hon,rfl⟩:=hon;obtain⟨vs,h1,h2,h3,h4,h5,h6,h7⟩:=main _ _ hx hon;have en:x.news=eU x:=by
   cases x<;>first|rfl|exact absurd rfl (hnt _)
  have eo:x.sZ (fun k=>k)=kM (fM (fun k=>k)) 0 x:=by
   cases x<;>first|rfl|exact absurd rfl (hnt _)
  have e1:[x].flatMap eU=eU x:=by simp
  match vs,h2 with
  |[v],_=>
   refine⟨v,?_,dY ρ is,?_,?_,?_,h6⟩
   ·simp only[results,Sem.run_bind];exact Eq.trans (congrArg (fun r:Result (Array Value)=>r.andThen _) h1) rfl
   ·rw[eo];exact h7 0 (by simp[gI])
   ·intro k x hk;exact h4 k x (by rw[e1,<- en];exact hk)
   ·intro nm g u hk;obtain⟨x,q1,q2⟩:=h5 nm g u hk;exact⟨x,by rw[en,<- e1];exact q1,q2⟩
 ·rename_i l is hne hl;obtain⟨hon,h⟩:=bI h;cases h;obtain⟨vs,h1,h2,h3,h4,h5,h6,h7⟩:=main _ _ hl hon;refine⟨.tuple vs.toArray,?_,dY ρ is,.tup _ vs.toArray (by rw[x7];simpa using h2) (fun k hk=>by simpa using h7 k hk),h4,h5,h6⟩;have hn:¬vs.toArray.size=1:=fun e=>by
   have hl1:l.length=1:=by rw[<- h2];simpa using e
   match l,hl1 with
   |[x],_=>exact hne x rfl
  simp only[results,Sem.run_bind];refine Eq.trans (congrArg (fun r:Result (Array Value)=>r.andThen _) h1) ?_;simp only[Result.andThen_ok,dif_neg hn];rfl
 ·cases h
theorem aVx (hs:aX C) (hinv:C.inv w) (hmix:C.P.follows .mixedOrders=true) {f:FuncId} {fn:Func} {c:Code} (hf:C.P.funcs[f]?=some fn) (hb:fn.body=some c) {args:Array Value} {xs:List (aB U)} (hN:∀b,N b->b<w.heap.size)
  (hargs:yS C.E w N xs args) (hlen:xs.length<=fn.ntmps) (hle:fn.ntmps<=1000000) {fr:Bool} {Post:aB U->Prop} (h:exec C fn.ntmps M fuel 0 c (cQ xs) (bH C fr fn Post)):
  Calls C.P f args w fun e w'=>∃v,e=.returned v/\(∃r,Post r/\jQ C.E w.heap.size N w' r v)/\Below w.heap.size w w':=by
 refine calls_of_wp hf hb ?_;have hsz:args.size=xs.length:=hargs.1;have hR:RR C.E fn.ntmps N (Fr.pure w) bU (cQ xs) {tmps:=args++Array.replicate (fn.ntmps-args.size) undef,defers:=[]} w:=by
  refine⟨rfl,by simp;omega,fun t=>?_,(fun id ob ho=>by cases ho),(fun id g u hr=>by cases hr),(fun _ _ _ _ _ _ _ hr=>by cases hr),Below.refl _ _,fun b hb=>.inl (hN b hb),⟨Nat.le_refl _,fun b hb=>hb.elim⟩,(fun _ _ _ _ hr=>by cases hr),(fun _ _ h=>by cases h),hle⟩;exact aTS (fun _=>rfl) hlen hle hsz (fun k hk=>(hargs.2 k hk).mono (fun b hb=>⟨⟨hb.1,hb.2,fun _ _ _ hr=>by cases hr⟩,rfl⟩) (fun _ _ _ hr=>by cases hr)) t
 refine aGK (hs.at hinv) hmix (fun _ _ _ _ _ h=>by cases h) c 0 _ _ bU _ w _ h hR (fun e s' ρ' a' w' hK hR'=>?_);have fin:(match result C fr fn s' with
  |some r=>Post r
  |none=>False)->a'.defers=[]/\∃v,(results fn a'.tmps).run C.P w'=.ok v w'/\∃v_1,Ending.returned v=.returned v_1/\(∃r,Post r/\jQ C.E w.heap.size N w' r v_1)/\Below w.heap.size w w':=fun hK=>by
  split at hK
  ·rename_i r hr;obtain⟨v,h1,h2⟩:=aNT hR' hN hr;exact⟨hR'.defers,v,h1,v,rfl,⟨r,hK,h2⟩,hR'.below⟩
  ·exact hK.elim
 cases e with
 |normal=>exact fin hK
 |exit id=>exact hK.elim
 |ret=>exact fin hK
theorem RR.bHA {E:Enc U} (h:RR E n N w0 ρ s a w) {N':Nat->Prop} (hN:∀b,N' b->N b):RR E n N' w0 ρ s a w:=by
 have hst:∀b,aM N ρ w b->aM N' ρ w b/\w.heap[b]?=w.heap[b]?:=fun b hb=>⟨⟨hb.1,fun h=>hb.2.1 (hN b h),hb.2.2⟩,rfl⟩
 refine⟨h.defers,h.size,fun t=>(h.tmps t).mono hst (fun _ _ _ hr=>.inl hr),fun id ob ho=>?_,h.dom,h.sep,h.below,fun b hb=>h.nlt b (hN b hb),h.kept,h.free,h.pin,h.nle⟩;exact(h.objs id ob ho).mono hst (fun _ _ _ hr=>.inl hr) (fun _ _=>rfl) (fun _ _ _ _ _ _ _=>rfl)
end
end Go.Vm
namespace Go.Vm
open Go.RowKit
set_option linter.unusedVariables false
section
variable {U:dH}
def pX:Code->List Code
 | .seq x y=>pX x++pX y
 | .cond _ x y=>pX x++pX y
 | .block _ c=>pX c
 | .loop c=>c::pX c
 |_=>[]
abbrev Model (U:dH):=List (aB U)->Option (List Prop×aB U)
def Cfg.add (C:Cfg U) (f:FuncId) (m:Model U):Cfg U:={C with sum:=fun g=>cond (Nat.beq g f) (some m) (C.sum g)}
theorem hG {P:Program} {f:FuncId} {fn:Func} {c:Code} (hf:P.funcs[f]?=some fn) (hn:(fn.name== "runtime.NumGoroutine")=false) (hb:fn.body=some c) (args:Array Value) (w:World):
  (callFunc f args).run P w=.ok (.enter f args) w:=by
 have hn':fn.name≠ "runtime.NumGoroutine":=by simpa using hn
 simp[callFunc,hf,hn',hb]
theorem aX.add {C:Cfg U} (hs:aX C) (hmix:C.P.follows .mixedOrders=true) {f:FuncId} {m:Model U} {fn:Func} {c:Code} (hf:C.P.funcs[f]?=some fn) (hn:(fn.name== "runtime.NumGoroutine")=false)
  (hb:fn.body=some c) (hx:∀xs cs r,m xs=some (cs,r)->dE cs->(Nat.ble xs.length fn.ntmps&&Nat.ble fn.ntmps 1000000)=true/\∃M fuel fr,exec C fn.ntmps M fuel 0 c (cQ xs) (bH C fr fn fun r'=>r'=r)):aX (C.add f m):=by
 refine⟨fun g m' hg=>?_,fun g m' hg=>hs.2 g m' hg⟩;simp only[Cfg.add,kC] at hg
 by_cases h:g=f
 ·subst h;rw[if_pos rfl] at hg;obtain rfl:=Option.some.inj hg;refine⟨fun args w=>hG (P:=C.P) hf hn hb args w,fun N w args xs cs r hinv hN hargs hm hc=>?_⟩;obtain⟨hl,M,fuel,fr,hex⟩:=hx xs cs r hm hc;rw[Bool.and_eq_true] at hl;refine(aVx (w:=w) (N:=N) hs hinv hmix hf hb hN hargs (Nat.le_of_ble_eq_true hl.1) (Nat.le_of_ble_eq_true hl.2) hex).mono ?_
  rintro e w' ⟨v,rfl,⟨r',rfl,hr⟩,hbw⟩
  exact⟨v,rfl,hr,hbw⟩
 ·rw[if_neg h] at hg;exact hs.1 g m' hg
def Cfg.bF (C:Cfg U):Cfg U:={C with deep:=true}
theorem aX.bLX {C:Cfg U} (hs:aX C) (hmix:C.P.follows .mixedOrders=true) {f:FuncId} {m:Model U} {fn:Func} {c:Code} (hf:C.P.funcs[f]?=some fn) (hn:(fn.name== "runtime.NumGoroutine")=false)
  (hb:fn.body=some c) (hx:∀xs cs r,m xs=some (cs,r)->dE cs->(Nat.ble xs.length fn.ntmps&&Nat.ble fn.ntmps 1000000)=true/\∃M fuel fr,exec C.bF fn.ntmps M fuel 0 c (cQ xs) (bH C.bF fr fn fun r'=>r'=r)):aX (C.add f m):=by
 have hs':aX C.bF:=hs;have:=aX.add (C:=C.bF) hs' hmix hf hn hb hx;exact this
theorem aX.put {C:Cfg U} (hs:aX C) {f:FuncId} {m:Model U} (h:(∀(args:Array Value) (w:World),(callFunc f args).run C.P w=.ok (.enter f args) w)/\
 ∀(N:Nat->Prop) (w:World) (args:Array Value) (xs:List (aB U)) (cs:List Prop) (r:aB U),C.inv w->(∀b,N b->b<w.heap.size)->yS C.E w N xs args->m xs=some (cs,r)->dE cs->
  Calls C.P f args w fun e w'=>∃v,e=.returned v/\jQ C.E w.heap.size N w' r v/\Below w.heap.size w w'):aX (C.add f m):=by
 refine⟨fun g m' hg=>?_,fun g m' hg=>hs.2 g m' hg⟩;simp only[Cfg.add,kC] at hg
 by_cases h':g=f
 ·subst h';rw[if_pos rfl] at hg;obtain rfl:=Option.some.inj hg;exact h
 ·rw[if_neg h'] at hg;exact hs.1 g m' hg
abbrev aA4 (U:dH):=List (aB U)->aV U->Option (List Prop×aB U×aV U)
def Cfg.aA1 (C:Cfg U) (f:FuncId) (m:aA4 U):Cfg U:={C with eff:=fun g=>cond (Nat.beq g f) (some m) (C.eff g)}
theorem aX.aEU {C:Cfg U} (hs:aX C) {f:FuncId} {m:aA4 U} (h:∀w0:World,C.inv w0->zU C f m w0):aX (C.aA1 f m):=by
 refine⟨hs.1,fun g m' hg w0 hi=>?_⟩;simp only[Cfg.aA1,kC] at hg
 by_cases h':g=f
 ·subst h';rw[if_pos rfl] at hg;obtain rfl:=Option.some.inj hg;exact h w0 hi
 ·rw[if_neg h'] at hg;exact hs.2 g m' hg w0 hi
structure aA5 (p:Prop):Prop where
 out:p
theorem aX.aMJ {C:Cfg U} (hs:aX C) (hmix:C.P.follows .mixedOrders=true) {f:FuncId} {m:Model U} {fn:Func} {c:Code} (hf:C.P.funcs[f]?=some fn) (hn:(fn.name== "runtime.NumGoroutine")=false)
  (hb:fn.body=some c) (hx:∀xs cs r,m xs=some (cs,r)->dE cs->(Nat.ble xs.length fn.ntmps&&Nat.ble fn.ntmps 1000000)=true/\∃M fuel fr,aA5 (exec C fn.ntmps M fuel 0 c (cQ xs) (bH C fr fn fun r'=>r'=r))):aX (C.add f m):=
 hs.add hmix hf hn hb fun xs cs r h hc=>by
  obtain⟨h1,M,fuel,fr,h2⟩:=hx xs cs r h hc;exact⟨h1,M,fuel,fr,h2.out⟩
theorem aX.aMI {C:Cfg U} (hs:aX C) (hmix:C.P.follows .mixedOrders=true) {f:FuncId} {m:Model U} {fn:Func} {c:Code} (hf:C.P.funcs[f]?=some fn) (hn:(fn.name== "runtime.NumGoroutine")=false)
  (hb:fn.body=some c) (hx:∀xs cs r,m xs=some (cs,r)->dE cs->(Nat.ble xs.length fn.ntmps&&Nat.ble fn.ntmps 1000000)=true/\∃M fuel fr,aA5 (exec C.bF fn.ntmps M fuel 0 c (cQ xs) (bH C.bF fr fn fun r'=>r'=r))):aX (C.add f m):=
 hs.bLX hmix hf hn hb fun xs cs r h hc=>by
  obtain⟨h1,M,fuel,fr,h2⟩:=hx xs cs r h hc;exact⟨h1,M,fuel,fr,h2.out⟩
theorem jQ.of {E:Enc U} {base:Nat} {N:Nat->Prop} {w:World} {r:aB U} {v:Value} (hn:r.news=[]) (ho:r.sZ (fun k=>k)=r) (h:Rel E w bU (dJ N w) r v):jQ E base N w r v:=by
 refine⟨bU,?_,fun k x hk=>?_,(fun k g u hr=>by cases hr),(fun _ _ _ _ _ _ _ hr=>by cases hr)⟩
 ·rw[ho];exact h.mono (fun b q=>⟨⟨q.1,q.2,fun _ _ _ hr=>by cases hr⟩,rfl⟩) (fun _ _ _ hr=>by cases hr)
 ·rw[hn] at hk;cases hk
def bJ (id:Nat) (K:AEx->ASt U->Prop):AEx->ASt U->Prop:=fun e s'=>match e with
 | .exit id'=>cond (Nat.beq id' id) (K .normal s') (K (.exit id') s')
 |e=>K e s'
def cO (X:oW U) (C:Cfg U) (n:Nat) (M:Nat->Nat->Nat->Canon U) (fuel cur:Nat) (y:Code) (K:AEx->ASt U->Prop):AEx->ASt U->Prop:=fun e s'=>match e with
 | .normal=>bW X C n M fuel cur y s' K
 |e=>K e s'
def pZ (X:oW U) (C:Cfg U) (n:Nat) (ops:Array Oper) (f j:Nat) (fn:Func) (dst:Option Tmp) (K:ASt U->Prop):AEx->ASt U->Prop:=fun e s2=>match e with
 | .exit _=>False
 |_=>match aBN C s2 fn with
  |some r=>aBK X C n ops f (ops.toList.drop j) ((s2.leave C.hb).put dst r) K
  |none=>False
def fW (B:ASt U->(AEx->ASt U->Prop)->Prop) (m:Nat->Canon U) (f r:Nat) (K:AEx->ASt U->Prop):AEx->ASt U->Prop:=fun e s'=>match e with
 | .normal=>match canon (m (r+1)) s' with
  |some s''=>iter B m f (r+1) s'' K
  |none=>False
 |e=>match canon (m r) s' with
  |some s''=>K e s''
  |none=>False
def cR:Code->Array Oper
 | .region _ ops _=>ops
 |_=>#[]
noncomputable def bo (f:Func):Code:=f.body.getD .skip
def cF:Code->Code
 | .seq x _=>x
 |c=>c
def cS:Code->Code
 | .seq _ y=>y
 |c=>c
def cB:Code->Code
 | .block _ x=>x
 |c=>c
def cL:Code->Code
 | .loop x=>x
 |c=>c
def cT:Code->Code
 | .cond _ x _=>x
 |c=>c
abbrev aC (n:Int):Int:=IntKind.i64.wrap n
def mi (a b:Int):Int:=if b<a then b else a
def ma (a b:Int):Int:=if a<b then b else a
theorem back {p q:Prop} (h:p=q) (hq:q):p:=h▸hq
end
end Go.Vm
namespace Go.Vm
open Go.RowKit Go.ChangeShapes Go.WideShapes Go.ChangeAt
set_option linter.unusedVariables false
section
variable {H:Type} {enc:TypeId×Value->H} {P:Program} {W W':World}
theorem aYK (hl:laidOutB P=true) (hb:Below W.heap.size W W'):∀(ts:List TypeId) (vs:List Value) (ds:List (DataW H)) (ps:List MemPlace),ts.all (fun t=>P.readableRec t&&decide (t<P.types.size))=true->
  DataW.TrodAll enc P W 0 (fun _=>true) true ts vs ds ps->(∀x∈ps,x.block<W.heap.size)->DataW.TrodAll enc P W' 0 (fun b=>decide (b<W.heap.size)) true ts vs ds ps:=by
 intro ts
 induction ts with
 |nil=>
  intro vs ds ps _ h _;cases vs<;>cases ds<;>exact h
 |cons t ts ih=>
  intro vs ds ps hr h hlt;obtain⟨v,vs',d,ds',p,q,rfl,rfl,rfl,h0,h1⟩:=trodAll_cons h;simp only[List.all_cons,Bool.and_eq_true,decide_eq_true_eq] at hr;exact trodAll_cons_mk (Below.trod hl hr.1.1 hr.1.2 h0 hb fun x hx=>hlt x (by simp[hx])) (ih vs' ds' q hr.2 h1 fun x hx=>hlt x (by simp[hx]))
theorem bF0 {f:Func} {s:ChangeSpec} {tb:TypeId} {args:Array Value} {ds gs:List (DataW H)} {before:List MemPlace} (hl:laidOutB P=true) (hp:f.params.toList.all (fun t=>P.readableRec t&&decide (t<P.types.size))=true)
  (hr:f.resultTypes=#[tb]) (h4:P.underlying tb=some .bool) (hv:s.vars=[]) (hs:s.fn H ds={results:=[.lit (.bool true)],args:=ds})
  (hW:DataW.Whole enc P f.params.toList s.vars false W args.toList ds gs before) (hb:Below W.heap.size W W'):s.post enc P f false true false false W args (.bool true) W':=by
 have hW':=hW;obtain⟨p,q,hA0,hV,rfl,_,_⟩:=hW;rw[hv] at hV;obtain⟨rfl,rfl⟩:=trodVars_none hV;have hA:DataW.TrodAll enc P W 0 (fun _=>true) true f.params.toList args.toList ds p:=hA0;refine⟨ds,[],p++[],[],p,[],hW',?_,?_,?_,hb.frame _,fun h=>by cases h⟩
 ·rw[List.append_nil,hs,hr];exact trodAll_cons_mk (shut_bool h4 _) trodAll_mk0
 ·rw[List.append_nil,hs];exact aYK hl hb _ _ _ _ hp hA fun x hx=>hW'.lt x (by simp[hx])
 ·rw[List.append_nil,hs,hv];rfl
end
section
variable {P:Program} {W:World}
def aAB:Value->Int
 | .int _ n=>n
 |_=>0
theorem bJX {r:Reach} {base:Nat} {u:TypeId} {k:IntKind} {v:Value} (hu:P.underlying u=some (.int k)) (h:Cell.okWide P W r base u v):v=.int k (aAB v)/\k.has (aAB v)=true:=by
 cases v<;>simp_all[Cell.okWide,Cell.ok,aAB]
end
section
variable {U:dH} {C:Cfg U}
end
end Go.Vm
namespace Go.Vm
open Go.RowKit Go.ChangeShapes Go.WideShapes Go.ChangeAt Go.Deep
set_option linter.unusedVariables false
section
variable {P:Program}
def iX (P:Program) (t:TypeId):Bool:=
 match P.underlying t with
 |some (.int _)|some .bool|some .string|some (.slice _)=>true
 |_=>false
def tL (P:Program) (ok:TypeId->Bool) (len:TypeId->Nat):List Field->Nat->Nat->Bool
 |[],off,tot=>Nat.beq off tot
 |f::fs,off,tot=>Nat.beq f.offset off&&Nat.beq (P.cellsOf f.type) (len f.type)&&ok f.type&&tL P ok len fs (off+P.cellsOf f.type) tot
def kQ (P:Program):Nat->TypeId->Bool
 |0,t=>iX P t
 |d+1,t=>match P.underlying t with
  |some (.struct fields)=>tL P (kQ P d) (fun t=>(bY P d t).length) fields.toList 0 (P.cellsOf t)
  |some (.array _ _)=>false
  |_=>iX P t
variable {H:Type} {enc:TypeId×Value->H} {w:World} {base:Nat} {sp:Nat->Bool} {held:Bool}
theorem aMx {t:TypeId} {fuel:Nat} {cs:List Value} {x:DataW H×List MemPlace} (hk:iX P t=true) (h:DataW.trod enc P w base sp held fuel t cs=some x):
  cs.length=1/\∃fuel' y,DataW.trod enc P w base sp held fuel' t [cs.getD 0 undef]=some y:=by
 have h':=h;unfold iX at hk;cases fuel with
 |zero=>cases h
 |succ fuel=>
  unfold DataW.trod at h;split at h<;>first
   |exact⟨rfl,_,_,h'⟩
   | (rename_i heq;rw[heq] at hk;cases hk)
   |cases h
theorem aYJ {d fuel:Nat} {cs:List Value} {tot:Nat} (hlen:cs.length=tot)
  (ih:∀(t:TypeId) (cs:List Value) (x:DataW H×List MemPlace),kQ P d t=true->DataW.trod enc P w base sp held fuel t cs=some x->
   cs.length=(bY P d t).length/\∀i (h:i<(bY P d t).length),∃fuel' y,DataW.trod enc P w base sp held fuel' ((bY P d t)[i]) [cs.getD i undef]=some y):
  ∀(fs:List Field) (off:Nat),tL P (kQ P d) (fun t=>(bY P d t).length) fs off tot=true->
   (∀f∈fs,∃y,DataW.trod enc P w base sp held fuel f.type ((cs.drop f.offset).take (P.cellsOf f.type))=some y)->
   off+(fs.flatMap fun f=>bY P d f.type).length=tot/\∀i (h:i<(fs.flatMap fun f=>bY P d f.type).length),∃fuel' y,DataW.trod enc P w base sp held fuel' ((fs.flatMap fun f=>bY P d f.type)[i]) [cs.getD (off+i) undef]=some y:=by
 intro fs
 induction fs with
 |nil=>
  intro off hok _;exact⟨by simpa[tL] using hok,fun i h=>absurd h (by simp)⟩
 |cons f fs ihf=>
  intro off hok hall;simp only[tL,Bool.and_eq_true] at hok;obtain⟨⟨⟨h1,h2⟩,h3⟩,h4⟩:=hok;have h1':=Nat.eq_of_beq_eq_true h1;have h2':=Nat.eq_of_beq_eq_true h2;obtain⟨y,hy⟩:=hall f (by simp);obtain⟨e1,e2⟩:=ih f.type _ y h3 hy;obtain⟨e3,e4⟩:=ihf (off+P.cellsOf f.type) h4 (fun g hg=>hall g (by simp[hg]));simp only[List.flatMap_cons,List.length_append];refine⟨by omega,fun i hi=>?_⟩
  by_cases hlt:i<(bY P d f.type).length
  ·obtain⟨f',y',hy'⟩:=e2 i hlt;refine⟨f',y',?_⟩;have hg:((cs.drop f.offset).take (P.cellsOf f.type)).getD i undef=cs.getD (off+i) undef:=by
    simp only[List.getD_eq_getElem?_getD,List.getElem?_take,List.getElem?_drop];rw[if_pos (by omega),h1']
   rw[hg] at hy';rw[List.getElem_append_left hlt];exact hy'
  ·have hr:i-(bY P d f.type).length<(fs.flatMap fun f=>bY P d f.type).length:=by
    omega
   obtain⟨f',y',hy'⟩:=e4 _ hr;refine⟨f',y',?_⟩;rw[List.getElem_append_right (by omega)];have e:off+P.cellsOf f.type+(i-(bY P d f.type).length)=off+i:=by omega
   rw[e] at hy';exact hy'
theorem mapM_mem {α β:Type} {f:α->Option β}:∀{l:List α} {ys:List β},l.mapM f=some ys->∀a∈l,∃y,f a=some y:=by
 intro l
 induction l with
 |nil=>intro ys _ a ha;cases ha
 |cons x l ih=>
  intro ys h a ha;rw[List.mapM_cons] at h;obtain⟨y,hy,h⟩:=Option.bind_eq_some_iff.1 h;obtain⟨zs,hzs,h⟩:=Option.bind_eq_some_iff.1 h;rcases List.mem_cons.1 ha with rfl|ha
  ·exact⟨y,hy⟩
  ·exact ih hzs a ha
theorem aMw:∀(d:Nat) (t:TypeId) (fuel:Nat) (cs:List Value) (x:DataW H×List MemPlace),kQ P d t=true->DataW.trod enc P w base sp held fuel t cs=some x->
  cs.length=(bY P d t).length/\∀i (h:i<(bY P d t).length),∃fuel' y,DataW.trod enc P w base sp held fuel' ((bY P d t)[i]) [cs.getD i undef]=some y:=by
 have leaf:∀{t:TypeId} {fuel:Nat} {cs:List Value} {x:DataW H×List MemPlace} {l:List TypeId},l=[t]->iX P t=true->DataW.trod enc P w base sp held fuel t cs=some x->
   cs.length=l.length/\∀i (h:i<l.length),∃fuel' y,DataW.trod enc P w base sp held fuel' (l[i]) [cs.getD i undef]=some y:=fun {t fuel cs x l} hl hk h=>by
  subst hl;obtain⟨h1,h2⟩:=aMx hk h;refine⟨h1,fun i hi=>?_⟩;have:i=0:=by simpa using hi
  subst this;exact h2
 intro d
 induction d with
 |zero=>
  intro t fuel cs x hok h;exact leaf rfl hok h
 |succ d ih=>
  intro t fuel cs x hok h;unfold kQ at hok;split at hok
  ·rename_i fields hu;have hl:bY P (d+1) t=fields.toList.flatMap fun f=>bY P d f.type:=by
    simp only[bY,hu]
   rw[hl];cases fuel with
   |zero=>cases h
   |succ fuel=>
    simp only[DataW.trod,hu] at h;split at h
    ·rename_i hlen;obtain⟨ys,hys,_⟩:=Option.map_eq_some_iff.1 h;have:=aYJ (cs:=cs) hlen (fun t cs x=>ih t fuel cs x) fields.toList 0 hok (fun f hf=>mapM_mem hys f hf);refine⟨by omega,fun i hi=>?_⟩;have:=this.2 i hi;rwa [Nat.zero_add] at this
    ·cases h
  ·cases hok
  ·rename_i hne hna;refine leaf ?_ hok h;unfold bY;split
   ·rename_i fs hu;exact absurd hu (hne fs)
   ·rename_i m e hu;exact absurd hu (hna m e)
   ·rfl
theorem aYH {d:Nat} {t:TypeId} {fuel:Nat} {cs:List Value} {x:DataW H×List MemPlace} (hok:kQ P d t=true) (hint:(bY P d t).all (fun u=>match P.underlying u with|some (.int .i64)=>true|_=>false)=true)
  (h:DataW.trod enc P w base sp held fuel t cs=some x):∃ns:List Int,ns.length=(bY P d t).length/\cs=ns.map (Value.int .i64):=by
 obtain⟨h1,h2⟩:=aMw d t fuel cs x hok h;refine⟨cs.map aAB,by simp[h1],?_⟩;apply List.ext_getElem
 ·simp
 ·intro i hi hi';obtain⟨f',y,hy⟩:=h2 i (by omega);have h3:=List.all_eq_true.1 hint _ (List.getElem_mem (show i<(bY P d t).length by omega));split at h3
  ·rename_i hu;obtain⟨n,hn,_⟩:=DataW.trod_int hu hy;have hg:cs.getD i undef=cs[i]:=by simp[hi]
   rw[hg] at hn;simp only[List.cons.injEq,and_true] at hn;simp[hn,aAB]
  ·cases h3
variable {U:dH} {C:Cfg U}
def Fits (C:Cfg U) (u:TypeId) (a:aB U):Prop:=
 match C.P.underlying u with
 |some (.int k)=>∃n,a=.int k n/\k.has n
 |some .bool=>∃b,a=.bool b
 |some .string=>∃s,a=.str s/\(s.size:Int)<=9223372036854775807
 |some (.slice e)=>∃τ xs,C.elt e=some τ/\a=.sl τ xs/\(xs.length:Int)<=9223372036854775807
 |_=>False
def aDI (C:Cfg U) (enc:TypeId×Value->H) (w:World) (e:TypeId) (τ:U.τ):Prop:=
 C.P.cellsOf e=U.size τ/\∀n cs y,DataW.trod enc C.P w 0 (fun _=>true) true n e cs=some y->∃z:U.T τ,∀k (hk:k<(C.E.enc τ z).length),Rel C.E w bU (dJ (fun _=>False) w) (C.E.enc τ z)[k] (cs.getD k undef)
theorem bCO {e:TypeId} {τ:U.τ} (d:Nat) (hs:C.P.cellsOf e=U.size τ) (hok:kQ C.P d e=true) (hint:(bY C.P d e).all (fun u=>match C.P.underlying u with|some (.int .i64)=>true|_=>false)=true) (hl:(bY C.P d e).length=U.size τ)
  (hz:∀ns:List Int,ns.length=U.size τ->∃z,C.E.enc τ z=ns.map (aB.int .i64)):aDI C enc w e τ:=by
 refine⟨hs,fun n cs y h=>?_⟩;obtain⟨ns,h1,rfl⟩:=aYH hok hint h;obtain⟨z,h2⟩:=hz ns (by omega);refine⟨z,fun k hk=>?_⟩;have hk':k<ns.length:=by rw[h2] at hk;simpa using hk
 simp only[h2];simpa[hk'] using Rel.int _ _
theorem aR7 {u:TypeId} {v:Value} {b0 fuel:Nat} {y:DataW H×List MemPlace} (hE:∀e,C.P.underlying u=some (.slice e)->∃τ,C.elt e=some τ/\aDI C enc w e τ)
  (hk:iX C.P u=true) (hok:Cell.okWide C.P w .any b0 u v) (h:DataW.trod enc C.P w 0 (fun _=>true) true fuel u [v]=some y):
  ∃a,Fits C u a/\Rel C.E w bU (dJ (fun _=>False) w) a v:=by
 unfold iX at hk;unfold Fits;split at hk
 ·rename_i k hu;obtain⟨h1,h2⟩:=bJX hu hok;exact⟨.int k (aAB v),⟨_,rfl,by simpa using h2⟩,by rw[h1];exact .int _ _⟩
 ·rename_i hu;unfold Cell.okWide Cell.ok at hok;rw[hu] at hok;cases v<;>first|exact⟨.bool _,⟨_,rfl⟩,.bool _⟩|exact hok.elim
 ·rename_i hu;unfold Cell.okWide Cell.ok at hok;rw[hu] at hok;cases v<;>first|exact⟨.str _,⟨_,rfl,hok⟩,.str _⟩|exact hok.elim
 ·rename_i e hu;obtain⟨τ,hτ,hs,hel⟩:=hE e hu;rcases open_slice hu h with ⟨h1,_⟩|⟨a,len,cap,m,n,D,Pl,h1,hb,hl,hm,hmm,hx,hall⟩
  ·simp only[List.cons.injEq,and_true] at h1;subst h1;exact⟨.sl τ [],⟨τ,[],hτ,rfl,by simp⟩,.jI τ⟩
  ·simp only[List.cons.injEq,and_true] at h1;subst h1;have hmc:m=cap:=by simpa using hmm
   subst hmc;have hhas:w.has C.P .any b0 a e m:=by
    unfold Cell.okWide Cell.ok at hok;rw[hu] at hok;exact hok.2.2
   obtain⟨_,hspot,row,cells,hsh,_⟩:=hhas;obtain⟨b,o,spot⟩:=a;simp only at hspot;subst hspot;have hblk:b<w.heap.size:=by
    unfold World.shape? at hsh;rcases Nat.lt_or_ge b w.heap.size with h|h
    ·exact h
    ·simp[Array.getElem?_eq_none h] at hsh
   obtain⟨Z,hZ⟩:=choose_lt (α:=Option (U.T τ)×List Value) (n:=len) (p:=fun i z=>∃q,z.1=some q/\w.cells? 0 (Addr.add ⟨b,o,none⟩ (i*C.P.cellsOf e)) (C.P.cellsOf e)=some z.2/\∀k (hk:k<(C.E.enc τ q).length),Rel C.E w bU (dJ (fun _=>False) w) (C.E.enc τ q)[k] (z.2.getD k undef)) (fun i hi=>by
    obtain⟨cs',h3,h4⟩:=hall i (by omega);obtain⟨z,hz⟩:=hel n cs' _ h4;exact⟨(some z,cs'),z,rfl,h3,hz⟩)
   have hxs:∃xs:List (U.T τ),xs.length=len/\∀i (h:i<xs.length),(Z i).1=some xs[i]:=by
    have:∀j,j<=len->∃xs:List (U.T τ),xs.length=j/\∀i (h:i<xs.length),(Z i).1=some xs[i]:=by
     intro j
     induction j with
     |zero=>intro _;exact⟨[],rfl,fun i h=>absurd h (by simp)⟩
     |succ j ihj=>
      intro hj;obtain⟨xs,e1,e2⟩:=ihj (by omega);obtain⟨q,hq,_⟩:=hZ j (by omega);refine⟨xs++[q],by simp[e1],fun i hi=>?_⟩
      by_cases hij:i<xs.length
      ·rw[List.getElem_append_left hij];exact e2 i hij
      ·have:i=j:=by simp at hi;omega
       subst this;simp[e1,hq]
    exact this len (Nat.le_refl _)
   obtain⟨xs,e1,e2⟩:=hxs;have hrel:∀i (h:i<xs.length) k (hk:k<(C.E.enc τ xs[i]).length),w.cell? ⟨b,o+(i*U.size τ+k),none⟩=some ((Z i).2.getD k undef)/\Rel C.E w bU (dJ (fun _=>False) w) (C.E.enc τ xs[i])[k] ((Z i).2.getD k undef):=by
    intro i hi k hk;obtain⟨q,hq,h3,h4⟩:=hZ i (by omega);have hqx:q=xs[i]:=by
     have:=e2 i hi;rw[hq] at this;exact Option.some.inj this
    subst hqx;refine⟨?_,h4 k hk⟩;obtain⟨_,hlen,hcell⟩:=World.cells?_some h3;have hk':k<U.size τ:=by rw[C.E.enc_len] at hk;exact hk
    have:=hcell k (by rw[hs];exact hk');rw[Addr.qL,Addr.qL,hs] at this;rw[<- Nat.add_assoc];rw[this];have hkl:k<(Z i).2.length:=by rw[hlen,hs];exact hk'
    simp[hkl]
   have hpos:=C.E.pos τ;refine⟨.sl τ xs,⟨τ,xs,hτ,rfl,?_⟩,?_⟩
   ·have:m<=maxLen:=hm;unfold maxLen at this;omega
   ·have:=Rel.sl (E:=C.E) (w:=w) (ρ:=bU) (st:=dJ (fun _=>False) w) τ xs b o m (fun j=>(Z (j / U.size τ)).2.getD (j % U.size τ) undef) ⟨hblk,fun h=>h⟩ (by omega) (fun j hj=>by
     have h5:j / U.size τ<xs.length:=Nat.div_lt_of_lt_mul (by rw[Nat.mul_comm];exact hj);have h6:j % U.size τ<U.size τ:=Nat.mod_lt _ hpos;have:=(hrel (j / U.size τ) h5 (j % U.size τ) (by rw[C.E.enc_len];exact h6)).1;have h7:j / U.size τ*U.size τ+j % U.size τ=j:=by rw[Nat.mul_comm];exact Nat.div_add_mod j _
     rw[h7] at this;exact this) (fun i hi k hk=>by
     have hk':k<U.size τ:=by rw[C.E.enc_len] at hk;exact hk
     have h7:(i*U.size τ+k) / U.size τ=i:=by
      rw[Nat.mul_comm,Nat.mul_add_div hpos,Nat.div_eq_of_lt hk',Nat.add_zero]
     have h8:(i*U.size τ+k) % U.size τ=k:=by
      rw[Nat.mul_comm,Nat.mul_add_mod,Nat.mod_eq_of_lt hk']
     simp only[h7,h8];exact(hrel i hi k hk).2)
    rw[e1] at this;exact this
 ·cases hk
theorem bCU {t:TypeId} {v:Value} {b0 d:Nat} {x:DataW H} {ps:List MemPlace} 
  (hE:∀u∈bY C.P d t,iX C.P u=true/\∀e,C.P.underlying u=some (.slice e)->∃τ,C.elt e=some τ/\aDI C enc w e τ) (hs:nK C.P t=true) (hts:C.P.cellTypes C.P.depth t=some (bY C.P d t)) (hflat:kQ C.P d t=true)
  (hok:Value.okWide C.P w .any b0 t v) (h:DataW.Trod enc C.P w 0 (fun _=>true) true t v x ps):
  ∃lvs:List (aB U),lvs.length=(bY C.P d t).length/\(∀i (h:i<lvs.length) (h':i<(bY C.P d t).length),Fits C (bY C.P d t)[i] lvs[i])/\Rel C.E w bU (dJ (fun _=>False) w) (.agg lvs) v:=by
 have hv:∃cs,v=.agg cs/\Row.okWide C.P w .any b0 t cs:=by
  unfold nK at hs;unfold Value.okWide at hok;split at hs
  ·rename_i fs hu;rw[hu] at hok;obtain⟨cs,rfl,_,hrow⟩:=hok;exact⟨cs,rfl,hrow⟩
  ·rename_i n e hu;rw[hu] at hok;obtain⟨cs,rfl,_,hrow⟩:=hok;exact⟨cs,rfl,hrow⟩
  ·cases hs
 obtain⟨cs,rfl,ts',h1,_,hcell⟩:=hv;rw[hts] at h1;obtain rfl:=Option.some.inj h1;obtain⟨fuel,hf⟩:=h;obtain⟨hlen,hleaf⟩:=aMw d t fuel _ _ hflat hf;have hlen':cs.size=(bY C.P d t).length:=by simpa[Value.cells] using hlen
 have key:∀j,j<=cs.size->∃lvs:List (aB U),lvs.length=j/\∀i (h:i<lvs.length) (h':i<(bY C.P d t).length),Fits C (bY C.P d t)[i] lvs[i]/\Rel C.E w bU (dJ (fun _=>False) w) lvs[i] (cs.getD i undef):=by
  intro j
  induction j with
  |zero=>intro _;exact⟨[],rfl,fun i h=>absurd h (by simp)⟩
  |succ j ih=>
   intro hj;obtain⟨lvs,e1,e2⟩:=ih (by omega);have hjl:j<(bY C.P d t).length:=by omega
   obtain⟨f',y,hy⟩:=hleaf j hjl;have hjc:j<cs.size:=by omega
   have hg:(Value.agg cs).cells.toList.getD j undef=cs[j]:=by simp[Value.cells,hjc]
   rw[hg] at hy;obtain⟨u,hu,hcok⟩:=hcell j cs[j] (by simp[hjc]);rw[Nat.mod_eq_of_lt hjl,List.getElem?_eq_getElem hjl] at hu;obtain rfl:=Option.some.inj hu;obtain⟨hk,hE'⟩:=hE _ (List.getElem_mem hjl);obtain⟨a,ha,hr⟩:=aR7 hE' hk hcok hy;refine⟨lvs++[a],by simp[e1],fun i hi hi'=>?_⟩
   by_cases hij:i<lvs.length
   ·rw[List.getElem_append_left hij];exact e2 i hij hi'
   ·have:i=j:=by simp at hi;omega
    subst this;have hgd:cs.getD i undef=cs[i]:=by simp[hjc]
    simp only[hgd];simp[e1];exact⟨ha,hr⟩
 obtain⟨lvs,e1,e2⟩:=key cs.size (Nat.le_refl _);exact⟨lvs,by omega,fun i h h'=>(e2 i h h').1,.agg lvs cs e1.symm (fun k hk=>(e2 k hk (by omega)).2)⟩
theorem bF2 {M:Nat->Nat->Nat->Canon U} {fuel:Nat} (hs:aX C) (hmix:C.P.follows .mixedOrders=true) {f:FuncId} {fn:Func} {c:Code} (hf:C.P.funcs[f]?=some fn) (hb:fn.body=some c) {args:Array Value} {xs:List (aB U)} {w:World} (hinv:C.inv w)
  (hargs:yS C.E w (fun _=>False) xs args) (hlen:(Nat.ble xs.length fn.ntmps&&Nat.ble fn.ntmps 1000000)=true) {fr:Bool} (h:aA5 (exec C fn.ntmps M fuel 0 c (cQ xs) (bH C fr fn fun r=>r=.bool true))):
  Calls C.P f args w fun e w'=>e=.returned (.bool true)/\Below w.heap.size w w':=by
 refine(aVx hs hinv hmix hf hb (fun _ h=>h.elim) hargs (Nat.le_of_ble_eq_true (Bool.and_eq_true _ _▸hlen).1) (Nat.le_of_ble_eq_true (Bool.and_eq_true _ _▸hlen).2) h.out).mono ?_
 rintro e w' ⟨v,rfl,⟨r,rfl,⟨ρ,hr,_⟩⟩,hbw⟩
 cases hr;exact⟨rfl,hbw⟩
end
end Go.Vm
namespace Go.Proofs
open Go.Shelf
def Tryz.aRd:Go.Shelf.Ren:=⟨fun|169=>50|n=>n,fun|70=>107|9=>9|0=>0|72=>110|37=>108|127=>178|3=>3|5=>5|n=>n,fun|n=>n⟩
theorem Tryz.bFV:Go.Proofs.Lays.n169 Tryz.prog Tryz.aRd:={
 mixed:=by kernel_rfl
 f169:=Tryz.func50.trans (congrArg some (by kernel_rfl))
 t0:=Tryz.underlying0
 a0:=Tryz.isAgg0
 z0:=Tryz.sizeOf0
 v0:=Tryz.zeroValue0
 t3:=Tryz.underlying3
 a3:=Tryz.isAgg3
 z3:=Tryz.sizeOf3
 v3:=Tryz.zeroValue3
 t9:=Tryz.underlying9
 a9:=Tryz.isAgg9
 z9:=Tryz.sizeOf9
 v9:=Tryz.zeroValue9
 t37:=Tryz.underlying108
 a37:=Tryz.isAgg108
 z37:=Tryz.sizeOf108
 v37:=Tryz.zeroValue108
 t70:=Tryz.underlying107
 a70:=Tryz.isAgg107
 z70:=Tryz.sizeOf107
 v70:=Tryz.zeroValue107
 t72:=Tryz.underlying110
 a72:=Tryz.isAgg110
 z72:=Tryz.sizeOf110
 v72:=Tryz.zeroValue110
 t127:=Tryz.underlying178
 a127:=Tryz.isAgg178
 z127:=Tryz.sizeOf178
 v127:=Tryz.zeroValue178}
theorem Tryz.bLe:Builder.Extra Tryz.prog Tryz.aRd:={
 sizeBuilder:=by kernel_rfl
 liesBuilder:=by kernel_rfl
 t5:=Tryz.underlying5
 a5:=Tryz.isAgg5
 z5:=Tryz.sizeOf5
 v5:=Tryz.zeroValue5
 infoByte:=by kernel_rfl
 cellsByte:=by kernel_rfl
 sizeByte:=by kernel_rfl
 neB5:=by decide}
def Tryz.bFQ:Go.Shelf.Ren:=⟨fun|171=>48|243=>106|246=>162|283=>195|284=>196|285=>197|286=>198|129=>212|317=>233|318=>234|319=>235|320=>236|337=>255|338=>256|n=>n,fun|3=>3|9=>9|2=>2|4=>4|171=>263|0=>0|53=>264|37=>108|5=>5|173=>267|212=>306|51=>292|20=>20|213=>307|46=>247|232=>327|233=>328|n=>n,fun|17=>1|18=>3|19=>4|n=>n⟩
theorem Tryz.bFR:Go.Proofs.LaysM.n171 Tryz.prog Tryz.bFQ:={
 mixed:=by kernel_rfl
 f129:=Tryz.func212.trans (congrArg some (by kernel_rfl))
 f171:=Tryz.func48.trans (congrArg some (by kernel_rfl))
 f243:=Tryz.func106.trans (congrArg some (by kernel_rfl))
 f246:=Tryz.func162.trans (congrArg some (by kernel_rfl))
 f283:=Tryz.func195.trans (congrArg some (by kernel_rfl))
 f284:=Tryz.func196.trans (congrArg some (by kernel_rfl))
 f285:=Tryz.func197.trans (congrArg some (by kernel_rfl))
 f286:=Tryz.func198.trans (congrArg some (by kernel_rfl))
 f317:=Tryz.func233.trans (congrArg some (by kernel_rfl))
 f318:=Tryz.func234.trans (congrArg some (by kernel_rfl))
 f319:=Tryz.func235.trans (congrArg some (by kernel_rfl))
 f320:=Tryz.func236.trans (congrArg some (by kernel_rfl))
 f337:=Tryz.func255.trans (congrArg some (by kernel_rfl))
 f338:=Tryz.func256.trans (congrArg some (by kernel_rfl))
 t0:=Tryz.underlying0
 a0:=Tryz.isAgg0
 z0:=Tryz.sizeOf0
 v0:=Tryz.zeroValue0
 t2:=Tryz.underlying2
 a2:=Tryz.isAgg2
 z2:=Tryz.sizeOf2
 v2:=Tryz.zeroValue2
 t3:=Tryz.underlying3
 a3:=Tryz.isAgg3
 z3:=Tryz.sizeOf3
 v3:=Tryz.zeroValue3
 t4:=Tryz.underlying4
 a4:=Tryz.isAgg4
 z4:=Tryz.sizeOf4
 v4:=Tryz.zeroValue4
 t5:=Tryz.underlying5
 a5:=Tryz.isAgg5
 z5:=Tryz.sizeOf5
 v5:=Tryz.zeroValue5
 t9:=Tryz.underlying9
 a9:=Tryz.isAgg9
 z9:=Tryz.sizeOf9
 v9:=Tryz.zeroValue9
 t20:=Tryz.underlying20
 a20:=Tryz.isAgg20
 z20:=Tryz.sizeOf20
 v20:=Tryz.zeroValue20
 t37:=Tryz.underlying108
 a37:=Tryz.isAgg108
 z37:=Tryz.sizeOf108
 v37:=Tryz.zeroValue108
 t46:=Tryz.underlying247
 a46:=Tryz.isAgg247
 z46:=Tryz.sizeOf247
 v46:=Tryz.zeroValue247
 t51:=Tryz.underlying292
 a51:=Tryz.isAgg292
 z51:=Tryz.sizeOf292
 v51:=Tryz.zeroValue292
 t53:=Tryz.underlying264
 a53:=Tryz.isAgg264
 z53:=Tryz.sizeOf264
 v53:=Tryz.zeroValue264
 t171:=Tryz.underlying263
 a171:=Tryz.isAgg263
 z171:=Tryz.sizeOf263
 v171:=Tryz.zeroValue263
 t173:=Tryz.underlying267
 a173:=Tryz.isAgg267
 z173:=Tryz.sizeOf267
 v173:=Tryz.zeroValue267
 t212:=Tryz.underlying306
 a212:=Tryz.isAgg306
 z212:=Tryz.sizeOf306
 v212:=Tryz.zeroValue306
 t213:=Tryz.underlying307
 a213:=Tryz.isAgg307
 z213:=Tryz.sizeOf307
 t232:=Tryz.underlying327
 a232:=Tryz.isAgg327
 z232:=Tryz.sizeOf327
 v232:=Tryz.zeroValue327
 t233:=Tryz.underlying328
 a233:=Tryz.isAgg328
 z233:=Tryz.sizeOf328
 v233:=Tryz.zeroValue328
 g17:=by kernel_rfl
 g18:=by kernel_rfl
 g19:=by kernel_rfl
 i0:=by kernel_rfl
 i2:=by kernel_rfl
 i3:=by kernel_rfl
 i4:=by kernel_rfl
 i5:=by kernel_rfl
 i9:=by kernel_rfl
 i20:=by kernel_rfl
 i37:=by kernel_rfl
 i46:=by kernel_rfl
 i51:=by kernel_rfl
 i53:=by kernel_rfl
 i171:=by kernel_rfl
 i173:=by kernel_rfl
 i212:=by kernel_rfl
 i232:=by kernel_rfl
 i233:=by kernel_rfl
 m17:=by kernel_rfl
 m18:=by kernel_rfl
 m19:=by kernel_rfl}
open Go.RowKit Go.Sort Go.Lib in
theorem Tryz.strconv_Itoa (n:Int) (h0: -9223372036854775808<=n) (h1:n<=9223372036854775807) (w:World) (htab:Lib.TabIs Tryz.prog w "internal/strconv.uint64pow10" .u64 Lib.pow10Tab):
  Calls Tryz.prog 48 #[.int .i64 n] w fun e w'=>e=.returned (.string ⟨(Lib.itoa n).toArray⟩)/\∃k os,w'=grow (w.drewN k) os:=Any.strconv_Itoa Tryz.bFR n h0 h1 w htab
def Tryz.bLg:Go.Shelf.Ren:=⟨fun|219=>237|217=>257|225=>258|224=>259|267=>260|266=>266|314=>267|n=>n,fun|9=>9|3=>3|4=>4|5=>5|46=>247|146=>294|51=>292|n=>n,fun|1=>2|n=>n⟩
def Tryz.bFW:Go.Shelf.Ren:=⟨fun|144=>163|143=>199|219=>237|217=>257|225=>258|224=>259|267=>260|266=>266|314=>267|n=>n,fun|9=>9|4=>4|3=>3|5=>5|46=>247|146=>294|51=>292|n=>n,fun|1=>2|n=>n⟩
theorem Tryz.bFX:Go.Proofs.Lays.n144 Tryz.prog Tryz.bFW:={
 mixed:=by kernel_rfl
 f143:=Tryz.func199.trans (congrArg some (by kernel_rfl))
 f144:=Tryz.func163.trans (congrArg some (by kernel_rfl))
 f217:=Tryz.func257.trans (congrArg some (by kernel_rfl))
 f219:=Tryz.func237.trans (congrArg some (by kernel_rfl))
 f224:=Tryz.func259.trans (congrArg some (by kernel_rfl))
 f225:=Tryz.func258.trans (congrArg some (by kernel_rfl))
 f266:=Tryz.func266.trans (congrArg some (by kernel_rfl))
 f267:=Tryz.func260.trans (congrArg some (by kernel_rfl))
 f314:=Tryz.func267.trans (congrArg some (by kernel_rfl))
 t3:=Tryz.underlying3
 a3:=Tryz.isAgg3
 z3:=Tryz.sizeOf3
 v3:=Tryz.zeroValue3
 t4:=Tryz.underlying4
 a4:=Tryz.isAgg4
 z4:=Tryz.sizeOf4
 v4:=Tryz.zeroValue4
 t5:=Tryz.underlying5
 a5:=Tryz.isAgg5
 z5:=Tryz.sizeOf5
 v5:=Tryz.zeroValue5
 t9:=Tryz.underlying9
 a9:=Tryz.isAgg9
 z9:=Tryz.sizeOf9
 v9:=Tryz.zeroValue9
 t46:=Tryz.underlying247
 a46:=Tryz.isAgg247
 z46:=Tryz.sizeOf247
 v46:=Tryz.zeroValue247
 t51:=Tryz.underlying292
 a51:=Tryz.isAgg292
 z51:=Tryz.sizeOf292
 v51:=Tryz.zeroValue292
 t146:=Tryz.underlying294
 a146:=Tryz.isAgg294
 z146:=Tryz.sizeOf294
 v146:=Tryz.zeroValue294
 g1:=by kernel_rfl}
open Go.RowKit Go.Lib in
theorem Tryz.strings_Contains (s sub:ByteArray) (m:Int) (w:World) (hs:s.size<4294967281) (hm:w.cell? ⟨2,0,none⟩=some (.int .i64 m)):
  Calls Tryz.prog 163 #[.string s,.string sub] w fun e w'=>e=.returned (.bool (Lib.contains s.data.toList sub.data.toList))/\w'=w:=Any.strings_Contains Tryz.bFX s sub m w hs hm
def Tryz.bFS:Go.Shelf.Ren:=⟨fun|144=>163|143=>199|219=>237|217=>257|225=>258|224=>259|267=>260|266=>266|314=>267|n=>n,fun|9=>9|4=>4|3=>3|5=>5|46=>247|146=>294|51=>292|n=>n,fun|1=>2|n=>n⟩
theorem Tryz.bFT:Go.Proofs.LaysM.n144 Tryz.prog Tryz.bFS:={
 mixed:=by kernel_rfl
 f143:=Tryz.func199.trans (congrArg some (by kernel_rfl))
 f144:=Tryz.func163.trans (congrArg some (by kernel_rfl))
 f217:=Tryz.func257.trans (congrArg some (by kernel_rfl))
 f219:=Tryz.func237.trans (congrArg some (by kernel_rfl))
 f224:=Tryz.func259.trans (congrArg some (by kernel_rfl))
 f225:=Tryz.func258.trans (congrArg some (by kernel_rfl))
 f266:=Tryz.func266.trans (congrArg some (by kernel_rfl))
 f267:=Tryz.func260.trans (congrArg some (by kernel_rfl))
 f314:=Tryz.func267.trans (congrArg some (by kernel_rfl))
 t3:=Tryz.underlying3
 a3:=Tryz.isAgg3
 z3:=Tryz.sizeOf3
 v3:=Tryz.zeroValue3
 t4:=Tryz.underlying4
 a4:=Tryz.isAgg4
 z4:=Tryz.sizeOf4
 v4:=Tryz.zeroValue4
 t5:=Tryz.underlying5
 a5:=Tryz.isAgg5
 z5:=Tryz.sizeOf5
 v5:=Tryz.zeroValue5
 t9:=Tryz.underlying9
 a9:=Tryz.isAgg9
 z9:=Tryz.sizeOf9
 v9:=Tryz.zeroValue9
 t46:=Tryz.underlying247
 a46:=Tryz.isAgg247
 z46:=Tryz.sizeOf247
 v46:=Tryz.zeroValue247
 t51:=Tryz.underlying292
 a51:=Tryz.isAgg292
 z51:=Tryz.sizeOf292
 v51:=Tryz.zeroValue292
 t146:=Tryz.underlying294
 a146:=Tryz.isAgg294
 z146:=Tryz.sizeOf294
 v146:=Tryz.zeroValue294
 g1:=by kernel_rfl
 i3:=by kernel_rfl
 i4:=by kernel_rfl
 i5:=by kernel_rfl
 i9:=by kernel_rfl
 i46:=by kernel_rfl
 i51:=by kernel_rfl
 i146:=by kernel_rfl
 m1:=by kernel_rfl
 s1_3:=fun w h=>Go.Proofs.cell_of_shapedOpen_int (zero:=#[.int .i64 0]) (t:=3) h (of_decide_eq_true (by kernel_rfl)) (by kernel_rfl) rfl (by kernel_rfl) (by kernel_rfl) Tryz.underlying3}
end Go.Proofs
namespace Go.Proofs.YtjjbojomlfgjlaaGreatDoor
abbrev zzB:=List (List Bool)
abbrev zzZ:=List (List Int)
abbrev zzI:=List Int
open Go.Vm Go.RowKit
set_option linter.unusedVariables false
section
variable {U:dH}
theorem mixed:Tryz.prog.follows .mixedOrders=true:=Checked.mixed Tryz.checked
def MN:Nat->Nat->Nat->Canon U:=fun _ _ _=>⟨[],[],[],[],[]⟩
def aAA (w:World):Prop:=∃m,w.cell? ⟨2,0,none⟩=some (.int .i64 m)
theorem bFj (w w':World) (h:aAA w) (hb:Below w.heap.size w w'):aAA w':=by
 obtain⟨m,hm⟩:=h;refine⟨m,?_⟩;rw[hb.cell ?_,hm];show 2<w.heap.size;rcases Nat.lt_or_ge 2 w.heap.size with h0|h0
 ·exact h0
 ·have h1:w.heap[2]?=none:=by simp[h0]
  simp[World.cell?,h1] at hm
def aKF:Model U
 |[.str s,.str sub]=>some ([s.size<4294967281],.bool (Lib.contains s.data.toList sub.data.toList))
 |_=>none
theorem bAT {C:Cfg U} (hs:aX C) (hP:C.P=Tryz.prog) (hI:∀w,C.inv w->aAA w):aX (C.add 163 aKF):=by
 refine hs.put ⟨fun args w=>by rw[hP];exact hG (fn:=Tryz.f163) Tryz.func163 (by kernel_rfl) rfl args w,?_⟩;intro N w args xs cs r hinv hN hargs hm hc;unfold aKF at hm;split at hm
 ·rename_i s sub;cases hm;obtain⟨m,hw⟩:=hI w hinv;obtain⟨h1,h2⟩:=hargs;have e0:=h2 0 (by simp);have e1:=h2 1 (by simp);obtain⟨l⟩:=args
  match l,h1 with
  |[a,b],_=>
   simp at e0 e1;cases e0;cases e1;rw[hP];refine(Tryz.strings_Contains s sub m w hc hw).mono ?_
   rintro e w' ⟨rfl,rfl⟩
   exact⟨_,rfl,jQ.of rfl rfl (.bool _),Below.refl _ _⟩
 ·cases hm
def chr (s:ByteArray) (i:Int):Int:=(s.data.toList.getD i.toNat 0).toNat
def okc (c:Int):Bool:=!((decide (c<97)||decide (122<c))&&(decide (c<48)||decide (57<c)))
def oI (s:ByteArray) (i:Nat):Bool:=(s.data.toList.drop i).all fun c=>okc c.toNat
def blank:ByteArray:=⟨#[32]⟩
noncomputable def words:ByteArray:=match Tryz.f221.body with
 |some (.seq _ (.seq (.region _ ops _) _))=>match ops.toList with
  |[⟨_,.assign (.const (.string s)),_,_,_,_⟩]=>s
  |_=>⟨#[]⟩
 |_=>⟨#[]⟩
noncomputable def vn (s:ByteArray):Bool:=
 !((decide ((s.size:Int)<1)||decide (8<(s.size:Int))||decide (chr s 0<97)||decide (122<chr s 0))||!oI s 0||Lib.contains words.data.toList (blank++s++blank).data.toList)
noncomputable def bVN:Code:=(Tryz.f107.body).getD .skip
noncomputable def lVN:Code:=(pX bVN).getD 0 .skip
def MVN:Nat->Nat->Nat->Canon U:=fun _ _ _=>⟨[0,2,24,25],[],[],[],[]⟩
def j6 (s:ByteArray) (i:Int):ASt U:=
 ⟨fun u=>cond (Nat.beq u 0) (.str s) (cond (Nat.beq u 2) (.bool false) (cond (Nat.beq u 24) (.int .i64 s.size) (cond (Nat.beq u 25) (.int .i64 i) .any))),fun _=>none⟩
theorem aNo {s:ByteArray} {i:Nat} (h:i<s.size):oI s i=(okc (chr s i)&&oI s (i+1)):=by
 unfold oI chr;have h':i<s.data.toList.length:=by simpa using h
 rw[List.drop_eq_getElem_cons h',List.all_cons];congr 1;rw[List.getD_eq_getElem?_getD,List.getElem?_eq_getElem (by simpa using h')];rfl
theorem wrapped {n:Int} (h1: -9223372036854775808<=n) (h2:n<=9223372036854775807):IntKind.i64.wrap n=n:=by
 rw[IntKind.wrap_i64];omega
theorem bFD {C:Cfg U} (hP:C.P=Tryz.prog) (he:C.eff=fun _=>none) (hof:C.off=0) (hdp:C.dep=0) (s:ByteArray) (hs:s.size<=9000) (F:Nat) (K:AEx->ASt U->Prop):∀(f r:Nat) (i:Nat),i<=s.size->s.size<f+i->(oI s i=true->K (.exit 0) (j6 s s.size))->(oI s i=false->∀j,K .ret (j6 s j))->
  iter (exec C 51 MVN F 0 lVN) (MVN 0 0) f r (j6 s i) K:=by
 obtain⟨P,E,elt,sum,eff,plain,plainOK,dp,inv,invOK,off,hbb,dep,dm,pu,inl,inlOK,frzOf,frzOK,opqOf,opqOK⟩:=C;obtain rfl:P=Tryz.prog:=hP;obtain rfl:eff=fun _=>none:=he
 obtain rfl:off=0:=hof;obtain rfl:dep=0:=hdp;intro f
 induction f with
 |zero=>intro r i hi hf;omega
 |succ f ih=>
  intro r i hi hf hK hR;refine back (q:=cond (decide ((i:Int)<s.size)) ((0<=(i:Int)/\(i:Int)<s.size)/\cond ((decide (chr s i<97)||decide (122<chr s i))&&(decide (chr s i<48)||decide (57<chr s i))) (K .ret (j6 s i)) (iter (exec ⟨Tryz.prog,E,elt,sum,fun _=>none,plain,plainOK,dp,inv,invOK,0,hbb,0,dm,pu,inl,inlOK,frzOf,frzOK,opqOf,opqOK⟩ 51 MVN F 0 lVN) (MVN 0 0) f (r+1) (j6 s (IntKind.i64.wrap (i+1))) K)) (K (.exit 0) (j6 s i))) (by kernel_rfl) ?_
  by_cases h:i<s.size
  ·have h1:decide ((i:Int)<s.size)=true:=by simpa using h
   rw[h1];refine⟨by omega,?_⟩;have h2:=aNo h;cases h5:((decide (chr s i<97)||decide (122<chr s i))&&(decide (chr s i<48)||decide (57<chr s i)))
   case true=>
    have h3:okc (chr s i)=false:=by
     unfold okc;rw[h5];rfl
    exact hR (by rw[h2,h3];rfl) _
   case false=>
    have h3:okc (chr s i)=true:=by
     unfold okc;rw[h5];rfl
    have h6:IntKind.i64.wrap ((i:Int)+1)=((i+1:Nat):Int):=by
     rw[wrapped (by omega) (by omega)];rfl
    rw[h6];rw[h3] at h2;exact ih (r+1) (i+1) (by omega) (by omega) (fun q=>hK (by rw[h2,q];rfl)) (fun q=>hR (by rw[h2,q];rfl))
  ·have h1:decide ((i:Int)<s.size)=false:=by simpa using h
   have h2:i=s.size:=by omega
   subst h2;rw[h1];refine hK ?_;have h3:s.data.toList.drop s.size=[]:=List.drop_of_length_le (by simp);simp[oI,h3]
noncomputable def mVN:Model U
 |[.str s]=>some ([],.bool (vn s))
 |_=>none
def aMK (C:Cfg U):Cfg U:=C.add 163 aKF
noncomputable def aWV (C:Cfg U):Cfg U:=(aMK C).add 107 mVN
set_option maxRecDepth 100000 in
theorem sVN {C:Cfg U} (hs:aX C) (hP:C.P=Tryz.prog) (he:C.eff=fun _=>none) (hof:C.off=0) (hdp:C.dep=0) (hI:∀w,C.inv w->aAA w):aX (aWV C):=by
 have jK:aX (aMK C):=bAT hs hP hI;obtain⟨P,E,elt,sum,eff,plain,plainOK,dp,inv,invOK,off,hbb,dep,dm,pu,inl,inlOK,frzOf,frzOK,opqOf,opqOK⟩:=C;obtain rfl:P=Tryz.prog:=hP;obtain rfl:eff=fun _=>none:=he
 obtain rfl:off=0:=hof;obtain rfl:dep=0:=hdp;refine jK.add mixed (fn:=Tryz.f107) (c:=bVN) Tryz.func107 (by kernel_rfl) rfl ?_;intro xs cs r h hcs;unfold mVN at h;split at h
 ·rename_i s;cases h;refine⟨by kernel_rfl,MVN,s.size+1,false,?_⟩
  conv=>whnf
  refine⟨⟨fun h=>?_,fun h=>?_⟩,?_⟩
  ·simp only[Bool.or_eq_false_iff,decide_eq_false_iff_not] at h;exact⟨by omega,by omega⟩
  ·simp only[Bool.or_eq_false_iff,decide_eq_false_iff_not] at h;exact⟨by omega,by omega⟩
  conv=>whnf
  cases hX:(decide ((s.size:Int)<1)||decide (8<(s.size:Int))||decide (((s.data.toList.getD (Int.toNat 0) 0).toNat:Int)<97)||decide (122<((s.data.toList.getD (Int.toNat 0) 0).toNat:Int)))
  case true=>
   refine back (q:=aB.bool (U:=U) false=.bool (vn s)) (by kernel_rfl) ?_;unfold vn chr;rw[hX];rfl
  case false=>
   have hsz:s.size<=9000:=by
    simp only[Bool.or_eq_false_iff,decide_eq_false_iff_not] at hX;omega
   conv=>whnf
   refine bFD (C:=aMK ⟨Tryz.prog,E,elt,sum,fun _=>none,plain,plainOK,dp,inv,invOK,0,hbb,0,dm,pu,inl,inlOK,frzOf,frzOK,opqOf,opqOK⟩) rfl rfl rfl rfl s hsz _ _ (s.size+1) 0 0 (by omega) (by omega) (fun q=>?_) (fun q j=>?_)
   ·refine back (q:=(((blank.size:Int)+s.size<=9223372036854775807)/\(((blank++s).size:Int)+blank.size<=9223372036854775807)/\words.size<4294967281)/\aB.bool (U:=U) (!Lib.contains words.data.toList (blank++s++blank).data.toList)=.bool (vn s)) (by kernel_rfl) ?_;have hw:words.size<4294967281:=of_decide_eq_true (by kernel_rfl);have hb:blank.size=1:=rfl;refine⟨⟨by omega,by rw[ByteArray.size_append];omega,hw⟩,?_⟩;unfold vn chr;rw[hX,q];rfl
   ·refine back (q:=aB.bool (U:=U) false=.bool (vn s)) (by kernel_rfl) ?_;unfold vn chr;rw[hX,q];rfl
 ·cases h
noncomputable def aFG:Model U
 |[]=>some ([],.str words)
 |_=>none
def aFF:Model U
 |[.int .i64 x,.int .i64 a,.int .i64 b]=>some ([],.bool (decide (a<=x)&&decide (x<=b)))
 |_=>none
def aKD:Model U
 |[.str t,.str s]=>some ([t.size<=9000/\s.size<=9000],.bool (Lib.contains t.data.toList (blank++s++blank).data.toList))
 |_=>none
noncomputable def bKu:Code:=(Tryz.f221.body).getD .skip
noncomputable def bKt:Code:=(Tryz.f219.body).getD .skip
noncomputable def aWF:Code:=(Tryz.f220.body).getD .skip
noncomputable def aRg:Code:=(pX aWF).getD 0 .skip
noncomputable def aWE:Code:=(Tryz.f181.body).getD .skip
noncomputable def aRf:Code:=(pX aWE).getD 0 .skip
def aDK:Nat->Nat->Nat->Canon U:=fun _ _ _=>⟨[0,2,3],[],[],[],[]⟩
def j7 (s:ByteArray) (i:Int):ASt U:=
 ⟨fun u=>cond (Nat.beq u 0) (.str s) (cond (Nat.beq u 2) (.bool false) (cond (Nat.beq u 3) (.int .i64 i) .any)),fun _=>none⟩
theorem bC0 (c:Int):okc c=!(!(decide (97<=c)&&decide (c<=122))&&(decide (c<48)||decide (57<c))):=by
 unfold okc;congr 2;rw[Bool.not_and];congr 1
 ·rw[<- decide_not];exact decide_eq_decide.2 (by omega)
 ·rw[<- decide_not];exact decide_eq_decide.2 (by omega)
set_option maxRecDepth 100000 in
theorem bFE {C:Cfg U} (hP:C.P=Tryz.prog) (he:C.eff=fun _=>none) (hof:C.off=0) (hdp:C.dep=0) (s:ByteArray) (hs:s.size<=9000) (F:Nat) (K:AEx->ASt U->Prop):∀(f r:Nat) (i:Nat),i<=s.size->s.size<f+i->(oI s i=true->K (.exit 0) (j7 s s.size))->(oI s i=false->∀j,K .ret (j7 s j))->
  iter (exec C 53 aDK F 0 aRf) (aDK 0 0) f r (j7 s i) K:=by
 obtain⟨P,E,elt,sum,eff,plain,plainOK,dp,inv,invOK,off,hbb,dep,dm,pu,inl,inlOK,frzOf,frzOK,opqOf,opqOK⟩:=C;obtain rfl:P=Tryz.prog:=hP;obtain rfl:eff=fun _=>none:=he
 obtain rfl:off=0:=hof;obtain rfl:dep=0:=hdp;intro f
 induction f with
 |zero=>intro r i hi hf;omega
 |succ f ih=>
  intro r i hi hf hK hR
  conv=>whnf
  cases h:decide ((i:Int)<s.size)
  ·have h2:i=s.size:=by
    have:¬(i:Int)<s.size:=by simpa using h
    omega
   subst h2;refine back (q:=K (.exit 0) (j7 s s.size)) (by kernel_rfl) (hK ?_);have h3:s.data.toList.drop s.size=[]:=List.drop_of_length_le (by simp);simp[oI,h3]
  ·have h0:i<s.size:=by
    have:(i:Int)<s.size:=by simpa using h
    omega
   have h2:=aNo h0;have hb:0<=(i:Int)/\(i:Int)<s.size:=⟨by omega,by omega⟩
   conv=>whnf
   refine⟨⟨hb,fun _=>hb⟩,?_⟩
   conv=>whnf
   refine⟨fun _=>⟨hb,fun _=>hb⟩,?_⟩
   conv=>whnf
   have h3:=bC0 (chr s i);unfold chr at h2 h3;cases hX:(!(decide (97<=((s.data.toList.getD (i:Int).toNat 0).toNat:Int))&&decide (((s.data.toList.getD (i:Int).toNat 0).toNat:Int)<=122))&&(decide (((s.data.toList.getD (i:Int).toNat 0).toNat:Int)<48)||decide (57<((s.data.toList.getD (i:Int).toNat 0).toNat:Int))))
   ·rw[hX] at h3;rw[h3] at h2;refine back (q:=iter (exec ⟨Tryz.prog,E,elt,sum,fun _=>none,plain,plainOK,dp,inv,invOK,0,hbb,0,dm,pu,inl,inlOK,frzOf,frzOK,opqOf,opqOK⟩ 53 aDK F 0 aRf) (aDK 0 0) f (r+1) (j7 s (IntKind.i64.wrap (i+1))) K) (by kernel_rfl) ?_;have h6:IntKind.i64.wrap ((i:Int)+1)=((i+1:Nat):Int):=by
     rw[wrapped (by omega) (by omega)];rfl
    rw[h6];exact ih (r+1) (i+1) (by omega) (by omega) (fun q=>hK (by rw[h2,q];rfl)) (fun q=>hR (by rw[h2,q];rfl))
   ·rw[hX] at h3;rw[h3] at h2;exact back (q:=K .ret (j7 s i)) (by kernel_rfl) (hR (by rw[h2];rfl) _)
def aDL:Nat->Nat->Nat->Canon U:=fun _ _ _=>⟨[0,1,4,5],[],[],[],[]⟩
def j8 (t s:ByteArray) (r:Bool) (i:Int):ASt U:=
 ⟨fun u=>cond (Nat.beq u 0) (.str t) (cond (Nat.beq u 1) (.str s) (cond (Nat.beq u 4) (.bool r) (cond (Nat.beq u 5) (.int .i64 i) .any))),fun _=>none⟩
theorem bHB (t p:ByteArray) (i:Nat) (h:i+p.size<=t.size):(t.extract i (i+p.size)==p)=Lib.occAt t.data.toList p.data.toList i:=by
 rw[beq_toListBytes,ByteArray.toList_eq,ByteArray.toList_eq,Bool.eq_iff_iff,beq_iff_eq];unfold Lib.occAt;rw[List.isPrefixOf_iff_prefix,List.prefix_iff_eq_take];have hp:p.data.toList.length=p.size:=by simp
 have e:(t.extract i (i+p.size)).data.toList=(t.data.toList.drop i).take p.size:=by
  simp[ByteArray.data_extract,List.extract_eq_take_drop]
 rw[hp,<- e];exact eq_comm
set_option maxRecDepth 100000 in
theorem bFF {C:Cfg U} (hP:C.P=Tryz.prog) (he:C.eff=fun _=>none) (hof:C.off=0) (hdp:C.dep=0) (t s:ByteArray) (ht:t.size<=9000) (hs:s.size<=9000) (F:Nat) (K:AEx->ASt U->Prop):∀(f r:Nat) (i:Nat),i<=t.size->t.size<f+i->Lib.NoOcc t.data.toList (blank++s++blank).data.toList i->
  (Lib.contains t.data.toList (blank++s++blank).data.toList=false->∀j,K (.exit 0) (j8 t s false j))->(Lib.contains t.data.toList (blank++s++blank).data.toList=true->∀j,K .ret (j8 t s true j))->
  iter (exec C 28 aDL F 0 aRg) (aDL 0 0) f r (j8 t s false i) K:=by
 obtain⟨P,E,elt,sum,eff,plain,plainOK,dp,inv,invOK,off,hbb,dep,dm,pu,inl,inlOK,frzOf,frzOK,opqOf,opqOK⟩:=C;obtain rfl:P=Tryz.prog:=hP;obtain rfl:eff=fun _=>none:=he
 obtain rfl:off=0:=hof;obtain rfl:dep=0:=hdp;intro f
 induction f with
 |zero=>intro r i hi hf;omega
 |succ f ih=>
  intro r i hi hf hn hK hR;have key:(IntKind.i64.wrap (IntKind.i64.wrap ((i:Int)+s.size)+2))=((i+(blank++s++blank).size:Nat):Int):=by
   rw[wrapped (n:=(i:Int)+s.size) (by omega) (by omega),wrapped (by omega) (by omega),ByteArray.size_append,ByteArray.size_append];have hb:blank.size=1:=rfl;omega
  refine back (q:=cond (decide ((IntKind.i64.wrap (IntKind.i64.wrap ((i:Int)+s.size)+2))<=(t.size:Int))) (((0<=(i:Int)/\(i:Int)<=(IntKind.i64.wrap (IntKind.i64.wrap ((i:Int)+s.size)+2))/\(IntKind.i64.wrap (IntKind.i64.wrap ((i:Int)+s.size)+2))<=t.size)/\((blank.size:Int)+s.size<=9223372036854775807)/\(((blank++s).size:Int)+blank.size<=9223372036854775807))/\
   cond (t.extract (i:Int).toNat (IntKind.i64.wrap (IntKind.i64.wrap ((i:Int)+s.size)+2)).toNat==blank++s++blank) (K .ret (j8 t s true i)) (iter (exec ⟨Tryz.prog,E,elt,sum,fun _=>none,plain,plainOK,dp,inv,invOK,0,hbb,0,dm,pu,inl,inlOK,frzOf,frzOK,opqOf,opqOK⟩ 28 aDL F 0 aRg) (aDL 0 0) f (r+1) (j8 t s false (IntKind.i64.wrap (i+1))) K)) (K (.exit 0) (j8 t s false i))) (by kernel_rfl) ?_
  rw[key];have hsz:(blank++s++blank).size=s.size+2:=by
   rw[ByteArray.size_append,ByteArray.size_append];have hb:blank.size=1:=rfl;omega
  have hl:t.data.toList.length=t.size:=by simp
  generalize hp:blank++s++blank=p at*
  by_cases h:i+p.size<=t.size
  ·have h1:decide (((i+p.size:Nat):Int)<=(t.size:Int))=true:=by
    simp only[decide_eq_true_eq];omega
   rw[h1];refine⟨⟨⟨by omega,by omega,by omega⟩,?_,?_⟩,?_⟩
   ·have hb:blank.size=1:=rfl;omega
   ·rw[ByteArray.size_append];have hb:blank.size=1:=rfl;omega
   ·show cond (t.extract i (i+p.size)==p) _ _;rw[bHB t p i h];cases ho:Lib.occAt t.data.toList p.data.toList i
    ·have h6:IntKind.i64.wrap ((i:Int)+1)=((i+1:Nat):Int):=by
      rw[wrapped (by omega) (by omega)];rfl
     show iter _ _ _ _ _ _;rw[h6];exact ih (r+1) (i+1) (by omega) (by omega) (hn.succ ho) hK hR
    ·refine hR ?_ _;have:=Lib.index_first (s:=t.data.toList) (sub:=p.data.toList) (i:=i) (by omega) ho hn;unfold Lib.contains;rw[this];simp
  ·have h1:decide (((i+p.size:Nat):Int)<=(t.size:Int))=false:=by
    simp only[decide_eq_false_iff_not];omega
   rw[h1];refine hK ?_ _;unfold Lib.contains;rw[decide_eq_false_iff_not];intro h0;have hr:=Lib.index_room _ _ h0;rcases Lib.index_spec t.data.toList p.data.toList with ⟨q1,_⟩|⟨j,q1,q2,q3,q4⟩
   ·omega
   ·have hpl:p.data.toList.length=p.size:=by simp
    have:j<i:=by omega
    rw[hn j this] at q3;cases q3
noncomputable def aWW (C:Cfg U):Cfg U:=(((C.add 221 aFG).add 219 aFF).add 220 aKD).add 181 mVN
set_option maxRecDepth 100000 in
theorem bAQ {C:Cfg U} (hs:aX C) (hP:C.P=Tryz.prog) (he:C.eff=fun _=>none) (hof:C.off=0) (hdp:C.dep=0):aX (aWW C):=by
 obtain⟨P,E,elt,sum,eff,plain,plainOK,dp,inv,invOK,off,hbb,dep,dm,pu,inl,inlOK,frzOf,frzOK,opqOf,opqOK⟩:=C;obtain rfl:P=Tryz.prog:=hP;obtain rfl:eff=fun _=>none:=he
 obtain rfl:off=0:=hof;obtain rfl:dep=0:=hdp;refine(((hs.add mixed (fn:=Tryz.f221) (c:=bKu) Tryz.func221 (by kernel_rfl) rfl ?_).add mixed (fn:=Tryz.f219) (c:=bKt) Tryz.func219 (by kernel_rfl) rfl ?_).add mixed (fn:=Tryz.f220) (c:=aWF) Tryz.func220 (by kernel_rfl) rfl ?_).add mixed (fn:=Tryz.f181) (c:=aWE) Tryz.func181 (by kernel_rfl) rfl ?_
 ·intro xs cs r h hcs;unfold aFG at h;split at h
  ·cases h;exact⟨by kernel_rfl,MN,0,false,back (q:=aB.str (U:=U) words=.str words) (by kernel_rfl) rfl⟩
  ·cases h
 ·intro xs cs r h hcs;unfold aFF at h;split at h
  ·rename_i x a b;cases h;exact⟨by kernel_rfl,MN,0,false,back (q:=aB.bool (U:=U) (decide (a<=x)&&decide (x<=b))=.bool (decide (a<=x)&&decide (x<=b))) (by kernel_rfl) rfl⟩
  ·cases h
 ·intro xs cs r h hcs;unfold aKD at h;split at h
  ·rename_i t s;cases h;obtain⟨ht,hs'⟩:t.size<=9000/\s.size<=9000:=hcs;refine⟨by kernel_rfl,aDL,t.size+1,false,?_⟩
   conv=>whnf
   refine bFF (C:=((Cfg.add ⟨Tryz.prog,E,elt,sum,fun _=>none,plain,plainOK,dp,inv,invOK,0,hbb,0,dm,pu,inl,inlOK,frzOf,frzOK,opqOf,opqOK⟩ 221 aFG).add 219 aFF)) rfl rfl rfl rfl t s ht hs' _ _ (t.size+1) 0 0 (by omega) (by omega) (Lib.NoOcc.zero _ _) (fun q j=>?_) (fun q j=>?_)
   ·refine back (q:=aB.bool (U:=U) false=.bool (Lib.contains t.data.toList (blank++s++blank).data.toList)) (by kernel_rfl) ?_;rw[q]
   ·refine back (q:=aB.bool (U:=U) true=.bool (Lib.contains t.data.toList (blank++s++blank).data.toList)) (by kernel_rfl) ?_;rw[q]
  ·cases h
 ·intro xs cs r h hcs;unfold mVN at h;split at h
  ·rename_i s;cases h;refine⟨by kernel_rfl,aDK,s.size+1,false,?_⟩;have hq:(decide ((s.size:Int)<1)||decide (8<(s.size:Int)))=!(decide (1<=(s.size:Int))&&decide ((s.size:Int)<=8)):=by
    rw[Bool.not_and];congr 1
    ·rw[<- decide_not];exact decide_eq_decide.2 (by omega)
    ·rw[<- decide_not];exact decide_eq_decide.2 (by omega)
   conv=>whnf
   refine⟨⟨fun h=>?_,fun h=>?_⟩,?_⟩
   ·rw[<- hq] at h;simp only[Bool.or_eq_false_iff,decide_eq_false_iff_not] at h;exact⟨by omega,by omega⟩
   ·rw[<- hq] at h;simp only[Bool.or_eq_false_iff,decide_eq_false_iff_not] at h;exact⟨by omega,by omega⟩
   conv=>whnf
   cases hX:(!(decide (1<=(s.size:Int))&&decide ((s.size:Int)<=8))||decide (((s.data.toList.getD (Int.toNat 0) 0).toNat:Int)<97)||decide (122<((s.data.toList.getD (Int.toNat 0) 0).toNat:Int)))
   case true=>
    refine back (q:=aB.bool (U:=U) false=.bool (vn s)) (by kernel_rfl) ?_;unfold vn chr;rw[hq,hX];rfl
   case false=>
    have hsz:s.size<=9000:=by
     have h8:=hX;rw[<- hq] at h8;simp only[Bool.or_eq_false_iff,decide_eq_false_iff_not] at h8;omega
    conv=>whnf
    refine bFE (C:=((Cfg.add (Cfg.add ⟨Tryz.prog,E,elt,sum,fun _=>none,plain,plainOK,dp,inv,invOK,0,hbb,0,dm,pu,inl,inlOK,frzOf,frzOK,opqOf,opqOK⟩ 221 aFG) 219 aFF).add 220 aKD)) rfl rfl rfl rfl s hsz _ _ (s.size+1) 0 0 (by omega) (by omega) (fun q=>?_) (fun q j=>?_)
    ·refine back (q:=(words.size<=9000/\s.size<=9000)/\aB.bool (U:=U) (!Lib.contains words.data.toList (blank++s++blank).data.toList)=.bool (vn s)) (by kernel_rfl) ?_;have hw:words.size<=9000:=of_decide_eq_true (by kernel_rfl);refine⟨⟨hw,hsz⟩,?_⟩;unfold vn chr;rw[hq,hX,q];rfl
    ·refine back (q:=aB.bool (U:=U) false=.bool (vn s)) (by kernel_rfl) ?_;unfold vn chr;rw[hq,hX,q];rfl
  ·cases h
end
end Go.Proofs.YtjjbojomlfgjlaaGreatDoor
set_option linter.unusedVariables false
namespace Go.Proofs.YtjjbojomlfgjlaaGreatDoor
open Go.Vm Go.RowKit
def pP (s:ByteArray) (w:World) (base:Nat) (p:Option (Nat×Value)) (f:Nat->Option (Nat×Value)):Prop:=
 ∃b v,p=some (0,.pointer (some ⟨b,0,none⟩))/\aA7 110 5 base b v (Lib.strCells s) w/\(∀j,f (j+1)=none)/\(v=.slice none 0 0/\f 0=none\/∃g,f 0=some (g,v))
def aBP (w:World) (base:Nat) (p:Option (Nat×Value)) (f:Nat->Option (Nat×Value)):Prop:=
 (∃b,p=some (0,.pointer (some ⟨b,0,none⟩))/\base<=b/\b<w.heap.size)/\∀i g u,f i=some (g,u)->u.oneCell'=true/\∀b,blk u=some b->base<=b/\b<w.heap.size
theorem aGd {w:World} {base:Nat} {e:TypeId} {m k:Nat} {u:Value} {cs:List Value} (h:w.ownsRow base e m u k cs):∀a,u≠ .pointer a:=fun a=>by
 rcases h.2 with ⟨rfl,_⟩|⟨_,_,_,rfl,_⟩<;>intro e<;>cases e
theorem bAc {s:ByteArray} {w:World} {base:Nat} {p:Option (Nat×Value)} {f:Nat->Option (Nat×Value)} (h:pP s w base p f):∃g u,p=some (g,u)/\u.oneCell'=true/\∀b,blk u=some b->base<=b/\b<w.heap.size:=by
 obtain⟨b,v,hp,⟨h1,⟨q,_,h2⟩,_⟩,_⟩:=h;refine⟨_,_,hp,rfl,fun b' hb'=>?_⟩;simp only[blk,Option.some.injEq] at hb';subst hb';exact⟨h1,(Array.getElem?_eq_some_iff.1 h2).1⟩
theorem bAa {w:World} {base:Nat} {p:Option (Nat×Value)} {f:Nat->Option (Nat×Value)} (h:aBP w base p f):∃g u,p=some (g,u)/\u.oneCell'=true/\∀b,blk u=some b->base<=b/\b<w.heap.size:=by
 obtain⟨⟨b,hp,q1,q2⟩,_⟩:=h;refine⟨_,_,hp,rfl,fun b' hb'=>?_⟩;simp only[blk,Option.some.injEq] at hb';subst hb';exact⟨q1,q2⟩
theorem aNX {s:ByteArray} {w:World} {base:Nat} {p:Option (Nat×Value)} {f:Nat->Option (Nat×Value)} {i g:Nat} {u:Value} (h:pP s w base p f) (hu:f i=some (g,u)):u.oneCell'=true/\∀b,blk u=some b->base<=b/\b<w.heap.size:=by
 obtain⟨b,v,hp,⟨_,_,h3,_⟩,h4,h5⟩:=h;cases i with
 |succ j=>rw[h4] at hu;cases hu
 |zero=>
  rcases h5 with ⟨_,h5⟩|⟨g',h5⟩
  ·rw[h5] at hu;cases hu
  ·rw[h5] at hu;cases hu;exact nD h3 (aGd h3)
theorem bAd {s:ByteArray} {w w':World} {base:Nat} {p:Option (Nat×Value)} {f:Nat->Option (Nat×Value)} (h:pP s w base p f) (h1:∀g u b,p=some (g,u)->blk u=some b->w'.heap[b]?=w.heap[b]?)
  (h2:∀i g u b,f i=some (g,u)->blk u=some b->w'.heap[b]?=w.heap[b]?):pP s w' base p f:=by
 obtain⟨b,v,hp,⟨q1,⟨q,q2,q3⟩,q4,q5,q6⟩,h4,h5⟩:=h;refine⟨b,v,hp,⟨q1,⟨q,q2,by rw[h1 _ _ b hp rfl];exact q3⟩,⟨q4.1,?_⟩,q5,q6⟩,h4,h5⟩;rcases q4.2 with hn|⟨g',cap,cur,rfl,hb,hg,rest⟩
 ·exact .inl hn
 ·rcases h5 with ⟨e,_⟩|⟨g,h5⟩
  ·cases e
  ·exact .inr ⟨g',cap,cur,rfl,hb,by rw[h2 0 g _ g' h5 rfl];exact hg,rest⟩
theorem bAb {w w':World} {base:Nat} {p:Option (Nat×Value)} {f:Nat->Option (Nat×Value)} (h:aBP w base p f) (h1:∀g u b,p=some (g,u)->blk u=some b->w'.heap[b]?=w.heap[b]?)
  (h2:∀i g u b,f i=some (g,u)->blk u=some b->w'.heap[b]?=w.heap[b]?):aBP w' base p f:=by
 obtain⟨⟨b,hp,q1,q2⟩,h3⟩:=h;have lt:∀b,b<w.heap.size->w'.heap[b]?=w.heap[b]?->b<w'.heap.size:=fun b hb e=>by
  rw[Array.getElem?_eq_getElem hb] at e;exact(Array.getElem?_eq_some_iff.1 e).1
 refine⟨⟨b,hp,q1,lt b q2 (h1 _ _ b hp rfl)⟩,fun i g u hu=>⟨(h3 i g u hu).1,fun b hb=>?_⟩⟩;have:=(h3 i g u hu).2 b hb;exact⟨this.1,lt b this.2 (h2 i g u b hu hb)⟩
def aV9 (w:World):Prop:=w.cell? ⟨0,0,none⟩=some (.iface 271 (.agg #[.pointer (some ⟨5,114,none⟩)]))
def inv1 (w:World):Prop:=(aAA w/\aV9 w)/\Lib.TabIs Tryz.prog w "internal/strconv.uint64pow10" .u64 Lib.pow10Tab
theorem bJW {w w':World} {g:Nat} {v:Value} (h:w.cell? ⟨g,0,none⟩=some v) (hb:Below w.heap.size w w'):w'.cell? ⟨g,0,none⟩=some v:=by
 rw[hb.cell ?_,h];show g<w.heap.size;rcases Nat.lt_or_ge g w.heap.size with h0|h0
 ·exact h0
 ·have h1:w.heap[g]?=none:=by simp[h0]
  simp[World.cell?,h1] at h
theorem bFh (w w':World) (h:inv1 w) (hb:Below w.heap.size w w'):inv1 w':=by
 obtain⟨⟨h1,h0⟩,h4⟩:=h;refine⟨⟨bFj w w' h1 hb,bJW h0 hb⟩,?_⟩;unfold Lib.TabIs World.var? at*;cases hg:Tryz.prog.globalNamed "internal/strconv.uint64pow10" with
 |none=>rw[hg] at h4;cases h4
 |some g=>
  rw[hg] at h4;simp only[Option.bind_some] at h4 ⊢;rcases Nat.lt_or_ge g w.heap.size with h0|h0
  ·rw[hb.block g h0];exact h4
  ·have h5:w.heap[g]?=none:=by simp[h0]
   rw[h5] at h4;cases h4
theorem bKd (w:World) (base:Nat) (h:base<=w.heap.size):∃w',(Instr.alloc 110 true (.tuple #[])).run Tryz.prog w=.ok (.pointer (some ⟨w.heap.size,0,none⟩)) w'/\Below w.heap.size w w'/\
  pP ByteArray.empty w' base (some (0,.pointer (some ⟨w.heap.size,0,none⟩))) (fun _=>none):=by
 have hz:(zeroValue 110).run Tryz.prog w=.ok (.agg #[.pointer none,.slice none 0 0]) w:=Tryz.zeroValue110 w;refine⟨w.alloc (.cells #[.pointer none,.slice none 0 0] 110),?_,⟨rfl,rfl,rfl,by simp,fun k hk=>heap_alloc_old w _ hk⟩,w.heap.size,.slice none 0 0,rfl,⟨h,⟨.pointer none,.inl rfl,heap_alloc_new w _⟩,World.ownsRow_nil _ _ _ _,by simp[Value.ownBlock],by constructor<;>intro _<;>rfl⟩,fun _=>rfl,.inl ⟨rfl,rfl⟩⟩
 simp[Instr.alloc,hz,newVar,newRow,Value.cells]
end Go.Proofs.YtjjbojomlfgjlaaGreatDoor
