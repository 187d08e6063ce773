/- Lemmas, walks and laws of this proof, part 3. Conditions: those that each names. -/
import Derived.Test.YtjjbojomlfgjlaaGreatDoorMK2
import Derived.LoopN
import Derived.ProofKit
import Derived.OpenShut
import Derived.JoinedCond
import Derived.JoinedOf
import Derived.JoinedAt
import Derived.RowKit3
import Derived.Carry
import Derived.Lib.SmallJoins
import Derived.Deep.Slices
import Derived.Shelf.Small.Bits
import Derived.Shelf.Small.Wraps
import Derived.Shelf.Strings.Search1
import Derived.Shelf.Strings.Search2
import Derived.Shelf.Strings.Search3
import Derived.Shelf.LaysM
import Derived.Shelf.LaysC
import Derived.Shelf.Strings.Shaped
import Derived.Shelf.Strings.SplitShaped
import Derived.Shelf.Strings.Builder1
import Derived.Shelf.Strconv.Itoa3
import Derived.Shelf.Strconv.ErrVarAll
import Derived.Test.YtjjbojomlfgjlaaGreatDoorProg
namespace Go.Vm
open Go.RowKit
set_option linter.unusedVariables false
def wpl (P:Program) (ops:Array Oper) (Q:Exit->Act->World->Prop):List Oper->(Act->World->Prop)->Act->World->Prop
 |[],K,a,w=>K a w
 |o::rest,K,a,w=>if Region.wanted o (yielded ops a.tmps) then o.wp P a w (wpl P ops Q rest K) Q else wpl P ops Q rest K (a.put o.dst undef) w
theorem aGI {P:Program} {ops:Array Oper} {Q:Exit->Act->World->Prop}:∀(l m:List Oper) {K:Act->World->Prop} {a:Act} {w:World},wpl P ops Q l (wpl P ops Q m K) a w->wpl P ops Q (l++m) K a w
 |[],m,K,a,w,h=>h
 |o::rest,m,K,a,w,h=>by
  unfold wpl at h;show wpl P ops Q (o::(rest++m)) K a w;unfold wpl;split
  ·rename_i f;rw[JV f] at h;exact Oper.wp_mono (fun a w h=>aGI rest m h) h
  ·rename_i f;rw[JK f] at h;exact aGI rest m h
theorem zR {P:Program} {ops:Array Oper} {Q:Exit->Act->World->Prop} {a:Act} {w:World} (h:wpl P ops Q ops.toList (Q .normal) a w):wpOps P ops Q (List.range ops.size) a w:=by
 have u:∀(l:List Oper) (k:Nat),(∀j,l[j]?=ops[k+j]?)->∀a w,wpl P ops Q l (Q .normal) a w->wpOps P ops Q (List.range' k l.length) a w:=by
  intro l
  induction l with
  |nil=>intro k _ a w h;exact h
  |cons o l I=>
   intro k G a w h;have J:ops[k]?=some o:=by simpa using (G 0).symm
   simp only[QT,XJ,wpOps,J];have f:=I (k+1) (fun j=>by have:=G (j+1);simpa[JP,Nat.add_comm 1 j] using this);unfold wpl at h;split
   ·rename_i r;rw[JV r] at h;exact .inl (Oper.wp_mono (fun a w h=>f a w h) h)
   ·rename_i r;rw[JK r] at h;exact f _ _ h
 have:=u ops.toList 0 (fun j=>XU) a w h;rwa [Array.length_toList,<- List.range_eq_range'] at this
section
variable {U:eW}
def uG (o:Oper):Bool:=
 match o.op with
 | .move _ | .pick _ _ _ | .build _ _ | .load _ _ | .nilCheck _ | .makeFunc _ _ _ | .binOp _ _ _ _ _ | .unOp _ _ _ | .fieldAddr _ _ _ | .field _ _ _ | .indexAddr _ _ _ | .index _ _ _ | .extract _ _ | .slice _ _ _ _ _ | .convert _ _ _ | .buildSlice _ _ _=>true
 | .call c=>match c.callee with
  | .builtin .len | .builtin .min | .builtin .max=>true
  | .value _=>true
  | .invoke _ _=>true
  |_=>false
 |_=>false
def qD (ops:Array Oper) (g:Nat):Option Tmp:=(ops[g]?).bind (·.dst)
inductive GS where
 |run
 |skip
 |branch (d:Nat) (b:Bool) (want:Bool)
 |bad
def yN (ops:Array Oper) (asm:List (Nat×Bool)) (s:ASt U) (o:Oper):GS:=
 match o.guard with
 |none=>.run
 |some (g,f)=>match qD ops g with
  |none=>.bad
  |some d=>match s.look d with
   | .raw (.tuple r)=>cond (Nat.beq r.size 0) .skip .bad
   | .bool b=>cond (asm.any fun p=>Nat.beq p.1 g&&(p.2==f)) (match b==f with
    |true=>.run
    |false=>.bad) (.branch d b f)
   |_=>.bad
def aOj (d:Nat) (o:Oper):Bool:=
 match o.op with
 | .pick (.tmp t) _ _=>Nat.beq t d
 |_=>false
def aHG (d:Nat):List Oper->Option (List Oper×Oper×List Oper)
 |[]=>none
 |o::r=>cond (aOj d o) (some ([],o,r)) (match aHG d r with
    |some (l,p,f)=>some (o::l,p,f)
    |none=>none)
def aCB (ops:Array Oper) (d:Nat) (f:Bool):List Nat->List Oper->Bool
 |_,[]=>true
 |u,o::r=>match o.guard,o.dst with
  |some (g,w'),some t=>match qD ops g with
   |some G=>((Nat.beq G d&&(w'==f))||u.any (Nat.beq G))&&!Nat.beq t d&&aCB ops d f (t::u) r
   |none=>false
  |_,_=>false
def mB (s:ASt U):List Oper->ASt U
 |[]=>s
 |o::r=>mB (s.put o.dst .any) r
def guarded (p:Prop):List Prop->List Prop
 |[]=>[]
 |cs=>[p->eQ cs]
def aNd (b f:Bool) (x y:Operand) (u r:aC U):Option (aC U):=
 match u,r with
 | .bool p,.bool q=>match f with
  |true=>match y with
   | .const (.bool false)=>some (.bool (b&&p))
   |_=>some (.bool (cond b p q))
  |false=>match x with
   | .const (.bool true)=>some (.bool (b||p))
   |_=>some (.bool (cond b q p))
 |_,_=>none
def qC (n:Nat) (o:Oper):Bool:=
 match o.dst with
 |some d=>Nat.blt d n
 |none=>true
def aIB (d:Nat):Nat:=100000+64*d
def aD5 (C:Cfg U) (s:ASt U) (o:Oper):Option (List Prop×ASt U):=
 match o.op with
 | .call c=>match c.callee with
  | .value x=>match s.eval x with
   | .fn f u=>match yW C s.objs f (c.argTypes.toList++List.replicate u.length 0) (c.args.toList.map s.eval++u) with
    |some (G,r)=>match o.dst with
     |some d=>cond (Nat.ble 2 r.news.length&&aJ4 s.objs (aIB (C.off+d)) r.news.length) (some (G,(qM s (aIB (C.off+d)) r.news).put o.dst (r.uK (aIB (C.off+d)+·)))) none
     |none=>none
    |none=>none
   |_=>none
  |_=>none
 |_=>none
def step (C:Cfg U) (n:Nat) (s:ASt U) (o:Oper):Option (List Prop×ASt U):=
 cond (qC n o) (match aop C o s.eval s.objs with
  |some (f,v,ob)=>some (f,(s.kA ob).put o.dst v)
  |none=>match aD5 C s o with
   |some r=>some r
   |none=>match zA C o s.eval s.objs with
    |some (f,v,ob)=>some (f,(s.kA ob).put o.dst v)
    |none=>none) none
def Cfg.down (C:Cfg U):Cfg U:={C with pur:=true,eff:=fun _=>none,sum:=fun f=>match C.sum f with
 |some m=>some fun xs=>match m xs with
  |some (u,r)=>cond r.aHy (some (u,r.down)) none
  |none=>none
 |none=>none}
def rU (C:Cfg U) (n:Nat) (ops:Array Oper):Nat->List (Nat×Bool)->List Oper->ASt U->Option (List Prop×ASt U)
 |0,_,_,_=>none
 |f+1,u,l,s=>match l with
  |[]=>some ([],s)
  |o::rest=>match yN ops u s o with
   | .run=>match step C n s o with
    |some (S,s')=>match rU C n ops f u rest s' with
     |some (I,G)=>some (S++I,G)
     |none=>none
    |none=>none
   | .skip=>cond (qC n o) (rU C n ops f u rest (s.put o.dst (.raw undef))) none
   | .branch d b r=>match aHG d (o::rest) with
    |some (L,O,J)=>match yN ops u (mB s L) O,O.op with
     | .run,.pick _ x y=>cond (L.all uG&&aCB ops d r [] L&&qC n O&&Nat.blt d n)
       (match rU C.down n ops f ((match o.guard with|some p=>[p]|none=>[])++u) L (s.set d (.bool r)) with
        |some (S,s1)=>match aNd b r x y (s1.eval (cond r x y)) ((mB s L).eval (cond r y x)) with
         |some v=>match rU C n ops f u J ((mB s L).put O.dst v) with
          |some (I,G)=>some (guarded (b=r) S++I,G)
          |none=>none
         |none=>none
        |none=>none) none
     |_,_=>none
    |none=>none
   | .bad=>none
end
end Go.Vm
namespace Go.Vm
open Go.RowKit
set_option linter.unusedVariables false
section
variable {U:eW} {n:Nat} {N:Nat->Prop} {w0:Fr} {w w':World} {ρ ρ':Own} {s s' s1 s2:ASt U} {a:Act}
theorem RR.weaken {E:Enc U} (h:RR E n N w0 ρ s1 a w) (ho:s2.objs=s1.objs) (G:∀t,s2.tmps t=.any\/s2.tmps t=s1.tmps t):RR E n N w0 ρ s2 a w:=by
 refine⟨h.defers,h.size,fun t=>?_,by rw[ho];exact h.objs,(fun nm g u I=>by obtain⟨ob,r,f⟩:=h.dom nm g u I;exact⟨ob,by rw[ho];exact r,f⟩),h.sep,h.below,h.nlt,h.kept,h.free,fun id u hp=>by rw[ho];exact h.pin id u hp,h.nle⟩;rcases G t with e|e
 ·rw[e];exact .any _
 ·rw[e];exact h.tmps t
theorem RR.bJf {E:Enc U} (h:RR E n N w0 ρ s a w) (dst:Option Tmp) (v:Value):RR E n N w0 ρ (s.put dst .any) (a.put dst v) w:=by
 cases dst with
 |none=>exact h
 |some d=>
  refine⟨h.defers,by simpa[Act.put] using h.size,fun t=>?_,h.objs,h.dom,h.sep,h.below,h.nlt,h.kept,h.free,h.pin,h.nle⟩;show Rel E w ρ _ (cond (Nat.beq t d) .any (s.tmps t)) (cond (Nat.blt t 1000000) ((a.tmps.setIfInBounds d v).getD t undef) (w0.hv t))
  by_cases f:t=d
  ·subst f;have:Nat.beq t t=true:=JS t;rw[this];exact .any _
  ·rw[iX f];have r:=h.tmps t;have e:(a.tmps.setIfInBounds d v).getD t undef=a.tmps.getD t undef:=by simp[Array.getElem?_setIfInBounds_ne (Ne.symm f)]
   rw[e];exact r
theorem aKJ {E:Enc U} {st:Nat->Prop} {b:Bool} {v:Value} (h:Rel E w ρ st (.bool b) v):v=.bool b:=by cases h;rfl
theorem aLm {E:Enc U} (h:RR E n N w0 ρ s a w) {ops:Array Oper} {g d:Nat} (u:qD ops g=some d) {b:Bool} (hb:s.look d=.bool b):yielded ops a.tmps g=some b:=by
 have G:=h.look d;rw[hb] at G;have f:=aKJ G;have I:a.tmps[d]?=some (.bool b):=by
  cases r:a.tmps[d]? with
  |none=>
   simp[r] at f;cases f
  |some v=>
   simp[r] at f;rw[f]
 unfold yielded;unfold qD at u;rw[u];simp[I]
theorem aYK {E:Enc U} (h:RR E n N w0 ρ s a w) {ops:Array Oper} {asm:List (Nat×Bool)} {o:Oper} (f:yN ops asm s o=.run):Region.wanted o (yielded ops a.tmps)=true:=by
 unfold yN at f;unfold Region.wanted;split at f
 ·rename_i G;rw[G]
 ·rename_i g r G;rw[G];split at f
  ·cases f
  ·rename_i d L;split at f
   ·rename_i I hv;cases u:Nat.beq I.size 0<;>rw[u] at f<;>cases f
   ·rename_i b hb;cases u:(asm.any fun p=>Nat.beq p.1 g&&(p.2==r)) with
    |false=>rw[u] at f;cases f
    |true=>
     rw[u] at f;simp only[QX] at f;split at f
     ·rename_i J;simp only[aLm h L hb];simpa using J
     ·cases f
   ·cases f
theorem bPP {E:Enc U} (h:RR E n N w0 ρ s a w) {ops:Array Oper} {asm:List (Nat×Bool)} {o:Oper} (f:yN ops asm s o=.skip):Region.wanted o (yielded ops a.tmps)=false:=by
 unfold yN at f;unfold Region.wanted;split at f
 ·cases f
 ·rename_i g r S;rw[S];split at f
  ·cases f
  ·rename_i d G;split at f
   ·rename_i J hv;have u:=h.look d;rw[hv] at u;have hy:yielded ops a.tmps g=none:=by
     generalize O:a.tmps.getD d undef=v at u;cases u;unfold yielded;unfold qD at G;rw[G];simp only[Option.bind_some];cases L:a.tmps[d]? with
     |none=>rfl
     |some v=>
      have:v=.tuple J:=by simpa[L] using O
      rw[this]
    simp[hy]
   ·rename_i b hb;cases I:(asm.any fun p=>Nat.beq p.1 g&&(p.2==r)) with
    |false=>rw[I] at f;cases f
    |true=>
     rw[I] at f;simp only[QX] at f;split at f<;>cases f
   ·cases f
theorem bPQ {ops:Array Oper} {asm:List (Nat×Bool)} {o:Oper} {d:Nat} {b r:Bool} (f:yN ops asm s o=.branch d b r):
  ∃g,o.guard=some (g,r)/\qD ops g=some d/\s.look d=.bool b:=by
 unfold yN at f;split at f
 ·cases f
 ·rename_i g u J;split at f
  ·cases f
  ·rename_i O L;split at f
   ·rename_i I hv;cases G:Nat.beq I.size 0<;>rw[G] at f<;>cases f
   ·rename_i S hb;cases G:(asm.any fun p=>Nat.beq p.1 g&&(p.2==u)) with
    |false=>
     rw[G] at f;simp only[QJ,GS.branch.injEq] at f;obtain⟨rfl,rfl,rfl⟩:=f;exact⟨g,J,L,hb⟩
    |true=>
     rw[G] at f;simp only[QX] at f;split at f<;>cases f
   ·cases f
theorem yV {o:Oper} (h:qC n o=true):∀d,o.dst=some d->d<n:=fun d f=>by
 unfold qC at h;rw[f] at h;exact QO h
theorem bQf {look:Nat->Option (bK U)} {b:Nat}:∀(m:Nat),aJ4 look b m=true->∀k,k<m->look (b+k)=none:=by
 intro m
 induction m with
 |zero=>intro _ k G;omega
 |succ m u=>
  intro h k G;simp only[aJ4,QU] at h
  by_cases f:k=m
  ·subst f;have r:=h.1;split at r
   ·assumption
   ·cases r
  ·exact u h.2 k XY
theorem bF1 {C:Cfg U} (hs:jC C w0) (h:RR C.E n N w0 ρ s a w) {o:Oper} (hd:∀d,o.dst=some d->d<n) {cs:List Prop} (ho:aD5 C s o=some (cs,s')) (hc:eQ cs)
  {K:Act->World->Prop} {Q:Exit->Act->World->Prop} (hK:∀ρ' a' w',RR C.E n N w0 ρ' s' a' w'->K a' w'):o.wp C.P a w K Q:=by
 obtain⟨dst,op,ty,pos,after,guard⟩:=o;unfold aD5 at ho;simp only at ho hd;cases op<;>(try simp only at ho)<;>(try (cases ho;done))
 case call c=>
 obtain⟨callee,args,argTypes⟩:=c;simp only at ho;split at ho
 ·rename_i x;split at ho
  ·rename_i f J hxe;split at ho
   ·rename_i nH r hr;split at ho
    ·rename_i d;obtain⟨I,ho⟩:=cM ho;simp only[QQ,QK] at ho;obtain⟨rfl,rfl⟩:=ho;simp only[QU] at I;have V:=bQf _ I.2;have O:=h.eval x;rw[hxe] at O;generalize hfv:a.eval x=fv at O;cases O with
     |fn _ _ L hvn hvl=>
     have G:(args.map a.eval++L).size=(args.toList.map s.eval++J).length:=by simp[hvn]
     obtain⟨Z,u⟩:=bCD hs h (fun _ _ h=>h) (args:=args.map a.eval++L) G (fun k hk=>by
      by_cases S:k<args.size
      ·have e:(args.map a.eval++L).getD k undef=a.eval args[k]:=by simp[Array.getElem?_append,S]
       rw[e];rw[JO (by simpa using S)];simp only[List.getElem_map,Array.getElem_toList];exact h.eval _
      ·have fC:k-args.size<J.length:=by simp at hk;omega
       have e:(args.map a.eval++L).getD k undef=L.getD (k-args.size) undef:=by
        have:k-args.size<L.size:=XY;simp[Array.getElem?_append,S]
       rw[e,List.getElem_append_right (by simp;omega)];have:=hvl (k-args.size) fC;simpa using this) hr hc
     refine aGJ (f:=f) (args:=args.map a.eval++L) ?_ (u.mono ?_)
     ·have e:#[]++args.map a.eval=args.map a.eval:=XU;simp[execOp,resolve,hfv,Deferred.ofValue,invoke,Z]
     ·rintro e w' ⟨v,rfl,hv⟩
      obtain⟨ρ',hR,hrel⟩:=hv (aIB (C.off+d)) V;exact⟨v,rfl,hK ρ' _ w' (hR.put (some d) hd hrel)⟩
    ·cases ho
   ·cases ho
  ·cases ho
 ·cases ho
theorem aQw {C:Cfg U} (G:jC C w0) (h:RR C.E n N w0 ρ s a w) {o:Oper} {cs:List Prop} (ho:step C n s o=some (cs,s')) (J:eQ cs)
  {K:Act->World->Prop} {Q:Exit->Act->World->Prop} (O:∀ρ' a' w',RR C.E n N w0 ρ' s' a' w'->K a' w'):o.wp C.P a w K Q:=by
 unfold step at ho;obtain⟨I,ho⟩:=cM ho;split at ho
 ·rename_i S v ob f;simp only[QQ,QK] at ho;obtain⟨rfl,rfl⟩:=ho;exact bCV G h (fun _ _ h=>h) (fun _ _ h=>h) (yV I) f J (fun ρ' u w' L=>O _ _ _ L)
 ·split at ho
  ·rename_i r V;cases ho;exact bF1 G h (yV I) V J O
  ·rename_i f _ _;split at ho
   ·rename_i S v ob hx;simp only[QQ,QK] at ho;obtain⟨rfl,rfl⟩:=ho;refine bCW G h (fun _ _ h=>h) (fun _ _ h=>h) (yV I) (r:=v) (ob:=ob) ?_ J (fun ρ' u w' L=>O _ _ _ L);unfold rW;rw[f];exact hx
   ·cases ho
theorem aRA {d:Nat}:∀{l G:List Oper} {u:Oper} {r:List Oper},aHG d l=some (G,u,r)->l=G++u::r/\∃x y,u.op=.pick (.tmp d) x y:=by
 intro l
 induction l with
 |nil=>intro G u r h;cases h
 |cons o l L=>
  intro G u r h;simp only[aHG] at h;cases f:aOj d o with
  |true=>
   rw[f] at h;simp only[QX,QQ,QK] at h;obtain⟨rfl,rfl,rfl⟩:=h;refine⟨rfl,?_⟩;unfold aOj at f;split at f
   ·rename_i t x y J;obtain rfl:=QZ f;exact⟨x,y,J⟩
   ·cases f
  |false=>
   rw[f] at h;simp only[QJ] at h;split at h
   ·rename_i Z p V I;simp only[QQ,QK] at h;obtain⟨rfl,rfl,rfl⟩:=h;obtain⟨S,O⟩:=L I;exact⟨by rw[S];rfl,O⟩
   ·cases h
theorem bBs:∀(l:List Oper) (s:ASt U),(mB s l).objs=s.objs:=by
 intro l
 induction l with
 |nil=>intro s;rfl
 |cons o l f=>
  intro s;rw[mB,f];cases o.dst<;>rfl
theorem bTd:∀(l:List Oper) (s:ASt U) (t:Nat),((∃o∈l,o.dst=some t)\/s.tmps t=.any)/\(mB s l).tmps t=.any\/(∀o∈l,o.dst≠some t)/\(mB s l).tmps t=s.tmps t:=by
 intro l
 induction l with
 |nil=>intro s t;exact .inr ⟨XU,rfl⟩
 |cons o l O=>
  intro s t;have u:(s.put o.dst .any).tmps t=if o.dst=some t then .any else s.tmps t:=by
   cases r:o.dst with
   |none=>simp[ASt.put]
   |some d=>
    show cond (Nat.beq t d) .any (s.tmps t)=_
    by_cases L:t=d
    ·subst L;simp
    ·rw[iX L,JK (fun e=>L (QW e).symm)];rfl
  rw[mB];rcases O (s.put o.dst .any) t with ⟨I,G⟩|⟨I,G⟩
  ·refine .inl ⟨?_,G⟩;rcases I with ⟨J,f,r⟩|I
   ·exact .inl ⟨J,QE _ f,r⟩
   ·rw[u] at I
    by_cases r:o.dst=some t
    ·exact .inl ⟨o,JJ,r⟩
    ·rw[JK r] at I;exact .inr I
  ·rw[u] at G
   by_cases r:o.dst=some t
   ·rw[JV r] at G;exact .inl ⟨.inl ⟨o,JJ,r⟩,G⟩
   ·rw[JK r] at G;exact .inr ⟨fun J f=>by
     rcases List.mem_cons.1 f with rfl|f
     ·exact r
     ·exact I J f,G⟩
theorem bFm {C:Cfg U} {ops:Array Oper} {Q:Exit->Act->World->Prop} {d:Nat} {b r:Bool} (hbw:b≠r):
  ∀(G:List Oper) (I:List Nat) (s:ASt U) (a:Act),RR C.E n N w0 ρ s a w->a.tmps.getD d undef=.bool b->(∀t∈I,a.tmps.getD t undef=undef)->aCB ops d r I G=true->
   ∀{K:Act->World->Prop},(∀a',RR C.E n N w0 ρ (mB s G) a' w->a'.tmps.getD d undef=.bool b->K a' w)->wpl C.P ops Q G K a w:=by
 intro G
 induction G with
 |nil=>intro I s a h O _ _ K Z;exact Z a h O
 |cons o G ih=>
  intro I s a h O J ho K Z;simp only[aCB] at ho;split at ho
  ·rename_i g w1 t hg ht;split at ho
   ·rename_i dg L;simp only[QU,Bool.or_eq_true,JF] at ho;obtain⟨⟨h1,h2⟩,h3⟩:=ho;have htd:t≠d:=fun e=>by
     subst e;rw[JS] at h2;cases h2
    have hy:yielded ops a.tmps g≠some w1:=by
     unfold yielded;unfold qD at L;rw[L];simp only[Option.bind_some];rcases h1 with ⟨h4,h5⟩|h4
     ·obtain rfl:=QZ h4;have hw1:w1=r:=by simpa using h5
      cases S:a.tmps[dg]? with
      |none=>simp
      |some v=>
       have:v=.bool b:=by simpa[S] using O
       rw[this];simp only[ne_eq,QQ];rw[hw1];exact hbw
     ·obtain⟨t',f,hb⟩:=KH.1 h4;obtain rfl:=QZ hb;have:=J _ f;cases S:a.tmps[dg]? with
      |none=>simp
      |some v=>
       have:v=undef:=by simpa[S] using this
       rw[this];simp[undef]
    unfold wpl;rw[JK (by
     unfold Region.wanted;rw[hg];simpa using hy)]
    have u:∀t',t'≠t->(a.put o.dst undef).tmps.getD t' undef=a.tmps.getD t' undef:=fun t' hne=>by
     rw[ht];simp[Act.put,Array.getElem?_setIfInBounds_ne (Ne.symm hne)]
    refine ih (t::I) (s.put o.dst .any) (a.put o.dst undef) (h.bJf _ _) (by rw[u d (Ne.symm htd)];exact O) (fun t' f=>?_) h3 (fun a' hR hd'=>Z a' hR hd')
    by_cases V:t'=t
    ·subst V;rw[ht]
     by_cases hlt:t'<a.tmps.size
     ·simp[Act.put,hlt]
     ·have:a.tmps.size<=t':=XY;simp[Act.put,this]
    ·rw[u t' V];rcases List.mem_cons.1 f with e|f
     ·exact absurd e V
     ·exact J t' f
   ·cases ho
  ·cases ho
def aAs (C:Cfg U):Prop:=(∀f m xs u r,C.sum f=some m->m xs=some (u,r)->r.news=[])/\(∀f,C.eff f=none)/\C.pur=true
theorem bTI (c:aC U):iF (iP c)=[]:=by cases c<;>rfl
theorem aCk:∀(l:List (aC U)) (k:Nat),jN (fun _=>iP) k l=l.map iP:=by
 intro l
 induction l with
 |nil=>intro k;rfl
 |cons c l f=>intro k;simp only[jN,List.map_cons];rw[f]
theorem bBe (l:List (aC U)):(l.map iP).flatMap iF=[]:=by
 induction l with
 |nil=>rfl
 |cons c l f=>rw[List.map_cons,List.flatMap_cons,bTI,f];rfl
theorem bBf (g:Nat->aC U->aC U) (f:g=fun _=>iP) (k:Nat) (c:aC U):gX (mJ g k c)=[]:=by
 subst f;cases c with
 |agg l=>simp only[mJ,gX];rw[aCk];exact bBe l
 |_=>rfl
theorem bBg (r:aC U):r.down.news=[]:=by
 cases r with
 |tup l=>
  show (jG (fun _=>iP) 0 l).flatMap gX=[];have:∀(l:List (aC U)) (k:Nat),(jG (fun _=>iP) k l).flatMap gX=[]:=by
   intro l
   induction l with
   |nil=>intro k;rfl
   |cons c l f=>
    intro k;simp only[jG,List.flatMap_cons];rw[f,bBf _ rfl];rfl
  exact this l 0
 |agg l=>
  show (jN (fun _=>iP) 0 l).flatMap iF=[];rw[aCk];exact bBe l
 |_=>rfl
theorem bLe (C:Cfg U):aAs C.down:=by
 refine⟨fun f m xs G r u hm=>?_,fun f=>rfl,rfl⟩;simp only[Cfg.down] at u;split at u
 ·cases u;simp only at hm;split at hm
  ·obtain⟨_,hm⟩:=cM hm;cases hm;exact bBg _
  ·cases hm
 ·cases u
theorem bTG (f:Nat->Nat) (k:Nat) (c:aC U):gW f k (iP c)=iP c:=by cases c<;>rfl
theorem bBc (f:Nat->Nat):∀(l:List (aC U)) (k:Nat),jN (gW f) k (l.map iP)=l.map iP:=by
 intro l
 induction l with
 |nil=>intro k;rfl
 |cons c l r=>intro k;simp only[List.map_cons,jN];rw[bTG,r]
theorem bBd (f:Nat->Nat) (k k':Nat) (c:aC U):mJ (gW f) k (mJ (fun _=>iP) k' c)=mJ (fun _=>iP) k' c:=by
 cases c with
 |agg l=>simp only[mJ];rw[aCk,bBc]
 |_=>rfl
theorem bTH (f:Nat->Nat) (r:aC U):r.down.uK f=r.down:=by
 cases r with
 |tup l=>
  have:∀(l:List (aC U)) (k u:Nat),jG (gW f) k (jG (fun _=>iP) u l)=jG (fun _=>iP) u l:=by
   intro l
   induction l with
   |nil=>intro k u;rfl
   |cons c l G=>
    intro k u;simp only[jG];rw[bBd,G]
  exact congrArg aC.tup (this l 0 0)
 |agg l=>
  show aC.agg (jN (gW f) 0 (jN (fun _=>iP) 0 l))=_;rw[aCk,bBc,<- aCk l 0];rfl
 |_=>rfl
theorem gE.content {E:Enc U} {base k:Nat} {st:Nat->Prop} {x:eA U} {u:Value} (h:gE E w ρ st base k x.obj) (hst:∀b,st b->fB N w b) (hN:∀b,N b->b<base) (hu:Rel E w ρ st (.osl k 0) u):Rel E w cW (fB N w) (.sl x.2.1 x.2.2) u:=by
 have hout:∀{e:TypeId} {m n:Nat} {S:List Value} {v:Value},w.ownsRow base e m v n S->∀b o l c,v=.slice (some ⟨b,o,none⟩) l c->fB N w b:=fun h2 b o l c hv=>by
  rcases h2.2 with ⟨h0,_⟩|⟨gb,Z,cur,I,hbase,hgb,_⟩
  ·rw[hv] at h0;cases h0
  ·rw[hv] at I;simp only[KW,QQ,KR,and_true] at I;obtain⟨⟨rfl,_⟩,_⟩:=I;exact⟨(JQ.1 hgb).1,fun hq=>by have:=hN _ hq;omega⟩
 have G:∀{t:U.τ} {xs:List (U.T t)} {v:Value} {S:List Value},w.ownsRow base (U.ety t) (U.size t) v xs.length S->(∀i (h:i<xs.length) k (hk:k<(E.enc t xs[i]).length),Rel E w cW (fB N w) (E.enc t xs[i])[k] (S.getD (i*U.size t+k) undef))->Rel E w cW (fB N w) (.sl t xs) v:=fun {t xs v S} h2 h3=>by
  rcases aAU h2 h3 with ⟨⟨ad,rfl⟩,rfl⟩|⟨b,o,Z,f,rfl,hcap,hc,hl'⟩
  ·exact .slE t ad
  ·exact .sl t xs b o Z f (hout h2 _ _ _ _ rfl) hcap hc hl'
 have fl:∀{c:aC U} {v:Value},c.flat=true->Rel E w ρ st c v->Rel E w cW (fB N w) c v:=fun hc hv=>(hv.flat (ρ':=cW) hc).mono (fun b hb=>⟨hst b hb,rfl⟩) (fun _ _ _ hr=>by cases hr)
 have V:∀{L:Value},ρ (.ob k)=some (0,L)->L=u:=fun {L} J=>by
  cases hu with
  |osl _ _ _ q hp=>
   rw[J] at q;simpa using q
  |oslOld _ _ g' u'' _ q hg=>
   rw[J] at q;simp only[QQ,QK] at q;omega
 obtain⟨d,t,xs⟩:=x;cases d with
 |false=>
  obtain⟨L,cs',J,q2,q3,q4⟩:=h;obtain rfl:=V J;exact G q3 (fun i hi O r=>fl (E.enc_flat t _ _ (QN r)).1 (q4 i hi O r))
 |true=>
  obtain⟨L,cs',J,q2,q3,q4,q5,q6⟩:=h;obtain rfl:=V J;refine G q3 (fun i hi O r=>?_);obtain⟨t1,ys,v1,ds,r1,r2,r3,r4,r5,r6⟩:=q6 i hi;have mS:O=0:=by
   rw[E.enc_len,q4] at r;omega
  subst mS;have e1:(E.enc t xs[i])[0]=.sl t1 ys:=by simp only[r1];rfl
  show Rel E w cW (fB N w) (E.enc t xs[i])[0] _;rw[e1,q4,Nat.mul_one,JL,r3];exact G r5 (fun i hi O r=>fl (E.enc_flat t1 _ _ (QN r)).1 (r6 i hi O r))
theorem mY.down {E:Enc U} {base:Nat} {r:aC U} {v:Value} (S:r.aHy=true) (Z:∀b,N b->b<base) (h:mY E base N w r v):Rel E w cW (fB N w) r.down v:=by
 obtain⟨ρr,f1,f2,f3,f4⟩:=h;refine aER (p:=fun c=>ok1 c=true) (aMz S) (fun k c u O I J=>?_) f1;have f:(∃x,iF c=[x]/\gW (fun k=>k) k c=.osl k 0/\iP c=.sl x.2.1 x.2.2)\/(iF c=[]/\gW (fun k=>k) k c=c/\iP c=c):=by
  cases c<;>first|exact .inl ⟨_,rfl,rfl,rfl⟩|exact .inr ⟨rfl,rfl,rfl⟩
 rcases f with ⟨x,G,e1,L⟩|⟨G,e1,L⟩
 ·rw[e1] at J;show Rel E w cW (fB N w) (iP c) u;rw[L];exact(f2 k x (I x G)).content (fun b q=>⟨q.1,q.2.1⟩) Z J
 ·rw[e1] at J;show Rel E w cW (fB N w) (iP c) u;rw[L];refine(J.flat (ρ':=cW) ?_).mono (fun b hb=>⟨⟨hb.1,hb.2.1⟩,rfl⟩) (fun _ _ _ V=>by cases V);cases c<;>first|exact O|cases G
theorem jC.down {C:Cfg U} (h:jC C w0):jC C.down w0:=by
 refine⟨fun f m J=>?_,fun f m J=>by cases J⟩;simp only[Cfg.down] at J;split at J
 ·rename_i Z L;cases J;refine⟨(h.1 f Z L).1,fun N w O xs cs r hb hN I hm hc=>?_⟩;simp only at hm;split at hm
  ·rename_i nH r0 nD;obtain⟨S,hm⟩:=cM hm;cases hm;refine((h.1 f Z L).2 N w O xs _ _ hb hN I nD hc).mono ?_
   rintro e w' ⟨v,rfl,hv,V⟩
   refine⟨v,rfl,⟨cW,?_,?_,?_,?_⟩,V⟩
   ·rw[bTH];exact(hv.down S hN).mono (fun b q=>⟨⟨q.1,q.2,fun _ _ _ G=>by cases G⟩,rfl⟩) (fun _ _ _ G=>by cases G)
   ·intro k x hk;rw[bBg] at hk;cases hk
   ·intro k g u G;cases G
   ·intro _ _ _ _ _ _ _ G;cases G
  ·cases hm
 ·cases J
theorem bVs {C:Cfg U} (I:aAs C) {o:Oper} {ev:Operand->aC U} {look:Nat->Option (bK U)} {cs:List Prop} {v:aC U} {ob:Option (Nat×bK U)} (hp:uG o=true) (h:aop C o ev look=some (cs,v,ob)):ob=none:=by
 have r:∀{x:Option (aC U)},val? x=some (cs,v,ob)->ob=none:=fun {x} h=>by
  unfold val? at h;split at h
  ·simp only[QQ,QK] at h;exact h.2.2.symm
  ·cases h
 have f:∀{x:aC U},val x=some (cs,v,ob)->ob=none:=fun {x} h=>by
  simp only[val,QQ,QK] at h;exact h.2.2.symm
 obtain⟨dst,op,ty,pos,after,Z⟩:=o;unfold aop at h;unfold uG at hp;cases op<;>(try simp only at h)<;>(try simp only at hp)<;>(try (cases hp;done))
 case move=>exact f h
 case convert=>
  split at h
  ·exact f h
  ·cases h
 case buildSlice=>
  split at h
  ·split at h
   ·have h:=(cM h).2;split at h
    ·split at h
     ·rw[I.2.2,QX] at h;simp only[QQ,QK] at h;exact h.2.2.symm
     ·cases h
    ·cases h
   ·cases h
  ·cases h
 case nilCheck=>
  split at h
  ·exact f h
  ·exact f (cM h).2
  ·exact f (cM h).2
  ·exact f h
  ·cases h
 case makeFunc=>
  split at h
  ·exact f (cM h).2
  ·cases h
 case pick=>
  split at h
  ·exact f h
  ·split at h<;>exact f h
  ·cases h
 case build=>
  split at h
  ·split at h
   ·exact f h
   ·cases h
  ·cases h
 case load=>
  split at h
  ·exact r h
  ·unfold aIs at h;split at h
   ·split at h
    ·split at h
     ·cases (cM h).2;rfl
     ·cases h
    ·split at h
     ·cases (cM h).2;rfl
     ·cases h
    ·cases h
   ·cases h
 case binOp=>
  split at h
  ·exact f h
  ·split at h
   ·simp only[QQ,QK] at h;exact h.2.2.symm
   ·cases h
 case unOp=>exact r h
 case fieldAddr=>
  split at h
  ·unfold aIl at h;split at h
   ·exact f h
   ·exact f (cM h).2
   ·exact f h
   ·exact f (cM h).2
   ·cases h
  ·cases h
 case field=>
  split at h
  ·split at h
   ·exact r h
   ·cases h
  ·cases h
 case indexAddr=>
  split at h
  ·split at h
   ·rename_i q0 u;obtain rfl:=QW h;unfold aJS at u;split at u
    ·split at u
     ·have:=(cM u).2;simp only[QQ,QK] at this;exact this.2.2.symm
     ·split at u
      ·have:=(cM u).2;simp only[QQ,QK] at this;exact this.2.2.symm
      ·have:=(cM u).2;simp only[QQ,QK] at this;exact this.2.2.symm
      ·cases u
     ·split at u
      ·have:=(cM u).2;simp only[QQ,QK] at this;exact this.2.2.symm
      ·cases u
     ·simp only[QQ,QK] at u;exact u.2.2.symm
     ·split at u
      ·have:=(cM u).2;simp only[QQ,QK] at this;exact this.2.2.symm
      ·cases u
     ·cases u
    ·split at u
     ·split at u
      ·simp only[QQ,QK] at u;exact u.2.2.symm
      ·simp only[QQ,QK] at u;exact u.2.2.symm
      ·cases u
     ·cases u
    ·cases u
   ·unfold aJR at h;split at h
    ·split at h
     ·cases (cM h).2;rfl
     ·cases h
    ·cases h
  ·cases h
 case index=>
  split at h
  ·unfold indexOf at h;split at h
   ·simp only[QQ,QK] at h;exact h.2.2.symm
   ·split at h
    ·split at h
     ·simp only[QQ,QK] at h;exact h.2.2.symm
     ·cases h
    ·cases h
   ·cases h
  ·cases h
 case slice t x L hi mx=>
  have S:∀{x:aC U} {L hi:Option (aC U)},uD C t x L hi=some (cs,v,ob)->ob=none:=fun {x L hi} h=>by
   unfold uD at h;split at h
   ·split at h<;>first
     | (simp only[QQ,QK] at h;exact h.2.2.symm)
     | (cases h;done)
   ·have h:=(cM h).2;split at h<;>first
     | (simp only[QQ,QK] at h;exact h.2.2.symm)
     | (cases h;done)
   ·cases h
  cases mx with
  |some m=>cases h
  |none=>cases L<;>cases hi<;>exact S h
 case extract=>
  split at h
  ·exact r h
  ·cases h
 case call c=>
  obtain⟨O,args,J⟩:=c;simp only at h hp;split at h
  ·split at h
   ·split at h
    ·exact f h
    ·cases h
   ·cases h
  ·exact r h
  ·exact r h
  ·cases hp
  ·rename_i x;split at h
   ·rw[I.2.1] at h;simp only at h;unfold aJo at h;split at h
    ·rename_i nH r0 G;have lE:r0.news=[]:=by
      unfold yW at G;split at G
      ·rename_i m hm;split at G
       ·split at G
        ·rename_i V;obtain⟨_,G⟩:=cM G;cases G;exact I.1 _ _ _ _ _ hm V
        ·cases G
       ·cases G
      ·cases G
     rw[lE] at h;cases h;rfl
    ·cases h
   ·cases h
  ·cases h
theorem bVw {C:Cfg U} (I:aAs C) {o:Oper} {Z:Operand->aC U} {look:Nat->Option (bK U)} {cs:List Prop} {v:aC U} {ob:Option (Nat×bK U)} (hp:uG o=true) (h:aA2 C o Z look=some (cs,v,ob)):ob=none:=by
 obtain⟨dst,op,ty,pos,O,L⟩:=o;unfold aA2 at h;unfold uG at hp;cases op<;>(try simp only at h)<;>(try simp only at hp)<;>(try (cases hp;done))<;>(try (cases h;done))
 case slice t x r hi V=>
  have G:∀{x:aC U} {r hi:Option (aC U)},o6 C look t x r hi=some (cs,v,ob)->ob=none:=fun {x r hi} h=>by
   unfold o6 at h;split at h
   ·split at h
    ·have h:=(cM h).2;split at h<;>first
      | (simp only[QQ,QK] at h;exact h.2.2.symm)
      | (cases h;done)
    ·cases h
   ·cases h
  cases V with
  |some m=>cases h
  |none=>cases r<;>cases hi<;>first| (exact G h)| (cases h;done)
 case buildSlice t len J=>
  exfalso;split at h
  ·unfold aKI at h;split at h
   ·split at h
    ·have hb:=(cM h).1;rw[I.2.2] at hb;simp at hb
    ·cases h
   ·cases h
  ·cases h
 case call c=>
  exfalso;obtain⟨u,S,f⟩:=c;simp only at h hp;split at h
  ·simp only at hp;cases hp
  ·cases h
theorem bVu {C:Cfg U} (f:aAs C) {o:Oper} {u:Operand->aC U} {look:Nat->Option (bK U)} {cs:List Prop} {v:aC U} {ob:Option (Nat×bK U)} (hp:uG o=true) (h:zA C o u look=some (cs,v,ob)):ob=none:=by
 unfold zA at h;split at h
 ·rename_i G r;cases h;exact bVw f hp r
 ·split at h
  ·simp only[QQ,QK] at h;exact h.2.2.symm
  ·cases h
end
end Go.Vm
namespace Go.Vm
open Go.RowKit
set_option linter.unusedVariables false
section
variable {U:eW} {n:Nat} {N:Nat->Prop} {w0:Fr} {w w':World} {ρ ρ':Own} {s s' s1 s2:ASt U} {a:Act}
theorem bBl (l m:List Prop):eQ (l++m)↔eQ l/\eQ m:=by
 simp only[bTZ,KK];exact⟨fun h=>⟨fun p hp=>h p (.inl hp),fun p hp=>h p (.inr hp)⟩,fun ⟨r,f⟩ p hp=>hp.elim (r p) (f p)⟩
theorem bPO {p:Prop} {cs:List Prop} (h:eQ (guarded p cs)) (hp:p):eQ cs:=by
 cases cs with
 |nil=>trivial
 |cons c cs=>exact h hp
theorem bF2 {C:Cfg U} (G:aAs C) {o:Oper} {r:List Prop×ASt U} (h:aD5 C s o=some r):False:=by
 unfold aD5 at h;split at h
 ·split at h
  ·split at h
   ·split at h
    ·rename_i S L f;split at h
     ·obtain⟨u,_⟩:=cM h;simp only[QU] at u;have J:=QO u.1;have O:L.news=[]:=by
       unfold yW at f;split at f
       ·rename_i m hm;split at f
        ·split at f
         ·rename_i I;obtain⟨_,f⟩:=cM f;cases f;exact G.1 _ _ _ _ _ hm I
         ·cases f
        ·cases f
       ·cases f
      rw[O] at J;simp at J
     ·cases h
    ·cases h
   ·cases h
  ·cases h
 ·cases h
theorem bFZ {C:Cfg U} (f:aAs C) {o:Oper} {cs:List Prop} (hp:uG o=true) (h:step C n s o=some (cs,s')):s'.objs=s.objs/\∀t,o.dst≠some t->s'.tmps t=s.tmps t:=by
 have u:∀v:aC U,((s.kA none).put o.dst v).objs=s.objs/\∀t,o.dst≠some t->((s.kA none).put o.dst v).tmps t=s.tmps t:=fun v=>by
  cases O:o.dst with
  |none=>exact⟨rfl,fun t _=>rfl⟩
  |some d=>
   refine⟨rfl,fun t L=>?_⟩;show cond (Nat.beq t d) v (s.tmps t)=s.tmps t;rw[iX (fun e=>L (by rw[e]))];rfl
 unfold step at h;obtain⟨_,h⟩:=cM h;split at h
 ·rename_i I v ob G;simp only[QQ,QK] at h;obtain⟨rfl,rfl⟩:=h;obtain rfl:=bVs f hp G;exact u v
 ·split at h
  ·rename_i r J;cases h;exact(bF2 f J).elim
  ·split at h
   ·rename_i I v ob hx;simp only[QQ,QK] at h;obtain⟨rfl,rfl⟩:=h;obtain rfl:=bVu f hp hx;exact u v
   ·cases h
theorem aM9 (s:ASt U) (dst:Option Tmp) (v:aC U):(s.put dst v).objs=s.objs/\∀t,dst≠some t->(s.put dst v).tmps t=s.tmps t:=by
 cases dst with
 |none=>exact⟨rfl,fun t _=>rfl⟩
 |some d=>
  refine⟨rfl,fun t f=>?_⟩;show cond (Nat.beq t d) v (s.tmps t)=s.tmps t;rw[iX (fun e=>f (by rw[e]))];rfl
theorem bTe (l:List Oper) (s:ASt U):(mB s l).objs=s.objs/\∀t,(∀o∈l,o.dst≠some t)->(mB s l).tmps t=s.tmps t:=by
 refine⟨bBs l s,?_⟩
 induction l generalizing s with
 |nil=>intro t _;rfl
 |cons o l G=>
  intro t r;rw[mB,G _ t (fun u f=>r u (QE _ f))];exact(aM9 s o.dst .any).2 t (r o JJ)
theorem bTW {ops:Array Oper}:∀(f:Nat) (C:Cfg U) (u:aAs C) (asm:List (Nat×Bool)) (l:List Oper) (s s':ASt U) (cs:List Prop),rU C n ops f asm l s=some (cs,s')->l.all uG=true->
  s'.objs=s.objs/\∀t,(∀o∈l,o.dst≠some t)->s'.tmps t=s.tmps t:=by
 intro f
 induction f with
 |zero=>intro C u asm l s s' cs h;cases h
 |succ f ih=>
  intro C u asm l s s' cs h hp;unfold rU at h;split at h
  ·simp only[QQ,QK] at h;obtain⟨rfl,rfl⟩:=h;exact⟨rfl,fun _ _=>rfl⟩
  ·rename_i o rest;simp only[List.all_cons,QU] at hp;split at h
   ·split at h
    ·rename_i cs1 s1 sY;split at h
     ·rename_i cs2 s2 Z;simp only[QQ,QK] at h;obtain⟨rfl,rfl⟩:=h;obtain⟨V,S⟩:=bFZ u hp.1 sY;obtain⟨O,L⟩:=ih C u _ _ _ _ _ Z hp.2;exact⟨O.trans V,fun t G=>(L t (fun I r=>G I (QE _ r))).trans (S t (G o JJ))⟩
     ·cases h
    ·cases h
   ·obtain⟨_,h⟩:=cM h;obtain⟨O,L⟩:=ih C u _ _ _ _ _ h hp.2;obtain⟨V,S⟩:=aM9 s o.dst (.raw undef);exact⟨O.trans V,fun t G=>(L t (fun I r=>G I (QE _ r))).trans (S t (G o JJ))⟩
   ·rename_i d b want hg;split at h
    ·rename_i sg pk rest' hsp;obtain⟨hl,_⟩:=aRA hsp;split at h
     ·obtain⟨hcnd,h⟩:=cM h;split at h
      ·split at h
       ·split at h
        ·rename_i cs2 s2 Z;simp only[QQ,QK] at h;obtain⟨rfl,rfl⟩:=h;have J:(o::rest).all uG=true:=by simp[hp.1,hp.2]
         rw[hl] at J ⊢;simp only[List.all_append,List.all_cons,QU] at J;obtain⟨O,L⟩:=ih C u _ _ _ _ _ Z J.2.2;rename_i x y v _ _;obtain⟨V,S⟩:=bTe sg s;obtain⟨h5,h6⟩:=aM9 (mB s sg) pk.dst v;refine⟨O.trans (h5.trans V),fun t G=>?_⟩;rw[L t (fun I r=>G I (by simp[r])),h6 t (G pk XU),S t (fun I r=>G I (by simp[r]))]
        ·cases h
       ·cases h
      ·cases h
     ·cases h
    ·cases h
   ·cases h
theorem bFn {ops:Array Oper} {d:Nat} {u:Bool}:∀(r:List Oper) (G:List Nat),aCB ops d u G r=true->∀o∈r,o.dst≠some d:=by
 intro r
 induction r with
 |nil=>intro G _ o ho;cases ho
 |cons o r J=>
  intro G h I f;simp only[aCB] at h;split at h
  ·rename_i g O t S L;split at h
   ·simp only[QU,JF] at h;rcases List.mem_cons.1 f with rfl|f
    ·rw[L];intro e;obtain rfl:=QW e;rw[JS] at h;cases h.1.2
    ·exact J _ h.2 I f
   ·cases h
  ·cases h
theorem aP9 {ops:Array Oper} {Q:Exit->Act->World->Prop}:∀(f:Nat) (C:Cfg U) (hs:jC C w0) (asm:List (Nat×Bool)) (l:List Oper) (s s':ASt U) (cs:List Prop),rU C n ops f asm l s=some (cs,s')->eQ cs->
  ∀(ρ:Own) (a:Act) (w:World),RR C.E n N w0 ρ s a w->∀(K:Act->World->Prop),(∀ρ' a' w',RR C.E n N w0 ρ' s' a' w'->K a' w')->wpl C.P ops Q l K a w:=by
 intro f
 induction f with
 |zero=>intro C hs asm l s s' cs h;cases h
 |succ f ih=>
  intro C hs asm l s s' cs h hc ρ a w V K hK;unfold rU at h;split at h
  ·simp only[QQ,QK] at h;obtain⟨rfl,rfl⟩:=h;exact hK ρ a w V
  ·rename_i o rest;split at h
   ·rename_i hg;split at h
    ·rename_i cs1 s1 sY;split at h
     ·rename_i cs2 s2 uU;simp only[QQ,QK] at h;obtain⟨rfl,rfl⟩:=h;rw[bBl] at hc;unfold wpl;rw[JV (aYK V hg)];exact aQw hs V sY hc.1 (fun ρ' a' w' r=>ih C hs _ _ _ _ _ uU hc.2 ρ' a' w' r K hK)
     ·cases h
    ·cases h
   ·rename_i hg;obtain⟨hd,h⟩:=cM h;unfold wpl;rw[JK (by rw[bPP V hg];simp)];exact ih C hs _ _ _ _ _ h hc ρ _ w (V.put o.dst (yV hd) (.raw _)) K hK
   ·rename_i d b I hg;split at h
    ·rename_i S pk J hsp;obtain⟨hl,x0,y0,hpk0⟩:=aRA hsp;split at h
     ·rename_i cc x y hgp hpk;rw[hpk0] at hpk;simp only[Op.pick.injEq] at hpk;obtain⟨rfl,rfl,rfl⟩:=hpk;obtain⟨hcnd,h⟩:=cM h;simp only[QU] at hcnd;obtain⟨⟨⟨hpure,L⟩,hdpk⟩,hdn⟩:=hcnd;have hdn:d<n:=QO hdn;split at h
      ·rename_i cs1 s1 sY;split at h
       ·rename_i v hv;split at h
        ·rename_i cs2 s2 uU;simp only[QQ,QK] at h;obtain⟨rfl,rfl⟩:=h;rw[bBl] at hc;obtain⟨g,hog,hdg,hsd0⟩:=bPQ hg;obtain⟨hlt,hsd⟩:=aNs hsd0 (fun e=>by cases e);rw[hl];refine aGI S (pk::J) ?_;have Z:=V.tmps d;rw[hsd,aBb hlt] at Z;have had:=aKJ Z
         -- what follows, from a state that is cleared, with the pick's value
         have fin:∀ρ' a' w',RR C.E n N w0 ρ' (mB s S) a' w'->a'.tmps.getD d undef=.bool b->Rel C.E w' ρ' (bF N ρ' w') v (if b=true then a'.eval x0 else a'.eval y0)->
           Region.wanted pk (yielded ops a'.tmps)=true->wpl C.P ops Q (pk::J) K a' w':=fun ρ' a' w' r hb hv' hw=>by
          unfold wpl;rw[JV hw];refine lP (u:=if b=true then a'.eval x0 else a'.eval y0) (w':=w') ?_ (ih C hs _ _ _ _ _ uU hc.2 ρ' _ w' (r.put pk.dst (yV hdpk) hv') K hK);have he:a'.eval (.tmp d)=.bool b:=hb;simp[execOp,hpk0,he,asBool]
         have hpkw:∀ρ' a' w',RR C.E n N w0 ρ' (mB s S) a' w'->Region.wanted pk (yielded ops a'.tmps)=true:=fun ρ' a' w' r=>by
          exact aYK (s:=mB s S) (asm:=asm) r hgp
         by_cases hbw:b=I
         ·subst hbw;have hR1:RR C.E n N w0 ρ (s.set d (.bool b)) a w:=by
           refine V.weaken rfl (fun t=>.inr ?_);show cond (Nat.beq t d) (.bool b) (s.tmps t)=s.tmps t
           by_cases O:t=d
           ·subst O;rw[JS,hsd];rfl
           ·rw[iX O];rfl
          refine ih C.down hs.down _ _ _ _ _ sY (bPO hc.1 rfl) ρ a w hR1 _ (fun ρ' a' w' r=>?_);obtain⟨ho,O⟩:=bTW f C.down (bLe C) _ _ _ _ _ sY hpure;have hset:(s.set d (.bool b)).tmps d=.bool b:=by
           show cond (Nat.beq d d) _ _=_;rw[JS];rfl
          have hd1:s1.tmps d=.bool b:=by
           rw[O d (bFn S [] L),hset]
          have hRc:RR C.E n N w0 ρ' (mB s S) a' w':=by
           refine r.weaken ((bBs S s).trans ho.symm) (fun t=>?_);rcases bTd S s t with ⟨_,h2⟩|⟨h1,h2⟩
           ·exact .inl h2
           ·refine .inr ?_;rw[h2,O t h1];show s.tmps t=cond (Nat.beq t d) (.bool b) (s.tmps t)
            by_cases O:t=d
            ·subst O;rw[JS,hsd];rfl
            ·rw[iX O];rfl
          have had':a'.tmps.getD d undef=.bool b:=by
           have:=r.tmps d;rw[hd1,aBb hlt] at this;exact aKJ this
          refine fin ρ' a' w' hRc had' ?_ (hpkw ρ' a' w' hRc)
          -- the value: what the part computed
          unfold aNd at hv;split at hv
          ·rename_i p q hvp hvq;have G:Rel C.E w' ρ' (bF N ρ' w') (s1.eval (cond b x0 y0)) (a'.eval (cond b x0 y0)):=r.eval (cond b x0 y0);rw[hvp] at G;cases b with
           |true=>
            simp only[QX] at G hv;split at hv<;>(obtain rfl:=QW hv;simpa using G)
           |false=>
            simp only[QJ] at G hv;split at hv<;>(obtain rfl:=QW hv;simpa using G)
          ·cases hv
         ·refine bFm hbw S [] s a V had (fun t O=>by cases O) L (fun a' r hd'=>?_);refine fin ρ a' w r hd' ?_ (hpkw ρ a' w r);unfold aNd at hv;split at hv
          ·rename_i p q hvp hvq;have G:=r.eval (cond I y0 x0);rw[hvq] at G;cases I with
           |true=>
            have hb:b=false:=by cases b<;>simp_all
            subst hb;simp only[QX] at G hv;split at hv
            ·obtain rfl:=QW hv;exact .bool _
            ·obtain rfl:=QW hv;simpa using G
           |false=>
            have hb:b=true:=by cases b<;>simp_all
            subst hb;simp only[QJ] at G hv;split at hv
            ·obtain rfl:=QW hv;exact .bool _
            ·obtain rfl:=QW hv;simpa using G
          ·cases hv
        ·cases h
       ·cases h
      ·cases h
     ·cases h
    ·cases h
   ·cases h
end
end Go.Vm
namespace Go.Vm
open Go.RowKit
set_option linter.unusedVariables false
structure Ent (U:eW) where
 dst:Option Tmp
 v:aC U
 ob:Option (Nat×bK U)
 looks:List Nat
 ids:List Nat
section
variable {U:eW}
def app (s:ASt U) (e:Ent U):ASt U:=(s.kA e.ob).put e.dst e.v
def SD (D:Nat->Bool):Nat->ASt U->List (Ent U)->ASt U
 |_,s,[]=>s
 |k,s,e::es=>SD D (k+1) (cond (D k) (app s e) s) es
def wid (e:Ent U):Option Nat:=e.ob.map (·.1)
theorem bJa (s:ASt U) (dst:Option Tmp) (v:aC U) (t:Nat):(s.put dst v).tmps t=if dst=some t then v else s.tmps t:=by
 cases dst with
 |none=>simp[ASt.put]
 |some d=>
  show cond (Nat.beq t d) v (s.tmps t)=_
  by_cases f:t=d
  ·subst f;simp
  ·rw[iX f,JK (fun e=>f (QW e).symm)];rfl
theorem aL7 (s:ASt U) (e:Ent U) (t:Nat):(app s e).tmps t=if e.dst=some t then e.v else s.tmps t:=by
 unfold app;rw[bJa];cases e.ob<;>rfl
theorem aL8 (s:ASt U) (e:Ent U) (id:Nat):(app s e).objs id=if wid e=some id then e.ob.map (·.2) else s.objs id:=by
 unfold app wid;have h:((s.kA e.ob).put e.dst e.v).objs=(s.kA e.ob).objs:=by cases e.dst<;>rfl
 rw[h];cases e.ob with
 |none=>simp[ASt.kA]
 |some p=>
  obtain⟨i,o⟩:=p;show cond (Nat.beq id i) (some o) (s.objs id)=_
  by_cases f:id=i
  ·subst f;simp
  ·rw[iX f,JK (fun e=>f (by simpa using e.symm))];rfl
theorem aLe {D D':Nat->Bool} {t:Nat}:∀(es:List (Ent U)) (k:Nat) (s s':ASt U),s.tmps t=s'.tmps t->(∀i (h:i<es.length),es[i].dst=some t->D (k+i)=D' (k+i))->(SD D k s es).tmps t=(SD D' k s' es).tmps t:=by
 intro es
 induction es with
 |nil=>intro k s s' h _;exact h
 |cons e es G=>
  intro k s s' h r;refine G (k+1) _ _ ?_ (fun i hi f=>by have:=r (i+1) (by simpa using hi) (by simpa using f);rw[JP,Nat.add_comm 1 i];exact this)
  by_cases f:e.dst=some t
  ·have:=r 0 XU (by simpa using f);simp only[JL] at this;rw[this];cases D' k
   ·exact h
   ·simp only[QX,aL7,JV f]
  ·have u:∀(s:ASt U) b,(cond b (app s e) s).tmps t=s.tmps t:=fun s b=>by
    cases b
    ·rfl
    ·simp only[QX,aL7,JK f]
   rw[u,u];exact h
theorem aLf {D D':Nat->Bool} {id:Nat}:∀(es:List (Ent U)) (k:Nat) (s s':ASt U),s.objs id=s'.objs id->(∀i (h:i<es.length),wid es[i]=some id->D (k+i)=D' (k+i))->(SD D k s es).objs id=(SD D' k s' es).objs id:=by
 intro es
 induction es with
 |nil=>intro k s s' h _;exact h
 |cons e es G=>
  intro k s s' h r;refine G (k+1) _ _ ?_ (fun i hi f=>by have:=r (i+1) (by simpa using hi) (by simpa using f);rw[JP,Nat.add_comm 1 i];exact this)
  by_cases f:wid e=some id
  ·have:=r 0 XU (by simpa using f);simp only[JL] at this;rw[this];cases D' k
   ·exact h
   ·simp only[QX,aL8,JV f]
  ·have u:∀(s:ASt U) b,(cond b (app s e) s).objs id=s.objs id:=fun s b=>by
    cases b
    ·rfl
    ·simp only[QX,aL8,JK f]
   rw[u,u];exact h
theorem aLg {D:Nat->Bool}:∀(es:List (Ent U)) (k:Nat) (s:ASt U),(∀i,i<es.length->D (k+i)=false)->SD D k s es=s:=by
 intro es
 induction es with
 |nil=>intro k s _;rfl
 |cons e es r=>
  intro k s h;have f:=h 0 XU;simp only[JL] at f;simp only[SD,f,QJ];exact r (k+1) s (fun i hi=>by have:=h (i+1) (by simpa using hi);rw[JP,Nat.add_comm 1 i];exact this)
theorem bWW {D:Nat->Bool} {t:Nat}:∀(es:List (Ent U)) (k:Nat) (s:ASt U) (i:Nat) (hi:i<es.length),D (k+i)=true->es[i].dst=some t->(∀j (h:j<es.length),i<j->es[j].dst=some t->D (k+j)=false)->
  (SD D k s es).tmps t=es[i].v:=by
 intro es
 induction es with
 |nil=>intro k s i hi;simp at hi
 |cons e es J=>
  intro k s i hi I u f;cases i with
  |zero=>
   simp only[JL] at I;simp only[KV] at u ⊢;show (SD D (k+1) (cond (D k) (app s e) s) es).tmps t=e.v;rw[I];have hb:(app s e).tmps t=e.v:=by rw[aL7,JV u]
   rw[<- hb];have:=aLe (D:=D) (D':=fun _=>false) (t:=t) es (k+1) (app s e) (app s e) rfl (fun j G r=>by
    have:=f (j+1) (by simpa using G) XY (by simpa using r);rw[JP,Nat.add_comm 1 j];exact this)
   simp only[QX];rw[this,aLg es (k+1) _ (fun _ _=>rfl)]
  |succ i=>
   simp only[List.getElem_cons_succ] at u ⊢;exact J (k+1) _ i (by simpa using hi) (by rw[JP,Nat.add_comm 1 i];exact I) u (fun j G L r=>by
    have:=f (j+1) (by simpa using G) XY (by simpa using r);rw[JP,Nat.add_comm 1 j];exact this)
theorem bWY {D:Nat->Bool} {id:Nat}:∀(es:List (Ent U)) (k:Nat) (s:ASt U) (i:Nat) (hi:i<es.length),D (k+i)=true->wid es[i]=some id->(∀j (h:j<es.length),i<j->wid es[j]=some id->D (k+j)=false)->
  (SD D k s es).objs id=es[i].ob.map (·.2):=by
 intro es
 induction es with
 |nil=>intro k s i hi;simp at hi
 |cons e es J=>
  intro k s i hi I u f;cases i with
  |zero=>
   simp only[JL] at I;simp only[KV] at u ⊢;show (SD D (k+1) (cond (D k) (app s e) s) es).objs id=_;rw[I];have hb:(app s e).objs id=e.ob.map (·.2):=by rw[aL8,JV u]
   rw[<- hb];have:=aLf (D:=D) (D':=fun _=>false) (id:=id) es (k+1) (app s e) (app s e) rfl (fun j G r=>by
    have:=f (j+1) (by simpa using G) XY (by simpa using r);rw[JP,Nat.add_comm 1 j];exact this)
   simp only[QX];rw[this,aLg es (k+1) _ (fun _ _=>rfl)]
  |succ i=>
   simp only[List.getElem_cons_succ] at u ⊢;exact J (k+1) _ i (by simpa using hi) (by rw[JP,Nat.add_comm 1 i];exact I) u (fun j G L r=>by
    have:=f (j+1) (by simpa using G) XY (by simpa using r);rw[JP,Nat.add_comm 1 j];exact this)
theorem ASt.ext' {s s':ASt U} (r:∀t,s.tmps t=s'.tmps t) (f:∀id,s.objs id=s'.objs id):s=s':=by
 cases s;cases s';simp only[ASt.mk.injEq];exact⟨funext r,funext f⟩
def tE (x y:Ent U):Bool:=
 (match x.dst with
  |some d=>!y.looks.any (Nat.beq d)&&(match y.dst with
   |some e=>!Nat.beq d e
   |none=>true)
  |none=>true)&&
 (match y.dst with
  |some e=>!x.looks.any (Nat.beq e)
  |none=>true)&&
 (match x.ob with
  |some (i,_)=>!y.ids.any (Nat.beq i)&&(match y.ob with
   |some (j,_)=>!Nat.beq i j
   |none=>true)
  |none=>true)&&
 (match y.ob with
  |some (j,_)=>!x.ids.any (Nat.beq j)
  |none=>true)
def waits (o:Oper) (i:Nat):Bool:=o.after.toList.any fun e=>Region.binds .any e&&Nat.beq e.on i
def sF (ops:Array Oper):Nat->Oper->Nat->Bool
 |0,o,i=>waits o i
 |f+1,o,i=>waits o i||o.after.toList.any fun e=>Region.binds .any e&&(Nat.blt i e.on&&(match ops[e.on]? with
  |some r=>sF ops f r i
  |none=>false))
def aJk (ops:Array Oper) (o:Oper) (e:Ent U):Nat->List (Ent U)->Bool
 |_,[]=>true
 |i,x::xs=>(waits o i||tE x e||sF ops 3 o i)&&aJk ops o e (i+1) xs
def aAX (ops:Array Oper):List Oper->List (Ent U)->List (Ent U)->Bool
 |[],_,_=>true
 |o::r,done,e::es=>(o.after.toList.all fun f=>!Region.binds .any f||Nat.blt f.on done.length)&&aJk ops o e 0 done&&aAX ops r (done++[e]) es
 |_::_,_,[]=>false
def aNe:aC U->List Nat
 | .ptr id _=>[id]
 | .eptr id _ _ _ _=>[id]
 | .osl id _=>[id]
 | .msl id _ _=>[id]
 | .meptr id _ _ _ _ _=>[id]
 | .ovw id _ _ _ _=>[id]
 |_=>[]
def mentions:aC U->List Nat
 | .agg l=>l.flatMap aNe
 | .fn _ l=>l.flatMap aNe
 |c=>aNe c
def pX (ids:List Nat) (f:Nat->Option (bK U)):Nat->Option (bK U):=fun id=>cond (ids.any (Nat.beq id)) (f id) none
def aC7 (C:Cfg U) (o:Oper) (s:ASt U):List Nat:=
 match o.op with
 | .move _=>o.dst.toList.map (C.off+·)
 | .assign _=>o.dst.toList.map (C.off+·)
 |_=>o.dst.toList.map (C.off+·)++o.op.operands.toList.flatMap fun x=>mentions (s.eval x)
def oS (ops:Array Oper) (o:Oper):List Nat:=
 (o.op.operands.toList.filterMap fun | .tmp t=>some t|_=>none)++(match o.guard with
  |some (g,_)=>(qD ops g).toList
  |none=>[])
def both (cs:List Prop) (p:Prop):Prop:=
 match cs with
 |[]=>p
 |c::cs=>eQ (c::cs)/\p
def tV (C:Cfg U) (n:Nat) (ops:Array Oper):List Oper->List (Ent U)->ASt U->(List (Ent U)->ASt U->Prop)->Prop
 |[],es,s,K=>K es s
 |o::r,es,s,K=>
  let run (s:ASt U):Prop:=match rW C.dm o s.eval (pX (aC7 C o s) s.objs) with
   |some (G,v,ob)=>both G (tV C n ops r (es++[⟨o.dst,v,ob,oS ops o,aC7 C o s⟩]) ((s.kA ob).put o.dst v) K)
   |none=>False
  let skip (s:ASt U):Prop:=tV C n ops r (es++[⟨o.dst,.raw undef,none,oS ops o,[]⟩]) (s.put o.dst (.raw undef)) K
  cond (qC n o) (match o.guard with
   |none=>run s
   |some (g,f)=>match qD ops g with
    |none=>False
    |some d=>match s.look d with
     | .raw (.tuple u)=>cond (Nat.beq u.size 0) (skip s) False
     | .bool b=>match b with
      |true=>cond f (run (s.set d (.bool true))) (skip (s.set d (.bool true)))
      |false=>cond f (skip (s.set d (.bool false))) (run (s.set d (.bool false)))
     |_=>False) False
end
end Go.Vm
namespace Go.Vm
open Go.RowKit
set_option linter.unusedVariables false
section
variable {U:eW} {n:Nat} {N:Nat->Prop} {w0:Fr} {w w':World} {ρ ρ':Own} {s s' s0:ASt U} {a:Act} {C:Cfg U} {ops:Array Oper}
def AL:Nat->Bool:=fun _=>true
theorem bW1 (D:Nat->Bool):∀(es:List (Ent U)) (k:Nat) (s:ASt U) (e:Ent U),SD D k s (es++[e])=cond (D (k+es.length)) (app (SD D k s es) e) (SD D k s es):=by
 intro es
 induction es with
 |nil=>intro k s e;rfl
 |cons x es f=>
  intro k s e;simp only[List.cons_append,SD,QT];rw[f,JP,Nat.add_comm 1]
theorem bD8 (es:List (Ent U)) (i:Nat):∀(k:Nat) (s:ASt U),SD AL k s (es.take i)=SD (fun j=>decide (j<k+i)) k s es:=by
 induction es generalizing i with
 |nil=>intro k s;simp[SD]
 |cons e es f=>
  intro k s;cases i with
  |zero=>
   rw[List.take_zero];exact(aLg (e::es) k s (fun j _=>XU)).symm
  |succ i=>
   simp only[List.take_succ_cons,SD];rw[f];have G:AL k=true:=rfl;have u:decide (k<k+(i+1))=true:=XU;rw[G,u];have r:k+1+i=k+(i+1):=XY;rw[r]
def aDD (ops:Array Oper) (s:ASt U) (o:Oper):Prop:=
 o.guard=none\/∃g f d b,o.guard=some (g,f)/\qD ops g=some d/\s.look d=.bool b/\b=f
def aEH (ops:Array Oper) (s:ASt U) (o:Oper):Prop:=
 ∃g f d,o.guard=some (g,f)/\qD ops g=some d/\((∃r,s.look d=.raw (.tuple r)/\r.size=0)\/∃b,s.look d=.bool b/\b≠f)
theorem bEo {E:Enc U} (h:RR E n N w0 ρ s a w) {o:Oper} (r:aDD ops s o):Region.wanted o (yielded ops a.tmps)=true:=by
 unfold Region.wanted;rcases r with u|⟨g,f,d,b,G,I,hb,rfl⟩
 ·rw[u]
 ·rw[G];simp[aLm h I hb]
theorem bLd {E:Enc U} (h:RR E n N w0 ρ s a w) {o:Oper} (L:aEH ops s o):Region.wanted o (yielded ops a.tmps)=false:=by
 unfold Region.wanted;obtain⟨g,I,d,S,f,hb⟩:=L;rw[S];rcases hb with ⟨J,hv,G⟩|⟨b,hb,u⟩
 ·have r:=h.look d;rw[hv] at r;have hy:yielded ops a.tmps g=none:=by
   generalize O:a.tmps.getD d undef=v at r;cases r;unfold yielded;unfold qD at f;rw[f];simp only[Option.bind_some];cases G:a.tmps[d]? with
   |none=>rfl
   |some v=>
    have:v=.tuple J:=by simpa[G] using O
    rw[this]
  simp[hy]
 ·simp[aLm h f hb,u]
def zQ (C:Cfg U) (n:Nat) (ops:Array Oper) (s0:ASt U) (es:List (Ent U)) (i:Nat):Prop:=
 ∀h:i<es.length,∃o,ops[i]?=some o/\qC n o=true/\es[i].dst=o.dst/\es[i].looks=oS ops o/\
  ((∃f,aDD ops (SD AL 0 s0 (es.take i)) o/\rW C.dm o (SD AL 0 s0 (es.take i)).eval (pX es[i].ids (SD AL 0 s0 (es.take i)).objs)=some (f,es[i].v,es[i].ob)/\eQ f/\∀d,o.dst=some d->C.off+d∈es[i].ids)\/
   (aEH ops (SD AL 0 s0 (es.take i)) o/\es[i].v=.raw undef/\es[i].ob=none))
theorem aF7 {cs:List Prop} {p:Prop} (h:both cs p):eQ cs/\p:=by
 cases cs with
 |nil=>exact⟨trivial,h⟩
 |cons c cs=>exact h
theorem bW3 {es:List (Ent U)} {e:Ent U} {i:Nat} (hi:i<es.length) (h:zQ C n ops s0 es i):zQ C n ops s0 (es++[e]) i:=by
 intro _;have e1:(es++[e])[i]'(by simp;omega)=es[i]:=JO hi;have f:(es++[e]).take i=es.take i:=by rw[List.take_append_of_le_length XY]
 rw[f];simp only[e1];exact h hi
theorem bEj:∀(r:List Oper) (es:List (Ent U)) (s:ASt U) (K:List (Ent U)->ASt U->Prop),(∀j,r[j]?=ops[es.length+j]?)->s=SD AL 0 s0 es->(∀i,i<es.length->zQ C n ops s0 es i)->tV C n ops r es s K->
  ∃f,f.length=es.length+r.length/\(∀i,i<f.length->zQ C n ops s0 f i)/\K f (SD AL 0 s0 f):=by
 intro r
 induction r with
 |nil=>
  intro es s K hr Z L hx;exact⟨es,XU,L,by rw[<- Z];exact hx⟩
 |cons o r ih=>
  intro es s K hr Z L hx;have ho:ops[es.length]?=some o:=by simpa using (hr 0).symm
  have hr':∀(e:Ent U) j,r[j]?=ops[(es++[e]).length+j]?:=fun e j=>by
   have:=hr (j+1);simpa[JP,Nat.add_comm 1 j] using this
  have go:∀(e:Ent U) (s':ASt U),s'=app s e->(∃o,ops[es.length]?=some o/\qC n o=true/\e.dst=o.dst/\e.looks=oS ops o/\
    ((∃S,aDD ops s o/\rW C.dm o s.eval (pX e.ids s.objs)=some (S,e.v,e.ob)/\eQ S/\∀d,o.dst=some d->C.off+d∈e.ids)\/(aEH ops s o/\e.v=.raw undef/\e.ob=none)))->
    tV C n ops r (es++[e]) s' K->∃f,f.length=es.length+(o::r).length/\(∀i,i<f.length->zQ C n ops s0 f i)/\K f (SD AL 0 s0 f):=fun e s' hs' hok hx'=>by
   obtain⟨f,h1,h2,h3⟩:=ih (es++[e]) s' K (hr' e) (by rw[bW1];show s'=app (SD AL 0 s0 es) e;rw[hs',Z]) (fun i hi=>by
    by_cases hc:i<es.length
    ·exact bW3 hc (L i hc)
    ·have:i=es.length:=by simp at hi;omega
     subst this;intro _;have e1:(es++[e])[es.length]'XU=e:=XU;have e2:(es++[e]).take es.length=es:=XU;rw[e2];simp only[e1];rw[<- Z];exact hok) hx'
   exact⟨f,by rw[h1];simp;omega,h2,h3⟩
  unfold tV at hx;have O:qC n o=true:=by
   cases I:qC n o
   ·rw[I] at hx;exact hx.elim
   ·rfl
  rw[O] at hx;simp only[QX] at hx;have G:aDD ops s o->(match rW C.dm o s.eval (pX (aC7 C o s) s.objs) with
   |some (S,v,ob)=>both S (tV C n ops r (es++[⟨o.dst,v,ob,oS ops o,aC7 C o s⟩]) ((s.kA ob).put o.dst v) K)
   |none=>False)->∃f,f.length=es.length+(o::r).length/\(∀i,i<f.length->zQ C n ops s0 f i)/\K f (SD AL 0 s0 f):=fun hw hx=>by
   split at hx
   ·rename_i S v ob hop;obtain⟨hc,hx⟩:=aF7 hx;refine go ⟨o.dst,v,ob,oS ops o,aC7 C o s⟩ _ rfl ⟨o,ho,O,rfl,rfl,.inl ⟨S,hw,hop,hc,fun d I=>?_⟩⟩ hx
    (unfold aC7;split<;>simp[I])
   ·exact hx.elim
  have u:aEH ops s o->tV C n ops r (es++[⟨o.dst,.raw undef,none,oS ops o,[]⟩]) (s.put o.dst (.raw undef)) K->∃f,f.length=es.length+(o::r).length/\(∀i,i<f.length->zQ C n ops s0 f i)/\K f (SD AL 0 s0 f):=fun hw hx=>
   go ⟨o.dst,.raw undef,none,oS ops o,[]⟩ _ rfl ⟨o,ho,O,rfl,rfl,.inr ⟨hw,rfl,rfl⟩⟩ hx
  split at hx
  ·rename_i hn;exact G (.inl hn) hx
  ·rename_i g J V;split at hx
   ·exact hx.elim
   ·rename_i d I;split at hx
    ·rename_i vs hv;cases hz:Nat.beq vs.size 0 with
     |false=>rw[hz] at hx;exact hx.elim
     |true=>
      rw[hz] at hx;exact u ⟨g,J,d,V,I,.inl ⟨vs,hv,QZ hz⟩⟩ hx
    ·rename_i b hb;have e:s.set d (.bool b)=s:=by
      have hb:=(aNs hb (fun e=>by cases e)).2;have:(s.set d (.bool b)).tmps=s.tmps:=funext fun t=>by
       show cond (Nat.beq t d) (.bool b) (s.tmps t)=s.tmps t
       by_cases ht:t=d
       ·subst ht;rw[JS];exact hb.symm
       ·rw[iX ht];rfl
      exact congrArg (ASt.mk · s.objs) this
     cases b<;>cases J
     ·simp only[QJ,e] at hx;exact G (.inr ⟨g,false,d,false,V,I,hb,rfl⟩) hx
     ·simp only[QX,e] at hx;exact u ⟨g,true,d,V,I,.inr ⟨false,hb,XU⟩⟩ hx
     ·simp only[QJ,e] at hx;exact u ⟨g,false,d,V,I,.inr ⟨true,hb,XU⟩⟩ hx
     ·simp only[QX,e] at hx;exact G (.inr ⟨g,true,d,true,V,I,hb,rfl⟩) hx
    ·exact hx.elim
theorem bEs {ops:Array Oper} {o:Oper} {i:Nat} (f:Nat) (h:waits o i=true):sF ops f o i=true:=by
 cases f with
 |zero=>exact h
 |succ f=>rw[sF,h];rfl
theorem bTg {ops:Array Oper} {o:Oper} {e:Ent U}:∀(xs:List (Ent U)) (i:Nat),aJk ops o e i xs=true->∀j (h:j<xs.length),sF ops 3 o (i+j)=true\/tE xs[j] e=true:=by
 intro xs
 induction xs with
 |nil=>intro i _ j h;simp at h
 |cons x xs f=>
  intro i h j r;simp only[aJk,QU,Bool.or_eq_true] at h;cases j with
  |zero=>
   rcases h.1 with (h|h)|h
   ·exact .inl (bEs 3 h)
   ·exact .inr h
   ·exact .inl h
  |succ j=>
   have:=f (i+1) h.2 j (by simpa using r);rw[JP,Nat.add_comm 1 j] at this;exact this
theorem bTh {ops:Array Oper}:∀(os:List Oper) (done es:List (Ent U)),aAX ops os done es=true->os.length=es.length->∀j (I:j<os.length) (f:j<es.length),
  (∀u∈os[j].after.toList,Region.binds .any u=true->u.on<done.length+j)/\∀i (hi:i<done.length+j),sF ops 3 os[j] i=true\/tE ((done++es)[i]'(by simp;omega)) es[j]=true:=by
 intro os
 induction os with
 |nil=>intro done es _ _ j I;simp at I
 |cons o os L=>
  intro done es h hlen j I f;cases es with
  |nil=>simp at f
  |cons e es=>
   simp only[aAX,QU] at h;obtain⟨⟨V,S⟩,O⟩:=h;cases j with
   |zero=>
    refine⟨fun u r hb=>?_,fun i hi=>?_⟩
    ·have:=JG.1 V u r;rw[hb] at this;simp only[KC,XX] at this;exact QO this
    ·have G:i<done.length:=by simpa using hi
     have:=bTg done 0 S i G;rw[JW] at this;simpa[JO G] using this
   |succ j=>
    have:=L (done++[e]) es O (by simpa using hlen) j (by simpa using I) (by simpa using f);have J:(done++[e]).length+j=done.length+(j+1):=by simp;omega
    refine⟨fun u r hb=>by rw[<- J];exact this.1 u r hb,fun i hi=>?_⟩;have:=this.2 i (by rw[J];exact hi);simpa using this
end
end Go.Vm
namespace Go.Vm
open Go.RowKit
set_option linter.unusedVariables false
section
variable {U:eW} {n:Nat} {N:Nat->Prop} {w0:Fr} {w w':World} {ρ ρ':Own} {s s' s0:ASt U} {a:Act} {C:Cfg U} {ops:Array Oper}
theorem bNh {ids:List Nat} {f g:Nat->Option (bK U)} (h:∀id∈ids,f id=g id):pX ids f=pX ids g:=by
 funext id;unfold pX;cases u:ids.any (Nat.beq id) with
 |false=>rfl
 |true=>
  obtain⟨j,r,hb⟩:=KH.1 u;obtain rfl:=QZ hb;exact h _ r
theorem bVt {o:Oper} {V I:Operand->aC U} {look:Nat->Option (bK U)} (h:∀x∈o.op.operands,V x=I x):aop C o V look=aop C o I look:=by
 have O:∀ps:Array (Nat×Operand),(∀x∈(ps.toList.map (·.2)).toArray,V x=I x)->(ps.toList.map fun p=>(p.1,V p.2))=(ps.toList.map fun p=>(p.1,I p.2)):=fun ps hp=>
  List.map_congr_left fun p hm=>by
   rw[hp p.2 (by simp only[List.mem_toArray,KY];exact⟨p,hm,rfl⟩)]
 obtain⟨dst,op,ty,pos,after,guard⟩:=o;unfold aop;cases op<;>simp only[Op.operands] at h<;>(try rfl)
 case move x=>simp only[h x XU]
 case assign x=>simp only[h x XU]
 case pick c x y=>simp only[h c XU,h x XU,h y XU]
 case box t x=>simp only[h x XU]
 case build t ps=>simp only[O ps h]
 case buildSlice t m ps=>simp only[O ps h]
 case makeSlice t x y=>simp only[h x XU,h y XU]
 case load t x=>simp only[h x XU]
 case store t x y=>simp only[h x XU,h y XU]
 case binOp op t x y t'=>simp only[h x XU,h y XU]
 case unOp op t x=>simp only[h x XU]
 case nilCheck x=>simp only[h x XU]
 case makeInterface t x=>simp only[h x XU]
 case lookup t x y ok=>simp only[h x XU,h y XU]
 case makeFunc fn first u=>
  have J:u.toList.map V=u.toList.map I:=List.map_congr_left fun x hx=>h x (by simp;exact .inr (by simpa using hx))
  simp only[J]
 case fieldAddr t x f=>simp only[h x XU]
 case field t x f=>simp only[h x XU]
 case indexAddr t x y=>simp only[h x XU,h y XU]
 case index t x y=>simp only[h x XU,h y XU]
 case extract x i=>simp only[h x XU]
 case convert s d x=>simp only[h x XU]
 case slice t x lo hi mx=>
  cases mx with
  |some m=>rfl
  |none=>cases lo<;>cases hi<;>simp_all
 case call c=>
  obtain⟨S,L,Z⟩:=c;have G:∀x∈L.toList,V x=I x:=fun x hx=>h x (by simp[Call.operands];exact .inr (by simpa using hx))
  have J:L.toList.map V=L.toList.map I:=List.map_congr_left G;simp only[J];cases S with
  |value f=>
   have hf:=h f (by simp[Call.operands]);simp only[hf]
  |invoke r m=>rfl
  |builtin b=>
   cases b<;>(try rfl)
   case len=>
    simp only;split
    ·rename_i x t hx ht;rw[G x (by rw[hx];simp)]
    ·rfl
   case append=>
    simp only;split
    ·rename_i d x y hx;rw[G x (by rw[hx];simp),G y (by rw[hx];simp)]
    ·rfl
theorem bVx {o:Oper} {I f:Operand->aC U} {look:Nat->Option (bK U)} (h:∀x∈o.op.operands,I x=f x):aA2 C o I look=aA2 C o f look:=by
 have u:∀ps:Array (Nat×Operand),(∀x∈(ps.toList.map (·.2)).toArray,I x=f x)->(ps.toList.map fun p=>(p.1,I p.2))=(ps.toList.map fun p=>(p.1,f p.2)):=fun ps hp=>
  List.map_congr_left fun p hm=>by
   rw[hp p.2 (by simp only[List.mem_toArray,KY];exact⟨p,hm,rfl⟩)]
 obtain⟨dst,op,ty,pos,S,O⟩:=o;unfold aA2;cases op<;>simp only[Op.operands] at h<;>(try rfl)
 case buildSlice t m ps=>simp only[u ps h]
 case slice t x Z hi V=>
  cases V with
  |some m=>rfl
  |none=>cases Z<;>cases hi<;>simp_all
 case call c=>
  obtain⟨L,J,G⟩:=c;have r:∀x∈J.toList,I x=f x:=fun x hx=>h x (by simp[Call.operands];exact .inr (by simpa using hx))
  simp only;split
  ·rename_i x y hx;rw[r x (by rw[hx];simp),r y (by rw[hx];simp)]
  ·rfl
theorem bVv {o:Oper} {r f:Operand->aC U} {look:Nat->Option (bK U)} (h:∀x∈o.op.operands,r x=f x):zA C o r look=zA C o f look:=by
 unfold zA;rw[bVx h,List.map_congr_left (fun x hx=>h x (by simpa using hx))]
theorem bVy {o:Oper} {r f:Operand->aC U} {look:Nat->Option (bK U)} (h:∀x∈o.op.operands,r x=f x):rW C o r look=rW C o f look:=by
 unfold rW;rw[bVt h,bVv h]
structure aGC (ops:Array Oper) (es:List (Ent U)):Prop where
 len:es.length=ops.size
 pre:∀j o,ops[j]?=some o->∀ed∈o.after,Region.binds .any ed=true->ed.on<j
 pair:∀i j (hi:i<es.length) (hj:j<es.length) o,i<j->ops[j]?=some o->sF ops 3 o i=true\/tE es[i] es[j]=true
theorem bN4 {es:List (Ent U)} (h:aAX ops ops.toList [] es=true) (J:es.length=ops.size):aGC ops es:=by
 have L:=bTh (ops:=ops) ops.toList [] es h (by simp[J]);refine⟨J,fun j o ho O I hb=>?_,fun i j hi r o G ho=>?_⟩
 ·have r:j<ops.size:=(JQ.1 ho).1;have f:=(JQ.1 ho).2;have:=(L j (by simpa using r) XY).1 O (by
   simp only[Array.getElem_toList,f];simpa using I) hb
  simpa using this
 ·have u:j<ops.size:=XY;have f:=(JQ.1 ho).2;have:=(L j (by simpa using u) r).2 i (by simpa using G);simp only[Array.getElem_toList,f] at this;simpa using this
theorem bEr {o:Oper} {i:Nat} (h:waits o i=true):∃f∈o.after,Region.binds .any f=true/\f.on=i:=by
 obtain⟨f,r,hb⟩:=KH.1 h;simp only[QU] at hb;exact⟨f,by simpa using r,hb.1,QZ hb.2⟩
def aDA (ops:Array Oper) (D:Nat->Bool):Prop:=∀j o,ops[j]?=some o->D j=true->∀f∈o.after,Region.binds .any f=true->D f.on=true
theorem aLo {D:Nat->Bool} (hcl:aDA ops D) {i:Nat}:∀(f:Nat) (o:Oper),(∀r∈o.after,Region.binds .any r=true->D r.on=true)->sF ops f o i=true->D i=true:=by
 have V:∀o:Oper,(∀r∈o.after,Region.binds .any r=true->D r.on=true)->waits o i=true->D i=true:=fun o hp u=>by
  obtain⟨r,G,hb,he⟩:=bEr u;rw[<- he];exact hp r G hb
 intro f
 induction f with
 |zero=>exact V
 |succ f ih=>
  intro o hp u;rw[sF,Bool.or_eq_true] at u;rcases u with u|u
  ·exact V o hp u
  ·obtain⟨r,G,hb⟩:=KH.1 u;simp only[QU] at hb;obtain⟨hb,_,J⟩:=hb;have hD:=hp r (by simpa using G) hb;split at J
   ·rename_i Z L;exact ih Z (fun S I O=>hcl _ _ L hD S I O) J
   ·cases J
theorem aA3 {l:List Nat} {d:Nat}:l.any (Nat.beq d)=true↔d∈l:=by
 rw[KH];constructor
 ·rintro ⟨x,hx,hb⟩
  obtain rfl:=QZ hb;exact hx
 ·intro h;exact⟨d,h,JS d⟩
theorem aIw {es:List (Ent U)} (hm:aGC ops es) {D:Nat->Bool} (hcl:aDA ops D) {i:Nat} (hun:D i=false) {j:Nat} (J:j<es.length) (I:∀G,ops[j]?=some G->sF ops 3 G i=true):D j=false:=by
 have r:j<ops.size:=by rw[<- hm.len];exact J
 have f:ops[j]?=some ops[j]:=Array.getElem?_eq_getElem r;cases L:D j with
 |false=>rfl
 |true=>
  have:=aLo hcl 3 _ (fun O u hb=>hcl j _ f L O u hb) (I _ f);rw[hun] at this;cases this
theorem bTY {i:Nat} {f g:Nat->Bool}:∀(m:Nat),i<m->f i=true->g i=false->(∀k,k<m->k≠i->g k=f k)->(List.range m).countP g+1=(List.range m).countP f:=by
 intro m
 induction m with
 |zero=>intro h;omega
 |succ m J=>
  intro hi I G h;rw[List.range_succ,List.countP_append,List.countP_append]
  by_cases hm:m=i
  ·subst hm;have e:(List.range m).countP g=(List.range m).countP f:=List.countP_congr (fun k u=>by
    have L:k<m:=by simpa using u
    rw[h k XY XY])
   simp[e,I,G]
  ·have:=J XY I G (fun k u r=>h k XY r);have e:=h m XY hm;simp only[List.countP_cons,List.countP_nil,e];omega
section
variable {es:List (Ent U)} (hm:aGC ops es) {D:Nat->Bool} (hcl:aDA ops D) {i:Nat} (hi:i<es.length) (hun:D i=false) {o:Oper} (ho:ops[i]?=some o)
 (hpre:∀ed∈o.after,Region.binds .any ed=true->D ed.on=true)
include hm hcl hun ho hpre
theorem bWZ {t:Nat} (L:t∈es[i].looks):(SD D 0 s0 es).tmps t=(SD AL 0 s0 (es.take i)).tmps t:=by
 rw[bD8];refine aLe es 0 s0 s0 rfl (fun k G O=>?_);simp only[JW];rcases Nat.lt_trichotomy k i with r|rfl|J
 ·have e:decide (k<i)=true:=by simpa using r
  rw[e];rcases hm.pair k i G hi o r ho with u|f
  ·exact aLo hcl 3 _ hpre u
  ·simp only[tE,O,QU,JF] at f;have:=f.1.1.1.1;rw[aA3.2 L] at this;cases this
 ·have e:decide (k<k)=false:=XU;rw[e,hun]
 ·have e:decide (k<i)=false:=by simp;omega
  rw[e];refine aIw hm hcl hun G (fun S I=>?_);rcases hm.pair i k hi G S J I with u|f
  ·exact u
  ·simp only[tE,O,QU,JF] at f;have:=f.1.1.2;rw[aA3.2 L] at this;cases this
theorem bW0 {id:Nat} (S:id∈es[i].ids):(SD D 0 s0 es).objs id=(SD AL 0 s0 (es.take i)).objs id:=by
 rw[bD8];refine aLf es 0 s0 s0 rfl (fun k J u=>?_);simp only[JW];have f:∃x,es[k].ob=some (id,x):=by
  unfold wid at u;cases f:es[k].ob with
  |none=>rw[f] at u;cases u
  |some p=>
   rw[f] at u;obtain⟨j,x⟩:=p;simp only[Option.map_some,QQ] at u;subst u;exact⟨x,rfl⟩
 obtain⟨x,f⟩:=f;rcases Nat.lt_trichotomy k i with G|rfl|O
 ·have e:decide (k<i)=true:=by simpa using G
  rw[e];rcases hm.pair k i J hi o G ho with I|r
  ·exact aLo hcl 3 _ hpre I
  ·simp only[tE,f,QU,JF] at r;have:=r.1.2.1;rw[aA3.2 S] at this;cases this
 ·have e:decide (k<k)=false:=XU;rw[e,hun]
 ·have e:decide (k<i)=false:=by simp;omega
  rw[e];refine aIw hm hcl hun J (fun V L=>?_);rcases hm.pair i k hi J V O L with I|r
  ·exact I
  ·simp only[tE,f,QU,JF] at r;have:=r.2;rw[aA3.2 S] at this;cases this
end
theorem bWX {es:List (Ent U)} (hm:aGC ops es) {D:Nat->Bool} (hcl:aDA ops D) {i:Nat} (hi:i<es.length) (hun:D i=false) {D':Nat->Bool} (I:∀k,k<es.length->D' k=(D k||decide (k=i))):app (SD D 0 s0 es) es[i]=SD D' 0 s0 es:=by
 have L:D' i=true:=by rw[I i hi];simp
 refine ASt.ext' (fun t=>?_) (fun id=>?_)
 ·rw[aL7]
  by_cases r:es[i].dst=some t
  ·rw[JV r];refine(bWW es 0 s0 i hi (by rw[JW];exact L) r (fun j O Z f=>?_)).symm;rw[JW,I j O];have u:¬j=i:=XY;simp only[u,decide_false,XV];refine aIw hm hcl hun O (fun oj S=>?_);rcases hm.pair i j hi O oj Z S with hw|G
   ·exact hw
   ·simp only[tE,r,f,QU,JF] at G;have:=G.1.1.1.2;rw[JS] at this;cases this
  ·rw[JK r];refine aLe es 0 s0 s0 rfl (fun k hk hdk=>?_);rw[JW,I k hk];have u:¬k=i:=fun e=>by subst e;exact r hdk
   simp[u]
 ·rw[aL8]
  by_cases r:wid es[i]=some id
  ·rw[JV r];refine(bWY es 0 s0 i hi (by rw[JW];exact L) r (fun j O Z f=>?_)).symm;rw[JW,I j O];have u:¬j=i:=XY;simp only[u,decide_false,XV];refine aIw hm hcl hun O (fun oj S=>?_);rcases hm.pair i j hi O oj Z S with hw|G
   ·exact hw
   ·exfalso;unfold wid at r f;cases V:es[i].ob with
    |none=>rw[V] at r;cases r
    |some p=>
     cases J:es[j].ob with
     |none=>rw[J] at f;cases f
     |some q=>
      rw[V] at r;rw[J] at f;obtain⟨x,_⟩:=p;obtain⟨y,_⟩:=q;simp only[Option.map_some,QQ] at r f;subst r;subst f;simp only[tE,V,J,QU,JF] at G;have:=G.1.2.2;rw[JS] at this;cases this
  ·rw[JK r];refine aLf es 0 s0 s0 rfl (fun k hk hdk=>?_);rw[JW,I k hk];have u:¬k=i:=fun e=>by subst e;exact r hdk
   simp[u]
theorem bN2 {o:Oper} {x:Operand} (hx:x∈o.op.operands) {t:Nat} (f:x=.tmp t):t∈oS ops o:=by
 unfold oS;refine KK.2 (.inl (List.mem_filterMap.2 ⟨x,by simpa using hx,by rw[f]⟩))
theorem aYL {o:Oper} {g d:Nat} {f:Bool} (r:o.guard=some (g,f)) (u:qD ops g=some d):d∈oS ops o:=by
 unfold oS;rw[r];simp[u]
theorem bVz (hs:jC C w0) {es:List (Ent U)} (hm:aGC ops es) (hes:∀i,i<es.length->zQ C n ops s0 es i) {Q:Exit->Act->World->Prop}
  (hK:∀ρ a w,RR C.E n N w0 ρ (SD AL 0 s0 es) a w->Q .normal a w):
  ∀(fuel:Nat) (r:Array Bool) (ρ:Own) (a:Act) (w:World),r.size=ops.size->((List.range ops.size).countP fun k=>!r.getD k true)<=fuel->aDA ops (fun k=>r.getD k true)->
   RR C.E n N w0 ρ (SD (fun k=>r.getD k true) 0 s0 es) a w->wpAny C.P .any ops Q fuel r a w:=by
 have done:∀(r:Array Bool),(∀k,k<ops.size->r.getD k true=true)->SD (fun k=>r.getD k true) 0 s0 es=SD AL 0 s0 es:=fun r h=>by
  refine ASt.ext' (fun t=>aLe es 0 s0 s0 rfl (fun k L _=>?_)) (fun id=>aLf es 0 s0 s0 rfl (fun k L _=>?_))
  ·rw[JW];exact h k (by rw[<- hm.len];exact L)
  ·rw[JW];exact h k (by rw[<- hm.len];exact L)
 have J:∀(r:Array Bool),r.size=ops.size->Region.ready .any ops r=[]->∀k,k<ops.size->r.getD k true=true:=fun r Z hr k=>by
  induction k using Nat.strongRecOn with
  |_ k ih=>
   intro L;cases hc:r.getD k true with
   |true=>rfl
   |false=>
    have hok:ops[k]?=some ops[k]:=Array.getElem?_eq_getElem L;have:k∈Region.ready .any ops r:=mem_ready.2 ⟨hc,ops[k],hok,fun e he hb=>by
     have hlt:=hm.pre k _ hok e he hb;have h2:=ih e.on hlt XY;have h3:e.on<r.size:=XY;simpa[h3] using h2⟩
    rw[hr] at this;cases this
 intro fuel
 induction fuel with
 |zero=>
  intro r ρ a w Z hcount hcl hR;have hall:∀k,k<ops.size->r.getD k true=true:=fun k L=>by
   have h0:((List.range ops.size).countP fun k=>!r.getD k true)=0:=XY;have:=List.countP_eq_zero.1 h0 k (by simpa using L);simpa using this
  refine⟨?_,hK ρ a w (by rw[<- done r hall];exact hR)⟩;rw[List.eq_nil_iff_forall_not_mem];intro k L;obtain⟨h1,o,h2,_⟩:=mem_ready.1 L;rw[hall k (JQ.1 h2).1] at h1;cases h1
 |succ fuel ih=>
  intro r ρ a w Z hcount hcl hR;refine⟨fun h0=>hK ρ a w (by rw[<- done r (J r Z h0)];exact hR),fun i hi=>?_⟩;obtain⟨hun,o,ho,hpre⟩:=mem_ready.1 hi;have his:i<ops.size:=(JQ.1 ho).1;have O:i<es.length:=by rw[hm.len];exact his
  have I:∀V∈o.after,Region.binds .any V=true->(fun k=>r.getD k true) V.on=true:=fun V S hb=>by
   have:=hpre V S hb;have hlt:=hm.pre i o ho V S hb;have h3:V.on<r.size:=XY;simpa[h3] using this
  obtain⟨o',ho',hdo,hdst,hlooks,hcase⟩:=hes i O O;rw[ho] at ho';obtain rfl:=QW ho'
  -- the state when i is done too
  have G:∀k,k<es.length->(r.setIfInBounds i true).getD k true=(r.getD k true||decide (k=i)):=fun k L=>by
   have hks:k<r.size:=by rw[Z,<- hm.len];exact L
   by_cases hki:k=i
   ·subst hki;simp[hks]
   ·rw[getD_set_ne true (Ne.symm hki)];simp[hki]
  have hstep:=bWX (s0:=s0) hm hcl O hun (D':=fun k=>(r.setIfInBounds i true).getD k true) G;have hcl':aDA ops (fun k=>(r.setIfInBounds i true).getD k true):=fun j oj hoj hD V S hb=>by
   have hjs:j<ops.size:=(JQ.1 hoj).1;have hlt:=hm.pre j oj hoj V S hb;have h1:=G j (by rw[hm.len];exact hjs);have h2:=G V.on (by rw[hm.len];omega);simp only at hD ⊢;rw[h1] at hD;rw[h2];simp only[Bool.or_eq_true,JN] at hD ⊢;rcases hD with hD|rfl
   ·exact .inl (hcl j oj hoj hD V S hb)
   ·rw[ho] at hoj;obtain rfl:=QW hoj;exact .inl (I V S hb)
  have hcount':((List.range ops.size).countP fun k=>!(r.setIfInBounds i true).getD k true)<=fuel:=by
   have h1:=bTY (i:=i) (f:=fun k=>!r.getD k true) (g:=fun k=>!(r.setIfInBounds i true).getD k true) ops.size his (by simp[hun]) (by
    have:=G i O;simp[this]) (fun k L hne=>by
    have:=G k (by rw[hm.len];exact L);simp[this,hne])
   omega
  have hnext:∀ρ' a' w',RR C.E n N w0 ρ' (app (SD (fun k=>r.getD k true) 0 s0 es) es[i]) a' w'->wpAny C.P .any ops Q fuel (r.setIfInBounds i true) a' w':=fun ρ' a' w' hR'=>
   ih _ ρ' a' w' (by simpa using Z) hcount' hcl' (by rw[<- hstep];exact hR')
  have htm:∀t∈oS ops o,(SD (fun k=>r.getD k true) 0 s0 es).tmps t=(SD AL 0 s0 (es.take i)).tmps t:=fun t ht=>bWZ hm hcl O hun ho I (by rw[hlooks];exact ht)
  have hlkt:∀t∈oS ops o,(SD (fun k=>r.getD k true) 0 s0 es).look t=(SD AL 0 s0 (es.take i)).look t:=fun t ht=>by
   unfold ASt.look;rw[htm t ht]
  unfold wpOp;simp only[ho];rcases hcase with ⟨cs,hw,hop,hc,hdid⟩|⟨hw,hv,hob⟩
  ·have hw':aDD ops (SD (fun k=>r.getD k true) 0 s0 es) o:=by
    rcases hw with hn|⟨g,want,d,b,hg,hd,hb,he⟩
    ·exact .inl hn
    ·exact .inr ⟨g,want,d,b,hg,hd,by rw[hlkt d (aYL hg hd)];exact hb,he⟩
   rw[JV (bEo hR hw')];refine .inl ?_;have hev:∀x∈o.op.operands,(SD (fun k=>r.getD k true) 0 s0 es).eval x=(SD AL 0 s0 (es.take i)).eval x:=fun x hx=>by
    cases x with
    |tmp t=>exact hlkt t (bN2 hx rfl)
    |_=>rfl
   have hlk:pX es[i].ids (SD (fun k=>r.getD k true) 0 s0 es).objs=pX es[i].ids (SD AL 0 s0 (es.take i)).objs:=
    bNh (fun id hid=>bW0 hm hcl O hun ho I hid)
   have hop':rW C.dm o (SD (fun k=>r.getD k true) 0 s0 es).eval (pX es[i].ids (SD (fun k=>r.getD k true) 0 s0 es).objs)=some (cs,es[i].v,es[i].ob):=by
    rw[bVy hev,hlk];exact hop
   refine bCW (C:=C.dm) hs hR (fun id ob h=>?_) (fun d hd h=>?_) (yV hdo) hop' hc (fun ρ' u w' hR'=>hnext ρ' _ w' ?_)
   ·unfold pX at h;cases hc:es[i].ids.any (Nat.beq id)<;>rw[hc] at h
    ·cases h
    ·exact h
   ·change pX es[i].ids _ (C.off+d)=none at h;unfold pX at h;rw[aA3.2 (hdid d hd)] at h;exact h
   ·unfold app;rw[hdst];exact hR'
  ·have hw':aEH ops (SD (fun k=>r.getD k true) 0 s0 es) o:=by
    obtain⟨g,want,d,hg,hd,hb⟩:=hw;have e:=hlkt d (aYL hg hd);refine⟨g,want,d,hg,hd,?_⟩;rcases hb with ⟨vs,hv,hz⟩|⟨b,hb,hne⟩
    ·exact .inl ⟨vs,by rw[e];exact hv,hz⟩
    ·exact .inr ⟨b,by rw[e];exact hb,hne⟩
   rw[JK (by rw[bLd hR hw'];simp)];refine hnext ρ _ w ?_;unfold app;rw[hdst,hv,hob];exact hR.put o.dst (yV hdo) (.raw _)
theorem bTF (J:jC C w0) (f:C.P.follows .mixedOrders=true) {id:Nat} {Q:Exit->Act->World->Prop} (h:RR C.E n N w0 ρ s0 a w) {K:ASt U->Prop}
  (hx:tV C n ops ops.toList [] s0 (fun es s'=>aAX ops ops.toList [] es=true/\K s')) (V:∀s' ρ' a' w',K s'->RR C.E n N w0 ρ' s' a' w'->Q .normal a' w'):(Code.region id ops true).wp C.P Q a w:=by
 obtain⟨es,r,G,u,I⟩:=bEj (s0:=s0) ops.toList [] s0 _ (fun j=>XU) rfl (fun i hi=>absurd hi XU) hx;have L:es.length=ops.size:=by simpa using r
 refine wp_region_any f (bVz (N:=N) (w0:=w0) J (bN4 u L) G (fun ρ' a' w' S=>V _ ρ' a' w' I S) ops.size (Array.replicate ops.size false) ρ a _ XU ?_ ?_ ?_)
 ·exact KU List.countP_le_length XU
 ·intro j o ho Z;have O:j<ops.size:=(JQ.1 ho).1;simp[O] at Z
 ·have:SD (fun k=>(Array.replicate ops.size false).getD k true) 0 s0 es=s0:=aLg es 0 s0 (fun i hi=>by
   have:i<ops.size:=XY;simp[this])
  rw[this];exact h.drew
end
end Go.Vm
namespace Go.Vm
open Go.RowKit
set_option linter.unusedVariables false
inductive Slot where
 |tmp (t:Nat)
 |cell (id off:Nat)
structure Canon (U:eW) where
 keep:List Nat
 cells:List Nat
 own:List (Slot×Nat×U.τ)
 soft:List (Slot×U.τ)
 deep:List Nat:=[]
section
variable {U:eW}
def yI (p:Nat->Bool):aC U->Bool
 | .ptr id _=>p id
 | .eptr _ _ _ _ _=>false
 | .osl id _=>p id
 | .ovw id _ _ _ _=>p id
 | .any=>true
 |c=>stays 4 c
def aNA (p:Nat->Bool):aC U->Bool
 | .agg l=>l.all (yI p)
 | .tup l=>l.all (yI p)
 | .fn _ l=>l.all (yI p)
 | .ref l _=>l.all (yI p)
 |c=>yI p c
def aDc (s:ASt U):Slot->Option (aC U)
 | .tmp t=>some (s.tmps t)
 | .cell id off=>match s.objs id with
  |some (.cells l)=>l[off]?
  |_=>none
def aMN (s:ASt U) (sl:Slot) (τ:U.τ) (d:Bool):Option (Option Nat×List (U.T τ)):=
 match aDc s sl with
 |some .nils=>cond (!d||Nat.beq (U.size τ) 1) (some (none,[])) none
 |some (.osl j g)=>match s.objs j with
  |some (.row t f xs)=>cond (Nat.beq g f&&!d) (match rV τ t xs with
   |some ys=>some (some j,ys)
   |none=>none) none
  |some (.deep t f _ xs)=>cond (Nat.beq g f&&d) (match rV τ t xs with
   |some ys=>some (some j,ys)
   |none=>none) none
  |_=>none
 |_=>none
def aC2 (own:List (Slot×Nat×U.τ)) (t:Nat):Option Nat:=
 match own with
 |[]=>none
 | (.tmp t',id,_)::r=>cond (Nat.beq t t') (some id) (aC2 r t)
 |_::r=>aC2 r t
def uS (own:List (Slot×Nat×U.τ)) (i k:Nat):Option Nat:=
 match own with
 |[]=>none
 | (.cell u f,id,_)::r=>cond (Nat.beq i u&&Nat.beq k f) (some id) (uS r i k)
 |_::r=>uS r i k
def aMx (own:List (Slot×Nat×U.τ)) (i k:Nat) (c:aC U):aC U:=
 match uS own i k with
 |some id=>.osl id 0
 |none=>c
def patch (own:List (Slot×Nat×U.τ)) (i:Nat):Nat->List (aC U)->List (aC U)
 |_,[]=>[]
 |k,c::f=>aMx own i k c::patch own i (k+1) f
def aEC (own:List (Slot×Nat×U.τ)) (i:Nat) (p:Nat->Bool):Nat->List (aC U)->Bool
 |_,[]=>true
 |k,c::f=>(match uS own i k with
  |some _=>true
  |none=>yI p c)&&aEC own i p (k+1) f
def aJJ (s:ASt U) (own:List (Slot×Nat×U.τ)) (p:Nat->Bool):List Nat->Option (Nat->aC U)
 |[]=>some fun _=>.any
 |t::r=>match aJJ s own p r with
  |some f=>match aC2 own t with
   |some id=>some fun u=>cond (Nat.beq u t) (.osl id 0) (f u)
   |none=>cond (aNA p (s.tmps t)) (some fun u=>cond (Nat.beq u t) (s.tmps t) (f u)) none
  |none=>none
def aAN (s:ASt U) (own:List (Slot×Nat×U.τ)) (p:Nat->Bool):List Nat->Option (Nat->Option (bK U))
 |[]=>some fun _=>none
 |i::r=>match aAN s own p r,s.objs i with
  |some f,some (.cells l)=>cond (aEC own i p 0 l) (some fun u=>cond (Nat.beq u i) (some (.cells (patch own i 0 l))) (f u)) none
  |some f,some (.row t g xs)=>some fun u=>cond (Nat.beq u i) (some (.row t g xs)) (f u)
  |some f,some (.opq k d)=>some fun u=>cond (Nat.beq u i) (some (.opq k d)) (f u)
  |some f,some (.rowF t g xs k m G)=>cond (p m) (some fun u=>cond (Nat.beq u i) (some (.rowF t g xs k m G)) (f u)) none
  |_,_=>none
def aFA (s:ASt U) (G:List Nat) (f:Nat->Option (bK U)):List (Slot×Nat×U.τ)->Option ((Nat->Option (bK U))×List Nat)
 |[]=>some (f,[])
 | (sl,id,τ)::r=>match aFA s G f r,aMN s sl τ (G.any (Nat.beq id)) with
  |some (h,I),some (j,xs)=>match h id with
   |none=>match j with
    |some j=>cond (I.any (Nat.beq j)||(f j).isSome) none (some (fun u=>cond (Nat.beq u id) (some (eA.obj ⟨G.any (Nat.beq id),τ,xs⟩)) (h u),j::I))
    |none=>some (fun u=>cond (Nat.beq u id) (some (eA.obj ⟨G.any (Nat.beq id),τ,xs⟩)) (h u),I)
   |some _=>none
  |_,_=>none
def aH0 (τ:U.τ):aC U->aC U
 | .nils=>.sl τ []
 |x=>x
def uC (τ:U.τ):Nat->List (aC U)->List (aC U)
 |_,[]=>[]
 |0,c::f=>aH0 τ c::f
 |k+1,c::f=>c::uC τ k f
def aMJ (s:ASt U):Slot×U.τ->ASt U
 | (.tmp t,τ)=>⟨fun u=>cond (Nat.beq u t) (aH0 τ (s.tmps t)) (s.tmps u),s.objs⟩
 | (.cell i k,τ)=>match s.objs i with
  |some (.cells l)=>⟨s.tmps,fun u=>cond (Nat.beq u i) (some (.cells (uC τ k l))) (s.objs u)⟩
  |_=>s
def aHZ:List (Slot×U.τ)->ASt U->ASt U
 |[],s=>s
 |x::l,s=>aHZ l (aMJ s x)
def aPQ (s:ASt U) (j:Nat):ASt U:=
 match s.objs j with
 |some (.rowF t g xs i m u)=>match s.objs m with
  |some (.row r f ys)=>match Nat.beq u f,U.unsl t r ys with
   |true,some y=>(s.obj m (.row r (u+1) [])).obj j (.row t g (xs.set i y))
   |_,_=>s
  |_=>s
 |some (.deepF t g u xs m G)=>match s.objs m with
  |some (.row r f ys)=>match Nat.beq G f,U.unsl t r ys with
   |true,some y=>(s.obj m (.row r (G+1) [])).obj j (.deep t g u (xs++[y]))
   |_,_=>s
  |_=>s
 |_=>s
def aPP (s:ASt U) (x:Slot×Nat×U.τ):ASt U:=
 match aDc s x.1 with
 |some (.osl j _)=>aPQ s j
 |_=>s
def aJ3:List (Slot×Nat×U.τ)->ASt U->ASt U
 |[],s=>s
 |x::l,s=>aJ3 l (aPP s x)
def bCB (m:Canon U) (s:ASt U):Option (ASt U):=
 match aJJ s m.own (fun i=>m.cells.any (Nat.beq i)) m.keep,aAN s m.own (fun i=>m.cells.any (Nat.beq i)) m.cells with
 |some f,some g=>match aFA s m.deep g m.own with
  |some (h,_)=>some ⟨f,h⟩
  |none=>none
 |_,_=>none
def canon (m:Canon U) (s:ASt U):Option (ASt U):=bCB m (aJ3 m.own (aHZ m.soft s))
end
end Go.Vm
namespace Go.Vm
open Go.RowKit
set_option linter.unusedVariables false
section
variable {U:eW} {E:Enc U} {n:Nat} {N:Nat->Prop} {w0:Fr} {w w':World} {ρ ρ':Own} {s s':ASt U} {a:Act}
theorem aAB {st st':Nat->Prop} {p:Nat->Bool} {x:aC U} {v:Value} (hx:yI p x=true) (G:∀id g u,p id=true->ρ id=some (g,u)->ρ' id=some (g,u)) (L:∀b,st b->st' b)
  (h:Rel E w ρ st x v):Rel E w ρ' st' x v:=by
 have r:stays 4 x=true->Rel E w ρ' st' x v:=fun hf=>(aQy (ρ':=fun _=>none) 4 _ _ hf h).mono (fun b hb=>⟨L b hb,rfl⟩) (fun _ _ _ f=>by cases f)
 cases x with
 |ptr id off=>
  cases h with
  |ptr _ _ b hb=>exact .ptr id off b (G _ _ _ hx hb)
 |any=>exact .any _
 |eptr=>cases hx
 |osl id g=>
  cases h with
  |osl _ _ u f hp=>exact .osl id g _ (G _ _ _ hx f) hp
  |oslOld _ _ J u v f I=>exact .oslOld id g J u _ (G _ _ _ hx f) I
 |ovw id g V hi S=>
  cases h with
  |ovw _ _ _ _ _ u ad c f hp Z O=>exact .ovw id g V hi S u ad c (G _ _ _ hx f) hp Z O
  |ovwOld _ _ _ _ _ J u v f I=>exact .ovwOld id g V hi S J u _ (G _ _ _ hx f) I
 |_=>exact r hx
theorem bL9 {st st':Nat->Prop} {p:Nat->Bool} {x:aC U} {v:Value} (hx:aNA p x=true) (L:∀id g u,p id=true->ρ id=some (g,u)->ρ' id=some (g,u)) (r:∀b,st b->st' b)
  (h:Rel E w ρ st x v):Rel E w ρ' st' x v:=by
 cases x with
 |agg l=>
  cases h with
  |agg _ J O I=>exact .agg l J O (fun k G=>aAB (JG.1 hx _ (QN G)) L r (I k G))
 |tup l=>
  cases h with
  |tup _ J O I=>exact .tup l J O (fun k G=>aAB (JG.1 hx _ (QN G)) L r (I k G))
 |fn f l=>
  cases h with
  |fn _ _ J O I=>exact .fn f l J O (fun k G=>aAB (JG.1 hx _ (QN G)) L r (I k G))
 |ref l off=>
  cases h with
  |ref _ _ b o f hb S I=>exact .ref l off b o f (r b hb) S (fun k G=>aAB (JG.1 hx _ (QN G)) L r (I k G))
 |_=>exact aAB hx L r h
def aPu (F:Fr) (s:ASt U) (ρ:Own) (a:Act) (w:World):Slot->Value->Prop
 | .tmp t,u=>a.kY F t=u
 | .cell i k,u=>∃l b c f,s.objs i=some (.cells l)/\ρ i=some (0,.pointer (some ⟨b,0,none⟩))/\w.heap[b]?=some (.cells c f (0,0))/\k<l.length/\c.getD k undef=u
theorem aMM (h:RR E n N w0 ρ s a w) {sl:Slot} {x:aC U} (hv:aDc s sl=some x):∃u,aPu w0 s ρ a w sl u/\Rel E w ρ (bF N ρ w) x u:=by
 cases sl with
 |tmp t=>
  simp only[aDc,QQ] at hv;subst hv;exact⟨_,rfl,h.tmps t⟩
 |cell i k=>
  simp only[aDc] at hv;split at hv
  ·rename_i l f;obtain⟨b,c,G,L,S,J,O,I⟩:=h.objs _ _ f;have r:=(QA.1 hv).1;have hx:=(QA.1 hv).2;refine⟨_,⟨l,b,c,G,f,L,J,r,rfl⟩,?_⟩;rw[<- hx];exact I k r
  ·cases hv
def bW2 (E:Enc U) (N:Nat->Prop) (w0:Fr) (ρ:Own) (w:World) (j:Option Nat) (x:eA U) (u:Value):Prop:=
 ∃f:Own,f (.ob 0)=some (0,u)/\(∀nm v q,f nm=some (q,v)->nm.id=0/\q=0)/\(∀i,f (.mem 0 i)=match x.1,j with
   |true,some j=>(ρ (.mem j i)).map fun p=>(0,p.2)
   |_,_=>none)/\gE E w f (bF N ρ w) w0.heap.size 0 x.obj
theorem aJ6 {ρ ρ':Own} {st:Nat->Prop} {c:aC U} {v:Value} (f:c.flat=true) (h:Rel E w ρ st c v):Rel E w ρ' st c v:=h.flat f
theorem bFk (h:RR E n N w0 ρ s a w) {sl:Slot} {τ:U.τ} {d:Bool} {j:Option Nat} {xs:List (U.T τ)} (f:aMN s sl τ d=some (j,xs)):
  ∃u,aPu w0 s ρ a w sl u/\(∀a,u≠ .pointer a)/\bW2 E N w0 ρ w j ⟨d,τ,xs⟩ u/\(j=none->u=.slice none 0 0)/\∀i,j=some i->∃g ob,ρ i=some (g,u)/\s.objs i=some ob:=by
 unfold aMN at f;split at f
 ·rename_i hv;have I:=cM f;clear f;obtain⟨hb,f⟩:=I;simp only[QQ,QK] at f;obtain⟨rfl,rfl⟩:=f;obtain⟨u,S,G⟩:=aMM h hv;cases G;refine⟨_,S,(fun a e=>by cases e),⟨fun nm=>match nm with | .ob 0=>some (0,.slice none 0 0)|_=>none,rfl,fun nm v q f=>?_,fun i=>?_,?_⟩,(fun _=>rfl),(fun i e=>by cases e)⟩
  ·simp only at f;split at f
   ·cases f;exact⟨rfl,rfl⟩
   ·cases f
  ·cases d<;>rfl
  ·cases d with
   |false=>exact⟨_,[],rfl,(fun a e=>by cases e),JE _ _ _ _,fun i hi=>absurd hi XU⟩
   |true=>
    refine⟨_,[],rfl,(fun a e=>by cases e),JE _ _ _ _,?_,fun _ _=>rfl,fun i hi=>absurd hi XU⟩;simp only[KC,XX] at hb;exact QZ hb
 ·rename_i j' g hv;split at f
  ·rename_i t g' ys V;have I:=cM f;clear f;obtain⟨hb,f⟩:=I;simp only[QU,JF] at hb;obtain⟨cQ,rfl⟩:=hb;obtain rfl:=QZ cQ;split at f
   ·rename_i zs hz;simp only[QQ,QK] at f;obtain⟨rfl,rfl⟩:=f;obtain⟨rfl,rfl⟩:=tC hz;obtain⟨u,S,G⟩:=aMM h hv;obtain⟨J,cs,L,hp,h2,h3⟩:=h.objs _ _ V;have O:J=u:=by
     cases G with
     |osl _ _ u' r hp'=>
      rw[L] at r;simp only[QQ,QK,true_and] at r;exact r
     |oslOld _ _ g' u' v r hg=>
      rw[L] at r;simp only[QQ,QK] at r;omega
    subst O;refine⟨J,S,hp,⟨fun nm=>match nm with | .ob 0=>some (0,J)|_=>none,rfl,fun nm v q f=>?_,fun i=>rfl,⟨J,cs,rfl,hp,h2,fun i hi k Z=>aJ6 (E.enc_flat _ _ _ (QN Z)).1 (h3 i hi k Z)⟩⟩,(fun e=>by cases e),fun i e=>?_⟩
    ·simp only at f;split at f
     ·cases f;exact⟨rfl,rfl⟩
     ·cases f
    ·obtain rfl:=QW e;exact⟨g,_,L,V⟩
   ·cases f
  ·rename_i t g' gm ys V;have I:=cM f;clear f;obtain⟨hb,f⟩:=I;simp only[QU] at hb;obtain⟨cQ,rfl⟩:=hb;obtain rfl:=QZ cQ;split at f
   ·rename_i zs hz;simp only[QQ,QK] at f;obtain⟨rfl,rfl⟩:=f;obtain⟨rfl,rfl⟩:=tC hz;obtain⟨u,S,G⟩:=aMM h hv;obtain⟨J,cs,L,hp,h2,hs,hno,h3⟩:=h.objs _ _ V;have O:J=u:=by
     cases G with
     |osl _ _ u' r hp'=>
      rw[L] at r;simp only[QQ,QK,true_and] at r;exact r
     |oslOld _ _ g' u' v r hg=>
      rw[L] at r;simp only[QQ,QK] at r;omega
    subst O;refine⟨J,S,hp,⟨fun nm=>match nm with | .ob 0=>some (0,J) | .mem 0 i=>(ρ (.mem j' i)).map (fun p=>(0,p.2))|_=>none,rfl,fun nm v q f=>?_,fun i=>rfl,⟨J,cs,rfl,hp,h2,hs,fun i hi=>?_,fun i hi=>?_⟩⟩,(fun e=>by cases e),fun i e=>?_⟩
    ·simp only at f;split at f
     ·cases f;exact⟨rfl,rfl⟩
     ·simp only[Option.map_eq_some_iff] at f;obtain⟨p,_,e⟩:=f;cases e;exact⟨rfl,rfl⟩
     ·cases f
    ·show (ρ (.mem j' i)).map _=none;rw[hno i hi];rfl
    ·obtain⟨t1,tT,v1,ds,r1,r2,r3,r4,r5,r6⟩:=h3 i hi;exact⟨t1,tT,v1,ds,r1,by show (ρ (.mem j' i)).map _=_;rw[r2];rfl,r3,r4,r5,fun i hi k Z=>aJ6 (E.enc_flat _ _ _ (QN Z)).1 (r6 i hi k Z)⟩
    ·obtain rfl:=QW e;exact⟨g,_,L,V⟩
   ·cases f
  ·cases f
 ·cases f
structure Pack (E:Enc U) (n:Nat) (N:Nat->Prop) (w0:Fr) (ρ:Own) (s:ASt U) (a:Act) (w:World) (g:Nat->Option (bK U)) (own:List (Slot×Nat×U.τ)) (h:Nat->Option (bK U)) (js:List Nat)
  (ρ':Own) (sg:Nat->Option Nat):Prop where
 obs:∀id ob,h id=some ob->(g id=some ob/\∀nm:Name,nm.id=id->ρ' nm=ρ nm)\/(g id=none/\∃x:eA U,ob=x.obj/\gE E w ρ' (bF N ρ w) w0.heap.size id x.obj)
 old:∀id ob,g id=some ob->h id=some ob/\∀nm:Name,nm.id=id->ρ' nm=ρ nm
 dom:∀nm q u,ρ' nm=some (q,u)->∃ob,h nm.id=some ob/\(ob.simple=true->∃k,nm=.ob k)
 src:∀nm q u b,ρ' nm=some (q,u)->blk u=some b->∃j q0,sg nm.id=some j/\ρ (nm.at j)=some (q0,u)
 inj:∀i i' j,sg i=some j->sg i'=some j->i=i'
 sgin:∀i j,sg i=some j->((∃ob,g j=some ob)/\i=j)\/j∈js
 slots:∀sl id τ,(sl,id,τ)∈own->∃u,ρ' (.ob id)=some (0,u)/\aPu w0 s ρ a w sl u/\∀a,u≠ .pointer a
theorem Pack.sep {g h:Nat->Option (bK U)} {own:List (Slot×Nat×U.τ)} {Z:List Nat} {V:Nat->Option Nat} (hR:RR E n N w0 ρ s a w) (P:Pack E n N w0 ρ s a w g own h Z ρ' V):
  ∀nm f q S u G b,ρ' nm=some (q,u)->ρ' f=some (S,G)->nm≠f->blk u=some b->blk G≠some b:=by
 intro nm f q S u G b hr I J hb r;obtain⟨j,q0,h1,h2⟩:=P.src _ _ _ b hr hb;obtain⟨j',q0',O,L⟩:=P.src _ _ _ b I r;refine hR.sep _ _ _ _ _ _ b h2 L (fun e=>?_) hb r;have hj:j=j':=by
  have:=congrArg Name.id e;rwa [Name.qF,Name.qF] at this
 subst hj;exact J (Name.aL5 (P.inj _ _ _ h1 O) e)
theorem bOX (hR:RR E n N w0 ρ s a w) {dp:List Nat} {g:Nat->Option (bK U)} (hg:∀id ob,g id=some ob->∃ob',s.objs id=some ob'/\(ob.simple=true->ob'.simple=true)):
  ∀(own:List (Slot×Nat×U.τ)) (h:Nat->Option (bK U)) (js:List Nat),aFA s dp g own=some (h,js)->∃ρ' sg,Pack E n N w0 ρ s a w g own h js ρ' sg:=by
 intro own
 induction own with
 |nil=>
  intro h js O;simp only[aFA,QQ,QK] at O;obtain⟨rfl,rfl⟩:=O;have hin:∀{nm:Name} {q:Nat} {u:Value},(if (g nm.id).isSome then ρ nm else none)=some (q,u)->(∃ob,g nm.id=some ob)/\ρ nm=some (q,u):=fun {nm q u} G=>by
   split at G
   ·rename_i hs;exact⟨Option.isSome_iff_exists.1 hs,G⟩
   ·cases G
  refine⟨fun nm=>if (g nm.id).isSome then ρ nm else none,fun i=>if (g i).isSome then some i else none,fun id ob ho=>.inl ⟨ho,fun nm S=>by simp[S,ho]⟩,fun id ob ho=>⟨ho,fun nm S=>by simp[S,ho]⟩,fun nm q u G=>?_,fun nm q u b G _=>?_,fun i i' j Z J=>?_,fun i j Z=>?_,fun _ _ _ hm=>by simp at hm⟩
  ·obtain⟨⟨ob,ho⟩,G⟩:=hin G;refine⟨ob,ho,fun hs=>?_⟩;obtain⟨ob',q1,q2⟩:=hg _ _ ho;obtain⟨ob2,q3,q4⟩:=hR.dom _ _ _ G;rw[q1] at q3;cases q3;exact q4 (q2 hs)
  ·obtain⟨⟨ob,ho⟩,G⟩:=hin G;exact⟨nm.id,q,by simp[ho],by rw[Name.bCN];exact G⟩
  ·split at Z
   ·split at J
    ·cases Z;cases J;rfl
    ·cases J
   ·cases Z
  ·split at Z
   ·rename_i hs;cases Z;exact .inl ⟨Option.isSome_iff_exists.1 hs,rfl⟩
   ·cases Z
 |cons o own ih=>
  intro h js O;obtain⟨sl,id,τ⟩:=o;simp only[aFA] at O;generalize hd:dp.any (Nat.beq id)=d at O;split at O
  ·rename_i Z qP j xs rP hrow;split at O
   ·rename_i hnone;obtain⟨ρ1,sg1,P⟩:=ih Z qP rP;obtain⟨u,hslot,hup,⟨ρx,x1,x2,x3,x4⟩,hnil,hj⟩:=bFk hR hrow;have hfree:∀nm:Name,nm.id=id->ρ1 nm=none:=fun nm S=>by
     cases f:ρ1 nm with
     |none=>rfl
     |some p=>
      obtain⟨ob,ho,_⟩:=P.dom nm p.1 p.2 f;rw[S,hnone] at ho;cases ho
    have hgn:g id=none:=by
     cases f:g id with
     |none=>rfl
     |some ob=>
      have:=(P.old id ob f).1;rw[hnone] at this;cases this
    -- the new row, whichever list of old names
    have build:∀(js':List Nat),(∀i∈qP,i∈js')->(∀i,j=some i->i∈js'/\i ∉ qP/\g i=none)->
      ∃ρ' sg,Pack E n N w0 ρ s a w g ((sl,id,τ)::own) (fun q=>cond (Nat.beq q id) (some (eA.obj ⟨d,τ,xs⟩)) (Z q)) js' ρ' sg:=fun js' sZ hj3=>by
     have hh:∀q,(cond (Nat.beq q id) (some (eA.obj ⟨d,τ,xs⟩)) (Z q))=if q=id then some (eA.obj ⟨d,τ,xs⟩) else Z q:=fun q=>by
      by_cases f:q=id
      ·subst f;rw[JS,JV rfl];rfl
      ·rw[iX f,JK f];rfl
     let ρ2:Own:=fun nm=>if nm.id=id then ρx (nm.at 0) else ρ1 nm
     have in2:∀nm:Name,nm.id=id->ρ2 nm=ρx (nm.at 0):=fun nm S=>by show (if _ then _ else _)=_;rw[JV S]
     have I:∀nm:Name,¬nm.id=id->ρ2 nm=ρ1 nm:=fun nm S=>by show (if _ then _ else _)=_;rw[JK S]
     have hobj:gE E w ρ2 (bF N ρ w) w0.heap.size id (eA.obj ⟨d,τ,xs⟩):=by
      refine x4.join (JX _) (fun _ _=>rfl) (in2 (.ob id) rfl) (fun i=>in2 (.mem id i) rfl) (fun t z c v _ _ hc hv=>aJ6 (E.enc_flat t z c hc).1 hv)
     refine⟨ρ2,fun q=>if q=id then j else sg1 q,fun q ob ho=>?_,fun q ob ho=>?_,fun nm gq uq G=>?_,fun nm gq uq b G hb=>?_,fun i i' k e1 e2=>?_,fun i k e1=>?_,fun sl' id' τ' hm=>?_⟩
     ·rw[hh] at ho;split at ho
      ·rename_i f;subst f;obtain rfl:=QW ho;exact .inr ⟨hgn,_,rfl,hobj⟩
      ·rename_i f;rcases P.obs q ob ho with ⟨J,h3⟩|⟨J,x,h3,h4⟩
       ·exact .inl ⟨J,fun nm S=>by rw[I nm (by rw[S];exact f)];exact h3 nm S⟩
       ·refine .inr ⟨J,x,h3,?_⟩;exact h4.join (JX _) (fun _ _=>rfl) (I (.ob q) f) (fun i=>I (.mem q i) f) (fun t z c v _ _ hc hv=>aJ6 (E.enc_flat t z c hc).1 hv)
     ·have f:q≠id:=fun e=>by subst e;rw[hgn] at ho;cases ho
      obtain⟨J,h3⟩:=P.old q ob ho;exact⟨by rw[hh,JK f];exact J,fun nm S=>by rw[I nm (by rw[S];exact f)];exact h3 nm S⟩
     ·by_cases f:nm.id=id
      ·refine⟨_,by rw[hh,JV f],fun hs=>?_⟩;have hd0:d=false:=(eA.aNB ⟨d,τ,xs⟩ hs:_);cases nm with
       |ob k=>exact⟨k,rfl⟩
       |mem k i=>
        rw[in2 _ f] at G;have r:ρx (.mem 0 i)=some (gq,uq):=G;rw[x3 i,hd0] at r;cases r
      ·rw[I nm f] at G;obtain⟨ob,ho,hs⟩:=P.dom nm gq uq G;exact⟨ob,by rw[hh,JK f];exact ho,hs⟩
     ·by_cases f:nm.id=id
      ·rw[in2 _ f] at G;cases hjj:j with
       |none=>
        cases nm with
        |ob k=>
         have r:ρx (.ob 0)=some (gq,uq):=G;rw[x1] at r;cases r;rw[hnil hjj] at hb;cases hb
        |mem k i=>
         have r:ρx (.mem 0 i)=some (gq,uq):=G;rw[x3 i,hjj] at r;cases d<;>cases r
       |some i=>
        refine⟨i,?_⟩;cases nm with
        |ob k=>
         have r:ρx (.ob 0)=some (gq,uq):=G;rw[x1] at r;cases r;obtain⟨g0,ob,J,h3⟩:=hj i hjj;exact⟨g0,by rw[JV f],J⟩
        |mem k i2=>
         have r:ρx (.mem 0 i2)=some (gq,uq):=G;rw[x3 i2,hjj] at r;cases d with
         |false=>cases r
         |true=>
          simp only[Option.map_eq_some_iff] at r;obtain⟨p,hp,e⟩:=r;cases e;exact⟨p.1,by rw[JV f],hp⟩
      ·rw[I nm f] at G;obtain⟨k,q0,J,h3⟩:=P.src nm gq uq b G hb;exact⟨k,q0,by rw[JK f];exact J,h3⟩
     ·have key:∀i' k,¬i'=id->j=some k->sg1 i'=some k->False:=fun i' k V hjk hs=>by
       obtain⟨_,q1,q2⟩:=hj3 k hjk;rcases P.sgin i' k hs with ⟨⟨ob,ho⟩,_⟩|hm
       ·rw[q2] at ho;cases ho
       ·exact q1 hm
      by_cases hi:i=id
      ·rw[JV hi] at e1
       by_cases V:i'=id
       ·rw[hi,V]
       ·rw[JK V] at e2;exact(key i' k V e1 e2).elim
      ·rw[JK hi] at e1
       by_cases V:i'=id
       ·rw[JV V] at e2;exact(key i k hi e2 e1).elim
       ·rw[JK V] at e2;exact P.inj _ _ _ e1 e2
     ·by_cases hi:i=id
      ·rw[JV hi] at e1;exact .inr (hj3 k e1).1
      ·rw[JK hi] at e1;rcases P.sgin i k e1 with J|J
       ·exact .inl J
       ·exact .inr (sZ k J)
     ·rcases List.mem_cons.1 hm with e|hm
      ·simp only[QK] at e;obtain⟨rfl,rfl,rfl⟩:=e;exact⟨u,by rw[in2 _ rfl];exact x1,hslot,hup⟩
      ·obtain⟨u',J,h3,h4⟩:=P.slots sl' id' τ' hm;have f:id'≠id:=fun e=>by
        subst e;rw[hfree (.ob id') rfl] at J;cases J
       exact⟨u',by rw[I (.ob id') f];exact J,h3,h4⟩
    split at O
    ·rename_i i;cases L:(qP.any (Nat.beq i)||(g i).isSome) with
     |true=>rw[L] at O;cases O
     |false=>
      rw[L] at O;simp only[QJ,QQ,QK] at O;simp only[QC] at L;obtain⟨hany,hgi⟩:=L;obtain⟨rfl,rfl⟩:=O;refine build (i::qP) (fun q f=>QE _ f) (fun q f=>?_);obtain rfl:=QW f;refine⟨JJ,fun hm=>?_,by simpa using hgi⟩;have:=aA3.2 hm;rw[hany] at this;cases this
    ·simp only[QQ,QK] at O;obtain⟨rfl,rfl⟩:=O;exact build qP (fun q f=>f) (fun q f=>by cases f)
   ·cases O
  ·cases O
end
end Go.Vm
namespace Go.Vm
open Go.RowKit
set_option linter.unusedVariables false
section
variable {U:eW} {E:Enc U} {n:Nat} {N:Nat->Prop} {w0:Fr} {w w':World} {ρ ρ':Own} {s s':ASt U} {a:Act}
theorem bO5 {own:List (Slot×Nat×U.τ)} {t id:Nat} (h:aC2 own t=some id):∃τ,(.tmp t,id,τ)∈own:=by
 induction own with
 |nil=>cases h
 |cons o own r=>
  obtain⟨sl,i,τ⟩:=o;cases sl with
  |tmp t'=>
   simp only[aC2] at h;cases hb:Nat.beq t t' with
   |true=>
    rw[hb] at h;obtain rfl:=QW h;obtain rfl:=QZ hb;exact⟨τ,JJ⟩
   |false=>
    rw[hb] at h;obtain⟨f,hm⟩:=r h;exact⟨f,QE _ hm⟩
  |cell G u=>
   simp only[aC2] at h;obtain⟨f,hm⟩:=r h;exact⟨f,QE _ hm⟩
theorem bO6 {own:List (Slot×Nat×U.τ)} {i k id:Nat} (h:uS own i k=some id):∃τ,(.cell i k,id,τ)∈own:=by
 induction own with
 |nil=>cases h
 |cons o own r=>
  obtain⟨sl,j,τ⟩:=o;cases sl with
  |tmp t'=>
   simp only[uS] at h;obtain⟨f,hm⟩:=r h;exact⟨f,QE _ hm⟩
  |cell G u=>
   simp only[uS] at h;cases hb:(Nat.beq i G&&Nat.beq k u) with
   |true=>
    rw[hb] at h;obtain rfl:=QW h;simp only[QU] at hb;obtain rfl:=QZ hb.1;obtain rfl:=QZ hb.2;exact⟨τ,JJ⟩
   |false=>
    rw[hb] at h;obtain⟨f,hm⟩:=r h;exact⟨f,QE _ hm⟩
theorem lZ {α:Type} (u t:Nat) (x y:α):cond (Nat.beq u t) x y=if u=t then x else y:=by
 by_cases h:u=t
 ·subst h;rw[JS,JV rfl];rfl
 ·rw[iX h,JK h];rfl
theorem bOW {own:List (Slot×Nat×U.τ)} {p:Nat->Bool}:∀(l:List Nat) (f:Nat->aC U),aJJ s own p l=some f->
  ∀t,f t=.any\/(∃id τ,(.tmp t,id,τ)∈own/\f t=.osl id 0)\/(f t=s.tmps t/\aNA p (s.tmps t)=true):=by
 intro l
 induction l with
 |nil=>
  intro f r t;obtain rfl:=QW r;exact .inl rfl
 |cons u l L=>
  intro f r t;simp only[aJJ] at r;split at r
  ·rename_i O G;split at r
   ·rename_i id I;obtain rfl:=QW r;simp only[lZ]
    by_cases h:t=u
    ·subst h;obtain⟨τ,hm⟩:=bO5 I;exact .inr (.inl ⟨id,τ,hm,by rw[JV rfl]⟩)
    ·rw[JK h];exact L O G t
   ·have J:=cM r;clear r;obtain⟨hb,r⟩:=J;obtain rfl:=QW r;simp only[lZ]
    by_cases h:t=u
    ·subst h;exact .inr (.inr ⟨by rw[JV rfl],hb⟩)
    ·rw[JK h];exact L O G t
  ·cases r
theorem aWO {own:List (Slot×Nat×U.τ)} {p:Nat->Bool}:∀(l:List Nat) (g:Nat->Option (bK U)),aAN s own p l=some g->
  ∀id ob,g id=some ob->id∈l/\((∃O,s.objs id=some (.cells O)/\ob=.cells (patch own id 0 O)/\aEC own id p 0 O=true)\/
   s.objs id=some ob/\((∃t q xs,ob=.row t q xs)\/(∃t q xs k m V,ob=.rowF t q xs k m V/\p m=true)\/∃k d,ob=.opq k d)):=by
 intro l
 induction l with
 |nil=>
  intro g f id ob ho;obtain rfl:=QW f;cases ho
 |cons i l S=>
  intro g f id ob ho;simp only[aAN] at f;split at f
  ·rename_i J O r u;have L:=cM f;clear f;obtain⟨hb,f⟩:=L;obtain rfl:=QW f;simp only[lZ] at ho
   by_cases h:id=i
   ·subst h;rw[JV rfl] at ho;obtain rfl:=QW ho;exact⟨JJ,.inl ⟨O,u,rfl,hb⟩⟩
   ·rw[JK h] at ho;obtain⟨I,G⟩:=S J r id ob ho;exact⟨QE _ I,G⟩
  ·rename_i J t q xs r u;obtain rfl:=QW f;simp only[lZ] at ho
   by_cases h:id=i
   ·subst h;rw[JV rfl] at ho;obtain rfl:=QW ho;exact⟨JJ,.inr ⟨u,.inl ⟨t,q,xs,rfl⟩⟩⟩
   ·rw[JK h] at ho;obtain⟨I,G⟩:=S J r id ob ho;exact⟨QE _ I,G⟩
  ·rename_i J k d r u;obtain rfl:=QW f;simp only[lZ] at ho
   by_cases h:id=i
   ·subst h;rw[JV rfl] at ho;obtain rfl:=QW ho;exact⟨JJ,.inr ⟨u,.inr (.inr ⟨k,d,rfl⟩)⟩⟩
   ·rw[JK h] at ho;obtain⟨I,G⟩:=S J r id ob ho;exact⟨QE _ I,G⟩
  ·rename_i J t q xs k m V r u;have L:=cM f;clear f;obtain⟨hb,f⟩:=L;obtain rfl:=QW f;simp only[lZ] at ho
   by_cases h:id=i
   ·subst h;rw[JV rfl] at ho;obtain rfl:=QW ho;exact⟨JJ,.inr ⟨u,.inr (.inl ⟨t,q,xs,k,m,V,rfl,hb⟩)⟩⟩
   ·rw[JK h] at ho;obtain⟨I,G⟩:=S J r id ob ho;exact⟨QE _ I,G⟩
  ·cases f
theorem aWP {own:List (Slot×Nat×U.τ)} {p:Nat->Bool}:∀(l:List Nat) (g:Nat->Option (bK U)),aAN s own p l=some g->∀id∈l,∃ob,g id=some ob:=by
 intro l
 induction l with
 |nil=>intro g J id G;simp at G
 |cons i l O=>
  intro g J id G;have I:∀(r:Nat->Option (bK U)) (o:bK U),aAN s own p l=some r->g=(fun u=>cond (Nat.beq u i) (some o) (r u))->∃ob,g id=some ob:=fun r o f e=>by
   subst e;simp only[lZ]
   by_cases h:id=i
   ·subst h;exact⟨_,by rw[JV rfl]⟩
   ·rw[JK h];rcases List.mem_cons.1 G with e|G
    ·exact absurd e h
    ·exact O r f id G
  simp only[aAN] at J;split at J
  ·rename_i r V f L;exact I r _ f (QW (cM J).2).symm
  ·rename_i r t q xs f L;exact I r _ f (QW J).symm
  ·rename_i r k d f L;exact I r _ f (QW J).symm
  ·rename_i r t q xs k m S f L;exact I r _ f (QW (cM J).2).symm
  ·cases J
theorem aMw (own:List (Slot×Nat×U.τ)) (i:Nat):∀(cs:List (aC U)) (k:Nat),(patch own i k cs).length=cs.length:=by
 intro cs
 induction cs with
 |nil=>intro k;rfl
 |cons c cs f=>intro k;simp[patch,f]
theorem bJv (own:List (Slot×Nat×U.τ)) (i:Nat):∀(cs:List (aC U)) (k j:Nat) (h:j<cs.length),(patch own i k cs)[j]'(by rw[aMw];exact h)=aMx own i (k+j) cs[j]:=by
 intro cs
 induction cs with
 |nil=>intro k j h;simp at h
 |cons c cs f=>
  intro k j h;cases j with
  |zero=>rfl
  |succ j=>
   simp only[patch,List.getElem_cons_succ];rw[f (k+1) j (by simpa using h),JP,Nat.add_comm 1 j]
theorem bJw {own:List (Slot×Nat×U.τ)} {i:Nat} {p:Nat->Bool}:∀(cs:List (aC U)) (k:Nat),aEC own i p k cs=true->∀j (h:j<cs.length),uS own i (k+j)=none->yI p cs[j]=true:=by
 intro cs
 induction cs with
 |nil=>intro k _ j h;simp at h
 |cons c cs u=>
  intro k r j h f;simp only[aEC,QU] at r;cases j with
  |zero=>
   rw[JL] at f;rw[f] at r;exact r.1
  |succ j=>
   rw[<- JP,Nat.add_right_comm] at f;exact u (k+1) r.2 j (by simpa using h) f
theorem aRG {st:Nat->Prop} {τ:U.τ} {x:aC U} {v:Value} (h:Rel E w ρ st x v):Rel E w ρ st (aH0 τ x) v:=by
 cases x with
 |nils=>
  cases h;exact .lJ τ
 |_=>exact h
theorem aRF (τ:U.τ):∀(l:List (aC U)) (k:Nat),(uC τ k l).length=l.length:=by
 intro l
 induction l with
 |nil=>intro k;cases k<;>rfl
 |cons c l f=>
  intro k;cases k with
  |zero=>rfl
  |succ k=>simp[uC,f]
theorem bFg {st:Nat->Prop} {τ:U.τ}:∀(l:List (aC U)) (k:Nat) (f:Nat->Value),(∀j (h:j<l.length),Rel E w ρ st l[j] (f j))->∀j (h:j<(uC τ k l).length),Rel E w ρ st (uC τ k l)[j] (f j):=by
 intro l
 induction l with
 |nil=>
  intro k f _ j h;rw[aRF] at h;exact absurd h XU
 |cons c l u=>
  intro k f r j h;cases k with
  |zero=>
   cases j with
   |zero=>exact aRG (r 0 XU)
   |succ j=>exact r (j+1) (by simpa[uC] using h)
  |succ k=>
   cases j with
   |zero=>exact r 0 XU
   |succ j=>exact u k (fun i=>f (i+1)) (fun i hi=>r (i+1) (by simpa using hi)) j (by simpa[uC] using h)
theorem bFf (f:RR E n N w0 ρ s a w) (x:Slot×U.τ):RR E n N w0 ρ (aMJ s x) a w:=by
 obtain⟨sl,τ⟩:=x;cases sl with
 |tmp t=>
  refine⟨f.defers,f.size,fun u=>?_,f.objs,f.dom,f.sep,f.below,f.nlt,f.kept,f.free,f.pin,f.nle⟩;show Rel E w ρ _ (cond (Nat.beq u t) (aH0 τ (s.tmps t)) (s.tmps u)) _;rw[lZ];split
  ·rename_i e;subst e;exact aRG (f.tmps u)
  ·exact f.tmps u
 |cell i k=>
  simp only[aMJ];split
  ·rename_i l J;refine⟨f.defers,f.size,f.tmps,fun id ob ho=>?_,fun nm g u O=>?_,f.sep,f.below,f.nlt,f.kept,f.free,fun id u hp=>by
    obtain⟨⟨ob,ho⟩,G⟩:=f.pin id u hp;refine⟨?_,G⟩;simp only[lZ];split
    ·exact⟨_,rfl⟩
    ·exact⟨ob,ho⟩,f.nle⟩
   ·simp only[lZ] at ho;split at ho
    ·rename_i e;subst e;obtain rfl:=QW ho;obtain⟨b,c,L,h1,G,Z,V,S⟩:=f.objs _ _ J;exact⟨b,c,L,h1,G,Z,by rw[aRF];exact V,bFg l k _ S⟩
    ·exact f.objs _ _ ho
   ·obtain⟨ob,r,I⟩:=f.dom _ _ _ O
    by_cases e:nm.id=i
    ·refine⟨.cells (uC τ k l),by simp only[lZ,JV e],fun _=>?_⟩;rw[e,J] at r;cases r;exact I rfl
    ·exact⟨ob,by simp only[lZ,JK e];exact r,I⟩
  ·exact f
theorem aRE:∀(l:List (Slot×U.τ)) (s:ASt U),RR E n N w0 ρ s a w->RR E n N w0 ρ (aHZ l s) a w
 |[],_,h=>h
 |x::l,s,h=>aRE l _ (bFf h x)
theorem bQe (h:RR E n N w0 ρ s a w) (j:Nat):∃ρ',RR E n N w0 ρ' (aPQ s j) a w:=by
 unfold aPQ;split
 ·rename_i t g xs i m L hj;split
  ·rename_i Z gm' ys hm;split
   ·rename_i y hb hy;obtain rfl:=QZ hb;obtain⟨u,cs,h1,hp,h2,hsz,hi,hmr,h3⟩:=h.objs _ _ hj;have hjm:j≠m:=fun e=>by
     subst e;rw[hj] at hm;cases hm
    obtain⟨hR1,hv⟩:=h.bBb hm;have hobj1:(s.obj m (.row Z (L+1) [])).objs j=some (.rowF t g xs i m L):=by
     show cond (Nat.beq j m) _ (s.objs j)=_;rw[iX hjm];exact hj
    refine⟨dU ρ m (L+1) (.slice none 0 0),?_⟩;have hmono:∀{x:aC U} {v:Value},Rel E w ρ (bF N ρ w) x v->x.flat=true->Rel E w (dU ρ m (L+1) (.slice none 0 0)) (bF N (dU ρ m (L+1) (.slice none 0 0)) w) x v:=fun {x v} hx hf=>
     (hx.flat (ρ':=cW) hf).mono (fun b ⟨q1,q2,q3⟩=>⟨⟨q1,q2,fun nm g u r hbl=>by
      unfold dU at r;split at r
      ·cases r;cases hbl
      ·exact q3 _ _ _ r hbl⟩,rfl⟩) (fun _ _ _ r=>by cases r)
    have hhold:=hR1;have c:Chg N (fun q=>q=j) w0.heap.size (dU ρ m (L+1) (.slice none 0 0)) (dU ρ m (L+1) (.slice none 0 0)) w w:=
     ⟨fun _ _=>rfl,fun _ _ _ _ iH=>.inl iH,Below.refl _ _,fun _ _ _=>rfl,fun nm g1 u1 b' hd iH hb'=>.inl ⟨nm,g1,u1,hd,iH,hb'⟩,fun nm nm' g1 g2 u1 u2 b' _ _ iH mR hne cQ=>hR1.sep _ _ _ _ _ _ b' iH mR hne cQ⟩
    refine hR1.change c rfl (fun q f=>?_) (fun nm g1 u1 hd iH=>?_) (fun q ob f ho=>?_) (fun q ob f _=>⟨.row t g (xs.set i y),by
     rw[f];show cond (Nat.beq j j) _ _=_;rw[JS];rfl⟩)
    ·show cond (Nat.beq q j) _ _=_;rw[iX f];rfl
    ·obtain⟨ob,q1,q2⟩:=hR1.dom _ _ _ iH;rw[hd,hobj1] at q1;cases q1;refine⟨.row t g (xs.set i y),?_,fun _=>q2 rfl⟩;rw[hd];show cond (Nat.beq j j) _ _=_;rw[JS];rfl
    ·subst f;have e0:((s.obj m (.row Z (L+1) [])).obj q (.row t g (xs.set i y))).objs q=some (.row t g (xs.set i y)):=by
      show cond (Nat.beq q q) _ _=_;rw[JS];rfl
     rw[e0] at ho;cases ho;refine⟨u,cs,?_,hp,by rw[JM];exact h2,fun p f k G=>?_⟩
     ·unfold dU;rw[JK (fun e=>hjm (Name.ob.inj e))];exact h1
     ·rw[JM] at f
      by_cases hqi:p=i
      ·subst hqi;have hey:=E.unsl_ok _ _ _ _ hy;have mS:k=0:=by
        rw[E.enc_len,hsz] at G;omega
       subst mS;have e1:(E.enc t (xs.set p y)[p])[0]=.sl Z ys:=by
        simp only[List.getElem_set_self,hey];rfl
       rw[e1,hsz,Nat.mul_one,JL];exact hv hmr
      ·have e1:(xs.set i y)[p]'(by simpa using f)=xs[p]:=by rw[List.getElem_set_ne (Ne.symm hqi)]
       have fC:k<(E.enc t xs[p]).length:=by rw[E.enc_len] at G ⊢;exact G
       have:=hmono (h3 p f hqi k fC) (E.enc_flat t _ _ (QN fC)).1;simp only[e1];exact this
   ·exact⟨ρ,h⟩
  ·exact⟨ρ,h⟩
 ·rename_i t g L xs m gq hj;split
  ·rename_i Z gm' ys hm;split
   ·rename_i y hb hy;obtain rfl:=QZ hb;obtain⟨u,cs,h1,hp,h2,hsz,hno,hmr,h3⟩:=h.objs _ _ hj;obtain⟨um,csm,m1,mp,m2,m4⟩:=h.objs _ _ hm;have O:m≠j:=fun e=>by
     subst e;rw[hj] at hm;cases hm
    have hum:cs.getD xs.length undef=um:=by
     generalize cs.getD xs.length undef=c at hmr;cases hmr with
     |osl _ _ u' J hp'=>
      rw[m1] at J;simp only[QQ,QK,true_and] at J;exact J.symm
     |oslOld _ _ g' u' v J hg=>
      rw[m1] at J;simp only[QQ,QK] at J;omega
    have hmemm:=h.aEI (id:=m) (fun ob ho=>by rw[hm] at ho;cases ho;rfl)
    let ρ2:Own:=sO (sO ρ m (some (gq+1,.slice none 0 0)) (fun _=>none)) j (ρ (.ob j)) (fun k=>if k=xs.length then some (L,um) else ρ (.mem j k))
    have ej:ρ2 (.ob j)=ρ (.ob j):=aMU;have V:∀k,ρ2 (.mem j k)=if k=xs.length then some (L,um) else ρ (.mem j k):=fun k=>aMV
    have em:ρ2 (.ob m)=some (gq+1,.slice none 0 0):=by
     show sO _ j _ _ (.ob m)=_;rw[aDg (show (Name.ob m).id≠j from O)];exact aMU
    have emm:∀k,ρ2 (.mem m k)=none:=fun k=>by
     show sO _ j _ _ (.mem m k)=_;rw[aDg (show (Name.mem m k).id≠j from O)];exact aMV
    have eout:∀nm:Name,nm.id≠m->nm.id≠j->ρ2 nm=ρ nm:=fun nm h1 h2=>by
     show sO _ j _ _ nm=_;rw[aDg h2,aDg h1]
    have I:∀(nm:Name) g u b,(nm.id=m\/nm.id=j)->ρ2 nm=some (g,u)->blk u=some b->(nm=.ob j/\ρ (.ob j)=some (g,u))\/(nm=.mem j xs.length/\u=um)\/∃k,k≠xs.length/\nm=.mem j k/\ρ (.mem j k)=some (g,u):=fun nm g u b f r hb=>by
     cases nm with
     |ob q=>
      rcases f with f|f
      ·obtain rfl:q=m:=f;rw[em] at r;cases r;cases hb
      ·obtain rfl:q=j:=f;rw[ej] at r;exact .inl ⟨rfl,r⟩
     |mem q k=>
      rcases f with f|f
      ·obtain rfl:q=m:=f;rw[emm] at r;cases r
      ·obtain rfl:q=j:=f;rw[V] at r;split at r
       ·rename_i G;subst G;cases r;exact .inr (.inl ⟨rfl,rfl⟩)
       ·rename_i G;exact .inr (.inr ⟨k,G,rfl,r⟩)
    have c:Chg N (fun q=>q=m\/q=j) w0.heap.size ρ ρ2 w w:=by
     refine bFA h O eout (fun nm g u f r=>?_) (Below.refl _ _) (fun b hb _=>rfl) (fun nm=>match nm with | .ob q=>.ob q | .mem q k=>if k=xs.length then .ob m else .mem q k) (fun nm g u b f r hb=>?_) (fun nm nm' g g1 u u1 b b1 f hq' r J hb cQ he=>?_)
     ·cases nm with
      |ob q=>
       rcases f with f|f
       ·obtain rfl:q=m:=f;rw[m1] at r;cases r;exact .inr ⟨mp,_,_,em,XY⟩
       ·obtain rfl:q=j:=f;exact .inl (by rw[ej];exact r)
      |mem q k=>
       rcases f with f|f
       ·obtain rfl:q=m:=f;rw[hmemm k] at r;cases r
       ·obtain rfl:q=j:=f
        by_cases G:k=xs.length
        ·rw[hno k XY] at r;cases r
        ·exact .inl (by rw[V,JK G];exact r)
     ·rcases I nm g u b f r hb with ⟨rfl,h4⟩|⟨rfl,rfl⟩|⟨k,G,rfl,h4⟩
      ·exact⟨.inr rfl,.inl ⟨_,_,h4,hb⟩⟩
      ·simp only[if_true];exact⟨.inl rfl,.inl ⟨_,_,m1,hb⟩⟩
      ·simp only[JK G];exact⟨.inr rfl,.inl ⟨_,_,h4,hb⟩⟩
     ·rcases I nm g u b f r hb with ⟨rfl,h4⟩|⟨rfl,rfl⟩|⟨k,G,rfl,h4⟩
      ·rcases I nm' g1 u1 b1 hq' J cQ with ⟨rfl,h5⟩|⟨rfl,rfl⟩|⟨k',S,rfl,h5⟩
       ·rfl
       ·simp only[if_true] at he;exact absurd (Name.ob.inj he).symm O
       ·simp only[JK S] at he;cases he
      ·rcases I nm' g1 u1 b1 hq' J cQ with ⟨rfl,h5⟩|⟨rfl,rfl⟩|⟨k',S,rfl,h5⟩
       ·simp only[if_true] at he;exact absurd (Name.ob.inj he) O
       ·rfl
       ·simp only[if_true,JK S] at he;cases he
      ·rcases I nm' g1 u1 b1 hq' J cQ with ⟨rfl,h5⟩|⟨rfl,rfl⟩|⟨k',S,rfl,h5⟩
       ·simp only[JK G] at he;cases he
       ·simp only[if_true,JK G] at he;cases he
       ·simp only[JK G,JK S] at he;exact he
    obtain⟨o1,o2,o3⟩:=bLa s m j 0 O (.row Z (gq+1) []) (.deep t g L (xs++[y])) .any;refine⟨ρ2,h.change (s':=(s.obj m (.row Z (gq+1) [])).obj j (.deep t g L (xs++[y]))) c rfl (fun q f=>o1 q (fun e=>f (.inl e)) (fun e=>f (.inr e))) (fun nm g u f r=>?_) (fun q ob f ho=>?_) (fun q ob f _=>by
      rcases f with e|e
      ·exact⟨_,(congrArg _ e).trans o2⟩
      ·exact⟨_,(congrArg _ e).trans o3⟩)⟩
    ·rcases f with f|f
     ·refine⟨_,by rw[f];exact o2,fun _=>?_⟩;cases nm with
      |ob q=>exact⟨q,rfl⟩
      |mem q k=>
       obtain rfl:q=m:=f;rw[emm] at r;cases r
     ·exact⟨_,by rw[f];exact o3,fun e=>by cases e⟩
    ·rcases f with rfl|rfl
     ·rw[show ((s.obj q (.row Z (gq+1) [])).obj j (.deep t g L (xs++[y]))).objs q=some (.row Z (gq+1) []) from o2] at ho;cases ho;exact⟨.slice none 0 0,[],em,(fun a e=>by cases e),JE _ _ _ _,fun i hi=>absurd hi XU⟩
     ·rw[show ((s.obj m (.row Z (gq+1) [])).obj q (.deep t g L (xs++[y]))).objs q=some (.deep t g L (xs++[y])) from o3] at ho;cases ho;refine⟨u,cs,by rw[ej];exact h1,hp,by rw[QH];exact h2,hsz,fun k G=>?_,fun k G=>?_⟩
      ·rw[QH,QD] at G;rw[V,JK XY];exact hno k XY
      ·rw[QH,QD] at G
       by_cases hkl:k=xs.length
       ·subst hkl;refine⟨Z,ys,um,csm,?_,by rw[V,JV rfl],hum,mp,m2,fun i hi k G=>c.rel (m4 i hi k G)⟩;rw[List.getElem_concat_length (by rfl)];exact E.unsl_ok _ _ _ _ hy
       ·obtain⟨t2,ws,v2,ds2,p1,p2,p3,p4,p5,p6⟩:=h3 k XY;refine⟨t2,ws,v2,ds2,?_,by rw[V,JK hkl];exact p2,p3,p4,p5,fun i hi k G=>c.rel (p6 i hi k G)⟩;rw[JO XY];exact p1
   ·exact⟨ρ,h⟩
  ·exact⟨ρ,h⟩
 ·exact⟨ρ,h⟩
theorem bBF:∀(l:List (Slot×Nat×U.τ)) (s:ASt U) (ρ:Own),RR E n N w0 ρ s a w->∃ρ',RR E n N w0 ρ' (aJ3 l s) a w
 |[],_,ρ,h=>⟨ρ,h⟩
 |x::l,s,ρ,h=>by
  have:∃ρ',RR E n N w0 ρ' (aPP s x) a w:=by
   unfold aPP;split
   ·exact bQe h _
   ·exact⟨ρ,h⟩
  obtain⟨ρ',f⟩:=this;exact bBF l _ ρ' f
theorem aFY (hR0:RR E n N w0 ρ s a w) {m:Canon U} (nE:canon m s=some s') (hpin:∀id u,w0.pin id=some u->id∈m.cells):∃ρ',RR E n N w0 ρ' s' a w:=by
 obtain⟨ρ1,r⟩:=bBF m.own _ ρ (aRE m.soft s hR0)
 revert r nE
 unfold canon;generalize aJ3 m.own (aHZ m.soft s)=s;clear hR0
 revert ρ1
 intro ρ S r;unfold bCB at S;split at S
 ·rename_i f g hf hg;split at S
  ·rename_i h js L;obtain rfl:=QW S;have hgs:∀id ob,g id=some ob->∃ob',s.objs id=some ob'/\(ob.simple=true->ob'.simple=true):=fun id ob ho=>by
    rcases(aWO m.cells g hg id ob ho).2 with ⟨cs,I,rfl,_⟩|⟨I,_⟩
    ·exact⟨_,I,fun _=>rfl⟩
    ·exact⟨_,I,fun h=>h⟩
   obtain⟨ρ',sg,P⟩:=bOX r hgs m.own h js L;have hp:∀id q u,(m.cells.any (Nat.beq id))=true->ρ (.ob id)=some (q,u)->ρ' (.ob id)=some (q,u):=fun id q u hid O=>by
    obtain⟨ob,ho⟩:=aWP m.cells g hg id (aA3.1 hid);rw[(P.old id ob ho).2 (.ob id) rfl];exact O
   have J:∀b,bF N ρ w b->bF N ρ' w b:=fun b ⟨Z,G,I⟩=>⟨Z,G,fun nm q u O hb=>by
    obtain⟨j,q0,_,hr'⟩:=P.src nm q u b O hb;exact I _ _ _ hr' hb⟩
   refine⟨ρ',r.defers,r.size,fun t=>?_,fun id ob ho=>?_,P.dom,P.sep r,r.below,r.nlt,r.kept,fun nm q u b O hb=>?_,fun id u hpi=>by
    obtain⟨ob,ho⟩:=aWP m.cells g hg id (hpin id u hpi);obtain⟨_,hq⟩:=r.pin id u hpi;obtain⟨Z,G⟩:=P.old id ob ho;exact⟨⟨ob,Z⟩,by rw[G (.ob id) rfl];exact hq⟩,r.nle⟩
   ·rcases bOW m.keep f hf t with e|⟨id,τ,hm,e⟩|⟨e,hok⟩
    ·show Rel E w ρ' _ (f t) _;rw[e];exact .any _
    ·show Rel E w ρ' _ (f t) _;rw[e];obtain⟨u,Z,G,I⟩:=P.slots _ _ _ hm;rw[show a.kY w0 t=u from G];exact .osl id 0 u Z I
    ·show Rel E w ρ' _ (f t) _;rw[e];exact bL9 hok hp J (r.tmps t)
   ·have flat:∀{x:aC U} {v:Value},x.flat=true->Rel E w ρ (bF N ρ w) x v->Rel E w ρ' (bF N ρ' w) x v:=fun hx hv=>
     (hv.flat (ρ':=ρ') hx).mono (fun b hb=>⟨J b hb,rfl⟩) (fun _ _ _ O=>.inl O)
    rcases P.obs id ob ho with ⟨Z,G⟩|⟨_,x,rfl,G⟩
    ·rcases(aWO m.cells g hg id ob Z).2 with ⟨cs,I,rfl,h4⟩|⟨I,hrow⟩
     ·obtain⟨b,c,ty,h5,h6,h7,h8,h9⟩:=r.objs _ _ I;refine⟨b,c,ty,by rw[G (.ob id) rfl];exact h5,h6,h7,by rw[aMw];exact h8,fun k L=>?_⟩;have hk':k<cs.length:=by rw[aMw] at L;exact L
      rw[bJv _ _ _ _ _ hk',JW];unfold aMx;cases V:uS m.own id k with
      |some id'=>
       obtain⟨τ,hm⟩:=bO6 V;obtain⟨u,h10,⟨l',b',c',ty',h11,h12,h13,h14,h15⟩,h16⟩:=P.slots _ _ _ hm;rw[h5] at h12;simp only[QQ,QK,true_and,Value.pointer.injEq,KR,and_true] at h12;subst h12;rw[h7] at h13;simp only[QQ,Obj.cells.injEq] at h13;obtain⟨rfl,rfl,_⟩:=h13;rw[h15];exact .osl id' 0 u h10 h16
      |none=>exact aAB (bJw cs 0 h4 k hk' (by rw[JW];exact V)) hp J (h9 k hk')
     ·have h5:=r.objs _ _ I;rcases hrow with ⟨t,q,xs,rfl⟩|⟨t,q,xs,k,m',gm,rfl,hpm⟩|⟨k,d,rfl⟩
      ·obtain⟨u,cs,r1,r2,r3,r4⟩:=h5;exact⟨u,cs,by rw[G (.ob id) rfl];exact r1,r2,r3,fun i hi k L=>flat (E.enc_flat t _ _ (QN L)).1 (r4 i hi k L)⟩
      ·obtain⟨u,cs,r1,r2,r3,r4,r5,r6,r7⟩:=h5;exact⟨u,cs,by rw[G (.ob id) rfl];exact r1,r2,r3,r4,r5,aAB (p:=fun i=>m.cells.any (Nat.beq i)) (x:=.osl m' gm) hpm hp J r6,fun i hi hik k L=>flat (E.enc_flat t _ _ (QN L)).1 (r7 i hi hik k L)⟩
      ·exact gE.closed (w:=w) (ob:=.opq k d) rfl (G (.ob id) rfl) (fun j=>G (.mem id j) rfl) (fun b hb=>hb) h5
    ·refine G.join (JX _) (fun _ _=>rfl) rfl (fun _=>rfl) (fun t z c v _ _ S hv=>?_);exact(hv.flat (ρ':=ρ') (E.enc_flat t z c S).1).mono (fun b hb=>⟨J b hb,rfl⟩) (fun _ _ _ O=>.inl O)
   ·obtain⟨j,q0,_,hr'⟩:=P.src nm q u b O hb;exact r.free _ _ _ _ hr' hb
  ·cases S
 ·cases S
end
end Go.Vm
namespace Go.Vm
open Go.RowKit
set_option linter.unusedVariables false
inductive AEx where
 |normal
 |exit (id:Nat)
 |ret
def AEx.to:AEx->Exit
 | .normal=>.normal
 | .exit id=>.exit id
 | .ret=>.ret
section
variable {U:eW}
def aH9 (C:Cfg U) (s:ASt U):ResultVar->Option (aC U)
 | .tmp x=>some (s.look x)
 | .cell x t'=>match behind C.E s.objs (s.look x) with
  |some (l,off)=>partOf C.P t' l off
  |none=>none
def mU (f t:Nat):Bool:=Nat.ble f t&&Nat.blt t (f+1000000)
def hSub (f t:Nat):Nat:=t-f
def hAdd (f t:Nat):Nat:=t+f
def ASt.enter (s:ASt U) (f:Nat) (xs:List (aC U)):ASt U:=
 ⟨fun t=>cond (Nat.blt t 1000000) (xs.getD t (.raw undef)) (cond (mU f t) (s.tmps (hSub f t)) (s.tmps t)),s.objs⟩
def ASt.leave (s:ASt U) (f:Nat):ASt U:=
 ⟨fun t=>cond (Nat.blt t 1000000) (s.tmps (hAdd f t)) (cond (mU f t) .any (s.tmps t)),s.objs⟩
def Fr.hold (F:Fr) (f:Nat) (a:Act):Fr:={F with hv:=fun t=>cond (mU f t) (a.tmps.getD (hSub f t) undef) (F.hv t),ds:=[]}
def aDh (C:Cfg U) (s:ASt U):List ResultVar->Option (List (aC U))
 |[]=>some []
 |r::rs=>match aH9 C s r,aDh C s rs with
  |some x,some xs=>some (x::xs)
  |_,_=>none
def o9 (C:Cfg U) (s:ASt U) (fn:Func):Option (aC U):=
 match aDh C s fn.results.toList with
 |some [x]=>some x
 |some l=>some (.tup l)
 |none=>none
abbrev tI (U:eW):=Nat->Func->Code->ASt U->(AEx->ASt U->Prop)->Prop
def nQ:List Oper->List Oper×Option (Oper×List Oper)
 |[]=>([],none)
 |o::r=>match o.guard,o.op with
  |none,.call c=>match c.callee with
   | .value _=>([],some (o,r))
   |_=>(o::(nQ r).1,(nQ r).2)
  |_,_=>(o::(nQ r).1,(nQ r).2)
def aXx (C:Cfg U) (s:ASt U) (o:Oper):Option (Func×Code×List (aC U)):=
 match o.op with
 | .call c=>match c.callee with
  | .value x=>match s.eval x with
   | .fn f u=>match C.inl f with
    |some (fn,r)=>some (fn,r,c.args.toList.map s.eval++u)
    |none=>none
   |_=>none
  |_=>none
 |_=>none
def aP6 (X:tI U) (C:Cfg U) (n:Nat) (o:Oper) (s:ASt U) (K:ASt U->Prop):Prop:=
 match aXx C s o with
 |some (fn,f,xs)=>cond (qC n o&&Nat.ble xs.length fn.ntmps&&Nat.ble fn.ntmps 1000000&&Nat.ble 1000000 C.hb)
   (X (1000*(C.off+1+o.dst.getD 999)) fn f (s.enter C.hb xs) fun e s2=>match e with
    | .exit _=>False
    |_=>match o9 C s2 fn with
     |some r=>K ((s2.leave C.hb).put o.dst r)
     |none=>False) False
 |none=>match step C n s o with
  |some (u,s')=>both u (K s')
  |none=>False
def aDe (X:tI U) (C:Cfg U) (n:Nat) (ops:Array Oper):Nat->List Oper->ASt U->(ASt U->Prop)->Prop
 |0,_,_,_=>False
 |f+1,l,s,K=>match nQ l with
  | (r,none)=>match rU C n ops (r.length+1) [] r s with
   |some (u,s')=>both u (K s')
   |none=>False
  | (r,some (o,G))=>match rU C n ops (r.length+1) [] r s with
   |some (u,s1)=>both u (aP6 X C n o s1 fun s2=>aDe X C n ops f G s2 K)
   |none=>False
variable {n n':Nat} {N:Nat->Prop} {w0:Fr} {w w':World} {ρ ρ':Own} {s s':ASt U} {a a':Act} {C:Cfg U}
theorem aPe {a b:Nat} (h:a<b):Nat.blt a b=true:=Nat.ble_eq_true_of_le h
theorem aF8 {a b:Nat} (h:¬a<b):Nat.blt a b=false:=by
 cases hb:Nat.blt a b
 ·rfl
 ·exact absurd (QO hb) h
theorem bVY {a b:Nat} (h:Nat.ble a b=true):a<=b:=QO h
theorem bVX {a b:Nat} (h:Nat.blt a b=true):a<b:=QO h
theorem bVp {l t:Nat} (h:t<1000000):l<=t+l/\t+l<l+1000000:=XY
theorem bVo {l t:Nat} (f:1000000<=l) (u:l<=t) (r:t<l+1000000):1000000<=t/\t-l<1000000:=XY
theorem bVn {l t:Nat} (f:1000000<=l):¬t+l<1000000:=XY
theorem bOr {f t:Nat} (h:t<1000000):mU f (hAdd f t)=true:=by
 obtain⟨u,r⟩:=bVp (l:=f) h;unfold mU hAdd;rw[Nat.ble_eq_true_of_le u,aPe r];rfl
theorem bOq {f t:Nat} (r:1000000<=f) (h:mU f t=true):1000000<=t/\hSub f t<1000000:=by
 unfold mU at h;unfold hSub;rw[QU] at h;exact bVo r (bVY h.1) (bVX h.2)
theorem bPN {f:Nat} (r:1000000<=f) (t:Nat):¬hAdd f t<1000000:=bVn r
theorem bPM (f t:Nat):hSub f (hAdd f t)=t:=by
 unfold hSub hAdd;omega
theorem aLz {F:Fr} {t:Nat} (h:t<1000000):a.kY F t=a.tmps.getD t undef:=aBb h
theorem j5 {F:Fr} {t:Nat} (h:¬t<1000000):a.kY F t=F.hv t:=by
 unfold Act.kY;rw[aF8 h];rfl
theorem aYB {F:Fr} {f t:Nat} (h:mU f t=true):(F.hold f a).hv t=a.tmps.getD (hSub f t) undef:=by
 have e:∀x y:Value,cond (mU f t) x y=x:=fun x y=>by rw[h];rfl
 exact e _ _
theorem aYA {F:Fr} {f t:Nat} (h:mU f t=false):(F.hold f a).hv t=F.hv t:=by
 have e:∀x y:Value,cond (mU f t) x y=y:=fun x y=>by rw[h];rfl
 exact e _ _
theorem bSG {f t:Nat} {xs:List (aC U)} (h:t<1000000):(s.enter f xs).tmps t=xs.getD t (.raw undef):=by
 unfold ASt.enter;simp only[aPe h,QX]
theorem bSH {f t:Nat} {xs:List (aC U)} (h:¬t<1000000) (r:mU f t=true):(s.enter f xs).tmps t=s.tmps (hSub f t):=by
 unfold ASt.enter;simp only[aF8 h,r,QX,QJ]
theorem bSF {f t:Nat} {xs:List (aC U)} (h:¬t<1000000) (r:mU f t=false):(s.enter f xs).tmps t=s.tmps t:=by
 unfold ASt.enter;simp only[aF8 h,r,QJ]
theorem bNo {f t:Nat} (h:t<1000000):(s.leave f).tmps t=s.tmps (hAdd f t):=by
 unfold ASt.leave;simp only[aPe h,QX]
theorem bNp {f t:Nat} (h:¬t<1000000) (r:mU f t=true):(s.leave f).tmps t=.any:=by
 unfold ASt.leave;simp only[aF8 h,r,QX,QJ]
theorem bNn {f t:Nat} (h:¬t<1000000) (r:mU f t=false):(s.leave f).tmps t=s.tmps t:=by
 unfold ASt.leave;simp only[aF8 h,r,QJ]
def aGB (fn:Func) (args:Array Value):Act:={tmps:=args++Array.replicate (fn.ntmps-args.size) undef,defers:=[]}
theorem bC8 {E:Enc U} {st:Nat->Prop} {fn:Func} {xs:List (aC U)} {args:Array Value} (I:args.size=xs.length) (hx:∀k (h:k<xs.length),Rel E w ρ st xs[k] (args.getD k undef)) (t:Nat):
  Rel E w ρ st (xs.getD t (.raw undef)) ((aGB fn args).tmps.getD t undef):=by
 have e0:(aGB fn args).tmps=args++Array.replicate (fn.ntmps-args.size) undef:=rfl;rw[e0]
 by_cases r:t<xs.length
 ·have e1:xs.getD t (.raw undef)=xs[t]:=by simp[r]
  have f:(args++Array.replicate (fn.ntmps-args.size) undef).getD t undef=args.getD t undef:=by
   have:t<args.size:=XY;simp[Array.getElem?_append,this]
  rw[e1,f];exact hx t r
 ·have e1:xs.getD t (.raw undef)=.raw undef:=by
   have:xs.length<=t:=XY;simp[this]
  have f:(args++Array.replicate (fn.ntmps-args.size) undef).getD t undef=undef:=by
   have G:¬t<args.size:=XY;simp only[Array.getD_eq_getD_getElem?,Array.getElem?_append,JK G]
   by_cases u:t-args.size<fn.ntmps-args.size
   ·simp[u]
   ·simp[u]
  rw[e1,f];exact .raw _
theorem aJQ {E:Enc U} {st:Nat->Prop} {fn:Func} {F:Fr} {xs:List (aC U)} {args:Array Value} (hv:∀t,F.hv t=undef) (I:xs.length<=fn.ntmps) (r:fn.ntmps<=1000000) (G:args.size=xs.length) (hx:∀k (h:k<xs.length),Rel E w ρ st xs[k] (args.getD k undef)) (t:Nat):
  Rel E w ρ st (xs.getD t (.raw undef)) ((aGB fn args).kY F t):=by
 by_cases f:t<1000000
 ·rw[aLz f];exact bC8 G hx t
 ·rw[j5 f,hv];have u:xs.length<=t:=KU I (KU r (Nat.le_of_not_lt f));have e1:xs.getD t (.raw undef)=.raw undef:=by simp[u]
  rw[e1];exact .raw _
theorem RR.enter {E:Enc U} (h:RR E n N w0 ρ s a w) (r:Nat) (G:1000000<=r) {fn:Func} {xs:List (aC U)} {args:Array Value} (J:args.size=xs.length) (hx:∀k (h:k<xs.length),Rel E w ρ (bF N ρ w) xs[k] (args.getD k undef)) (L:xs.length<=fn.ntmps) (I:fn.ntmps<=1000000):
  RR E fn.ntmps N (w0.hold r a) ρ (s.enter r xs) (aGB fn args) w:=by
 refine⟨rfl,by simp[aGB];omega,fun t=>?_,h.objs,h.dom,h.sep,h.below,h.nlt,h.kept,h.free,h.pin,I⟩
 by_cases f:t<1000000
 ·rw[bSG f,aLz f];exact bC8 J hx t
 ·cases u:mU r t with
  |true=>
   rw[bSH f u,j5 f,aYB u];have:=h.tmps (hSub r t);rw[aBb (bOq G u).2] at this;exact this
  |false=>
   rw[bSF f u,j5 f,aYA u];have:=h.tmps t;rw[j5 f] at this;exact this
theorem RR.leave {E:Enc U} (I:RR E n N w0 ρ s a w) {r:Nat} (J:1000000<=r) (h:RR E n' N (w0.hold r a) ρ' s' a' w'):RR E n N w0 ρ' (s'.leave r) a w':=by
 refine⟨I.defers,I.size,fun t=>?_,h.objs,h.dom,h.sep,h.below,h.nlt,h.kept,h.free,h.pin,I.nle⟩
 by_cases f:t<1000000
 ·rw[bNo f,aLz f];have u:=h.tmps (hAdd r t);rw[j5 (bPN J t),aYB (bOr f),bPM] at u;exact u
 ·cases G:mU r t with
  |true=>
   rw[bNp f G];exact .any _
  |false=>
   rw[bNn f G,j5 f];have u:=h.tmps t;rw[j5 f,aYA G] at u;exact u
theorem aRW (I:RR C.E n N w0 ρ s a w) {r:ResultVar} {y:aC U} (h:aH9 C s r=some y):
  ∃v,(match r with
   | .tmp t=>pure (a.tmps.getD t undef)
   | .cell x t=>do loadVar t (<- asAddr (a.tmps.getD x undef)):Sem Value).run C.P w=.ok v w/\Rel C.E w ρ (bF N ρ w) y v:=by
 unfold aH9 at h;split at h
 ·rename_i x;cases h;exact⟨_,rfl,I.look x⟩
 ·rename_i x t';split at h
  ·rename_i l off hb;obtain⟨b,o,f,hp,J⟩:=bCJ I (fun _ _ h=>h) (I.look x) hb;obtain⟨u,G,L⟩:=aVy (P:=C.P) h J;refine⟨u,?_,L⟩;rw[hp];simp only[asAddr,QM,JU,QP,G]
  ·cases h
theorem bIX (J:RR C.E n N w0 ρ s a w):∀(rs:List ResultVar) (xs:List (aC U)),aDh C s rs=some xs->∃f,(rs.mapM (fun
   | .tmp t=>pure (a.tmps.getD t undef)
   | .cell x t=>do loadVar t (<- asAddr (a.tmps.getD x undef))):Sem (List Value)).run C.P w=.ok f w/\f.length=xs.length/\∀k (h:k<xs.length),Rel C.E w ρ (bF N ρ w) xs[k] (f.getD k undef):=by
 intro rs
 induction rs with
 |nil=>
  intro xs h;cases h;exact⟨[],rfl,rfl,fun k u=>absurd u XU⟩
 |cons r rs I=>
  intro xs h;simp only[aDh] at h;split at h
  ·rename_i x ys hx G;cases h;obtain⟨f,Z,V,S⟩:=I ys G;obtain⟨v,O,L⟩:=aRW J hx;refine⟨v::f,?_,by simp[V],fun k u=>?_⟩
   ·rw[List.mapM_cons];simp only[QM];refine QY (congrArg (fun r:Result Value=>r.andThen _) O) ?_;simp only[QP];refine QY (congrArg (fun r:Result (List Value)=>r.andThen _) Z) ?_;rfl
   ·cases k with
    |zero=>exact L
    |succ k=>exact S k (by simpa using u)
  ·cases h
theorem aRX (hR:RR C.E n N w0 ρ s a w) {fn:Func} {r:aC U} (h:o9 C s fn=some r):∃v,(results fn a.tmps).run C.P w=.ok v w/\Rel C.E w ρ (bF N ρ w) r v:=by
 have u:∀l,aDh C s fn.results.toList=some l->∃f:List Value,(fn.results.mapM (fun
   | .tmp t=>pure (a.tmps.getD t undef)
   | .cell x t=>do loadVar t (<- asAddr (a.tmps.getD x undef))):Sem (Array Value)).run C.P w=.ok f.toArray w/\f.length=l.length/\∀k (h:k<l.length),Rel C.E w ρ (bF N ρ w) l[k] (f.getD k undef):=fun l L=>by
  obtain⟨f,J,G,I⟩:=bIX hR _ l L;refine⟨f,?_,G,I⟩;rw[Array.mapM_eq_mapM_toList];simp only[Sem.run_map];rw[J];rfl
 unfold o9 at h;split at h
 ·rename_i x hx;cases h;obtain⟨f,J,G,I⟩:=u _ hx
  match f,G with
  |[v],_=>
   refine⟨v,?_,I 0 XU⟩;simp only[results,QM];exact QY (congrArg (fun r:Result (Array Value)=>r.andThen _) J) rfl
 ·rename_i l O L;cases h;obtain⟨f,J,G,I⟩:=u _ L;refine⟨.tuple f.toArray,?_,.tup _ f.toArray (by simpa using G) (fun k Z=>by simpa using I k Z)⟩;have V:¬f.toArray.size=1:=fun e=>by
   have S:l.length=1:=by rw[<- G];simpa using e
   match l,S with
   |[x],_=>exact O x rfl
  simp only[results,QM];refine QY (congrArg (fun r:Result (Array Value)=>r.andThen _) J) ?_;simp only[QP,dif_neg V];rfl
 ·cases h
def aGF (C:Cfg U) (N:Nat->Prop) (W:World) (pin:Nat->Option (Nat×Value)) (X:tI U):Prop:=
 ∀(off:Nat) (fn:Func) (c:Code) (s:ASt U) (K:AEx->ASt U->Prop) (F:Fr) (ρ:Own) (a:Act) (w:World) (Q:Exit->Act->World->Prop),F.w0=W->F.pin=pin->X off fn c s K->RR C.E fn.ntmps N F ρ s a w->
  (∀e s' ρ' a' w',K e s'->RR C.E fn.ntmps N F ρ' s' a' w'->Q e.to a' w')->c.wp C.P Q a w
theorem bF7:∀{l l1:List Oper},nQ l=(l1,none)->l=l1:=by
 intro l
 induction l with
 |nil=>intro l1 h;cases h;rfl
 |cons o r f=>
  intro l1 h;have rest:((o::(nQ r).1,(nQ r).2):List Oper×Option (Oper×List Oper))=(l1,none)->o::r=l1:=fun h=>by
   simp only[QK] at h;rw[<- h.1,<- f (l1:=(nQ r).1) (by rw[<- h.2])]
  unfold nQ at h;split at h
  ·split at h
   ·cases h
   ·exact rest h
  ·exact rest h
theorem bF6:∀{l l1 l2:List Oper} {o:Oper},nQ l=(l1,some (o,l2))->l=l1++o::l2/\o.guard=none:=by
 intro l
 induction l with
 |nil=>intro l1 l2 o h;cases h
 |cons o r u=>
  intro l1 l2 f h;have rest:((o::(nQ r).1,(nQ r).2):List Oper×Option (Oper×List Oper))=(l1,some (f,l2))->o::r=l1++f::l2/\f.guard=none:=fun h=>by
   simp only[QK] at h;obtain⟨J,I⟩:=u (l1:=(nQ r).1) (l2:=l2) (o:=f) (by rw[<- h.2]);exact⟨by rw[<- h.1,List.cons_append,<- J],I⟩
  unfold nQ at h;split at h
  ·rename_i G _;split at h
   ·cases h;exact⟨rfl,G⟩
   ·exact rest h
  ·exact rest h
theorem bTM {X:tI U} (hs:jC C w0) (hX:aGF C N w0.w0 w0.pin X) (hR:RR C.E n N w0 ρ s a w) {o:Oper} {K0:ASt U->Prop} (h:aP6 X C n o s K0) {K:Act->World->Prop} {Q:Exit->Act->World->Prop}
  (hK:∀s' ρ' a' w',K0 s'->RR C.E n N w0 ρ' s' a' w'->K a' w'):o.wp C.P a w K Q:=by
 unfold aP6 at h;split at h
 ·rename_i fn code xs hi;obtain⟨hb,h⟩:(qC n o&&Nat.ble xs.length fn.ntmps&&Nat.ble fn.ntmps 1000000&&Nat.ble 1000000 C.hb)=true/\_:=by
   cases hb:(qC n o&&Nat.ble xs.length fn.ntmps&&Nat.ble fn.ntmps 1000000&&Nat.ble 1000000 C.hb) with
   |false=>rw[hb] at h;exact h.elim
   |true=>rw[hb] at h;exact⟨rfl,h⟩
  simp only[QU] at hb;obtain⟨⟨⟨hd,hl⟩,S⟩,I⟩:=hb;have I:=QO I;have hl:=QO hl;have S:=QO S;obtain⟨dst,op,ty,pos,after,guard⟩:=o;unfold aXx at hi;split at hi
  ·rename_i c hop;simp only at hop;subst hop;obtain⟨callee,args,argTypes⟩:=c;simp only at hi;split at hi
   ·rename_i xo h';split at hi
    ·rename_i f L hxe;split at hi
     ·rename_i fn' code' hinl;cases hi;obtain⟨hf,hbody,Z⟩:=C.inlOK _ _ _ hinl;have O:=hR.eval xo;rw[hxe] at O;generalize hfv:a.eval xo=fv at O;cases O with
      |fn _ _ vs hvn hvl=>
      have J:(args.map a.eval++vs).size=(args.toList.map s.eval++L).length:=by simp[hvn]
      refine aGJ (f:=f) (args:=args.map a.eval++vs) ?_ (calls_of_wp hf hbody ?_)
      ·have e:#[]++args.map a.eval=args.map a.eval:=XU;simp[execOp,resolve,hfv,Deferred.ofValue,invoke,Z]
      ·have hRe:=hR.enter C.hb I (fn:=fn) J (fun k hk=>by
        by_cases V:k<args.size
        ·have e:(args.map a.eval++vs).getD k undef=a.eval args[k]:=by simp[Array.getElem?_append,V]
         rw[e];rw[JO (by simpa using V)];simp only[List.getElem_map,Array.getElem_toList];exact hR.eval _
        ·have fC:k-args.size<L.length:=by simp at hk;omega
         have e:(args.map a.eval++vs).getD k undef=vs.getD (k-args.size) undef:=by
          have:k-args.size<vs.size:=XY;simp[Array.getElem?_append,V]
         rw[e,List.getElem_append_right (by simp;omega)];have:=hvl (k-args.size) fC;simpa using this) hl S
       refine hX _ fn code _ _ (w0.hold C.hb a) ρ _ w _ rfl rfl h hRe (fun e s' ρ' a' w' u G=>?_);have fin:(match o9 C s' fn with
        |some r=>K0 ((s'.leave C.hb).put dst r)
        |none=>False)->a'.defers=[]/\∃v,(results fn a'.tmps).run C.P w'=.ok v w'/\∃v_1,Ending.returned v=.returned v_1/\K (a.put dst v_1) w':=fun u=>by
        split at u
        ·rename_i r hr;obtain⟨v,h1,h2⟩:=aRX G hr;exact⟨G.defers,v,h1,v,rfl,hK _ ρ' _ _ u ((hR.leave I G).put dst (yV hd) h2)⟩
        ·exact u.elim
       cases e with
       |normal=>exact fin u
       |exit id=>exact u.elim
       |ret=>exact fin u
     ·cases hi
    ·cases hi
   ·cases hi
  ·cases hi
 ·split at h
  ·rename_i cs s' hst;obtain⟨hc,hk⟩:=aF7 h;exact aQw hs hR hst hc (fun ρ' a' w' G=>hK _ ρ' a' w' hk G)
  ·exact h.elim
theorem bIR {X:tI U} {ops:Array Oper} (I:jC C w0) (hX:aGF C N w0.w0 w0.pin X) {Q:Exit->Act->World->Prop}:∀(f:Nat) (l:List Oper) (s:ASt U) (G:ASt U->Prop) (ρ:Own) (a:Act) (w:World),aDe X C n ops f l s G->RR C.E n N w0 ρ s a w->
  ∀(K:Act->World->Prop),(∀s' ρ' a' w',G s'->RR C.E n N w0 ρ' s' a' w'->K a' w')->wpl C.P ops Q l K a w:=by
 intro f
 induction f with
 |zero=>intro l s G ρ a w h;exact h.elim
 |succ f ih=>
  intro l s G ρ a w h hR K hK;unfold aDe at h;split at h
  ·rename_i l1 u;obtain rfl:=bF7 u;split at h
   ·rename_i cs s' r;obtain⟨L,J⟩:=aF7 h;exact aP9 _ C I _ _ _ _ _ r L ρ a w hR K (fun ρ' a' w' V=>hK _ ρ' a' w' J V)
   ·exact h.elim
  ·rename_i l1 o Z u;obtain⟨rfl,hg⟩:=bF6 u;split at h
   ·rename_i cs s1 r;obtain⟨L,J⟩:=aF7 h;refine aGI l1 (o::Z) (aP9 _ C I _ _ _ _ _ r L ρ a w hR _ (fun ρ1 a1 w1 S=>?_));unfold wpl;have hw:Region.wanted o (yielded ops a1.tmps)=true:=by
     unfold Region.wanted;rw[hg]
    rw[JV hw];exact bTM I hX S J (fun s2 ρ2 a2 w2 h2 O=>ih Z s2 G ρ2 a2 w2 h2 O K hK)
   ·exact h.elim
end
end Go.Vm
namespace Go.Vm
open Go.RowKit
set_option linter.unusedVariables false
section
variable {U:eW}
def iter (B:ASt U->(AEx->ASt U->Prop)->Prop) (m:Nat->Canon U):Nat->Nat->ASt U->(AEx->ASt U->Prop)->Prop
 |0,_,_,_=>False
 |f+1,r,s,K=>B s fun e s'=>match e with
  | .normal=>match canon (m (r+1)) s' with
   |some u=>iter B m f (r+1) u K
   |none=>False
  |e=>match canon (m r) s' with
   |some u=>K e u
   |none=>False
def ASt.aJI (s:ASt U) (c:Operand) (b:Bool):ASt U:=
 match c with
 | .tmp t=>s.set t (.bool b)
 |_=>s
theorem ASt.aWN {s:ASt U} {c:Operand} {b:Bool} (h:s.eval c=.bool b):s.aJI c b=s:=by
 unfold ASt.aJI;split
 ·rename_i t;have hb:s.tmps t=.bool b:=(aNs (show s.look t=.bool b from h) (fun e=>by cases e)).2;have:(s.set t (.bool b)).tmps=s.tmps:=funext fun u=>by
   show cond (Nat.beq u t) (.bool b) (s.tmps u)=s.tmps u
   by_cases f:u=t
   ·subst f;rw[JS];exact hb.symm
   ·rw[iX f];rfl
  exact congrArg (ASt.mk · s.objs) this
 ·rfl
def cY (X:tI U) (C:Cfg U) (n:Nat) (M:Nat->Nat->Nat->Canon U) (fuel:Nat):Nat->Code->ASt U->(AEx->ASt U->Prop)->Prop
 |_,.skip,s,K=>K .normal s
 |_,.region _ ops false,s,K=>match C.dep with
  |0=>match rU C n ops (ops.toList.length+1) [] ops.toList s with
   |some (r,s')=>both r (K .normal s')
   |none=>False
  |_+1=>aDe X C n ops (ops.toList.length+1) ops.toList s fun s'=>K .normal s'
 |_,.region _ ops true,s,K=>tV C n ops ops.toList [] s fun es s'=>cond (aAX ops ops.toList [] es) (K .normal s') False
 |cur,.seq x y,s,K=>cY X C n M fuel cur x s fun e s'=>match e with
  | .normal=>cY X C n M fuel cur y s' K
  |e=>K e s'
 |cur,.cond c x y,s,K=>match s.eval c with
  | .bool b=>match b with
   |true=>cY X C n M fuel cur x (s.aJI c true) K
   |false=>cY X C n M fuel cur y (s.aJI c false) K
  |_=>False
 |_,.block id c,s,K=>cY X C n M fuel id c s fun e s'=>match e with
  | .exit f=>cond (Nat.beq f id) (K .normal s') (K (.exit f) s')
  |e=>K e s'
 |cur,.loop c,s,K=>match canon (M C.off cur 0) s with
  |some s'=>iter (cY X C n M fuel cur c) (M C.off cur) fuel 0 s' K
  |none=>False
 |_,.exit id,s,K=>K (.exit id) s
 |_,.ret,s,K=>K .ret s
 |_,_,_,_=>False
def Cfg.at (C:Cfg U) (off:Nat):Cfg U:={C with off:=off,hb:=C.hb+1000000}
def bM (M:Nat->Nat->Nat->Canon U) (fuel:Nat):Nat->Cfg U->tI U
 |0,_=>fun _ _ _ _ _=>False
 |d+1,C=>fun off fn c s K=>cY (bM M fuel d (C.at off)) (C.at off) fn.ntmps M fuel 0 c s K
def exec (C:Cfg U) (n:Nat) (M:Nat->Nat->Nat->Canon U) (fuel:Nat) (cur:Nat) (c:Code) (s:ASt U) (K:AEx->ASt U->Prop):Prop:=cY (bM M fuel C.dep C) C n M fuel cur c s K
variable {n:Nat} {N:Nat->Prop} {w0:Fr} {w w':World} {ρ ρ':Own} {s s':ASt U} {a:Act} {C:Cfg U} {M:Nat->Nat->Nat->Canon U} {fuel:Nat}
theorem bO3 {B:ASt U->(AEx->ASt U->Prop)->Prop} {c:Code} {m:Nat->Canon U} (J:∀r id u,w0.pin id=some u->id∈(m r).cells)
  (hB:∀(s:ASt U) (K:AEx->ASt U->Prop) (ρ:Own) (a:Act) (w:World) (Q:Exit->Act->World->Prop),B s K->RR C.E n N w0 ρ s a w->(∀e s' ρ' a' w',K e s'->RR C.E n N w0 ρ' s' a' w'->Q e.to a' w')->c.wp C.P Q a w):
  ∀(f r:Nat) (s:ASt U) (K:AEx->ASt U->Prop) (ρ:Own) (a:Act) (w:World) (Q:Exit->Act->World->Prop),iter B m f r s K->RR C.E n N w0 ρ s a w->(∀e s' ρ' a' w',K e s'->RR C.E n N w0 ρ' s' a' w'->Q e.to a' w')->Code.rounds C.P c Q f a w:=by
 intro f
 induction f with
 |zero=>intro r s K ρ a w Q h;exact h.elim
 |succ f ih=>
  intro r s K ρ a w Q h hR Z;rw[rounds_succ];refine hB s _ ρ a w _ h hR (fun e s' ρ' a' w' I S=>?_);cases e with
  |normal=>
   simp only at I;split at I
   ·rename_i O V;obtain⟨L,G⟩:=aFY S V (J _);exact ih (r+1) O K L a' w' Q I G Z
   ·exact I.elim
  |exit id=>
   simp only at I;split at I
   ·rename_i O V;obtain⟨L,G⟩:=aFY S V (J _);exact Z _ _ _ _ _ I G
   ·exact I.elim
  |ret=>
   simp only at I;split at I
   ·rename_i O V;obtain⟨L,G⟩:=aFY S V (J _);exact Z _ _ _ _ _ I G
   ·exact I.elim
theorem bBT {X:tI U} (hs:jC C w0) (hX:aGF C N w0.w0 w0.pin X) (hmix:C.P.follows .mixedOrders=true) (L:∀off cur r id u,w0.pin id=some u->id∈(M off cur r).cells):∀(c:Code) (cur:Nat) (s:ASt U) (K:AEx->ASt U->Prop) (ρ:Own) (a:Act) (w:World) (Q:Exit->Act->World->Prop),
  cY X C n M fuel cur c s K->RR C.E n N w0 ρ s a w->(∀e s' ρ' a' w',K e s'->RR C.E n N w0 ρ' s' a' w'->Q e.to a' w')->c.wp C.P Q a w:=by
 intro c
 induction c with
 |skip=>
  intro cur s K ρ a w Q h I G;exact wp_skip (G .normal s ρ a w h I)
 |region id ops draw=>
  intro cur s K ρ a w Q h I G;cases draw with
  |false=>
   simp only[cY] at h;split at h
   ·split at h
    ·rename_i cs s' hrun;obtain⟨V,Z⟩:=aF7 h;exact wp_region (zR (aP9 _ C hs _ _ _ _ _ hrun V ρ a w I _ (fun ρ' a' w' f=>G .normal s' ρ' a' w' Z f)))
    ·exact h.elim
   ·exact wp_region (zR (bIR hs hX _ _ s _ ρ a w h I _ (fun s' ρ' a' w' Z f=>G .normal s' ρ' a' w' Z f)))
  |true=>
   simp only[cY] at h;refine bTF hs hmix I (K:=fun s'=>K .normal s') (cast ?_ h) (fun s' ρ' a' w' Z f=>G .normal s' ρ' a' w' Z f);congr 1;funext es s';cases aAX ops ops.toList [] es<;>simp
 |seq x y S O=>
  intro cur s K ρ a w Q h I G;simp only[cY] at h;refine wp_seq (S cur s _ ρ a w _ h I (fun e s' ρ' a' w' J f=>?_));cases e with
  |normal=>exact O cur s' K ρ' a' w' Q J f G
  |exit id=>exact G _ _ _ _ _ J f
  |ret=>exact G _ _ _ _ _ J f
 |cond c x y S O=>
  intro cur s K ρ a w Q h I G;simp only[cY] at h;split at h
  ·rename_i b hb;have V:=I.eval c;rw[hb] at V;refine wp_cond (aKJ V) ?_;cases b with
   |true=>
    simp only[ASt.aWN hb] at h;exact S cur s K ρ a w Q h I G
   |false=>
    simp only[ASt.aWN hb] at h;exact O cur s K ρ a w Q h I G
  ·exact h.elim
 |block id c ih=>
  intro cur s K ρ a w Q h I G;simp only[cY] at h;refine wp_block (ih id s _ ρ a w _ h I (fun e s' ρ' a' w' J f=>?_));cases e with
  |normal=>exact G .normal _ _ _ _ J f
  |exit id'=>
   simp only[lZ] at J;show Exit.inBlock id Q (.exit id') a' w';simp only[Exit.inBlock];split
   ·rename_i hi;rw[JV hi] at J;exact G .normal _ _ _ _ J f
   ·rename_i hi;rw[JK hi] at J;exact G (.exit id') _ _ _ _ J f
  |ret=>exact G .ret _ _ _ _ J f
 |loop c ih=>
  intro cur s K ρ a w Q h I G;simp only[cY] at h;split at h
  ·rename_i s' V;obtain⟨ρ',f⟩:=aFY I V (L _ _ _);exact wp_loop_rounds fuel (bO3 (L _ cur) (fun s K ρ a w Q h I G=>ih cur s K ρ a w Q h I G) fuel 0 s' K ρ' a w Q h f G)
  ·exact h.elim
 |exit id=>
  intro cur s K ρ a w Q h I G;exact wp_exit (G (.exit id) s ρ a w h I)
 |ret=>
  intro cur s K ρ a w Q h I G;exact wp_ret (G .ret s ρ a w h I)
 |_=>
  intro cur s K ρ a w Q h I G;exact h.elim
theorem bOj {W:World} {pin:Nat->Option (Nat×Value)} (G:∀off cur r id u,pin id=some u->id∈(M off cur r).cells):∀(d:Nat) (C:Cfg U),jC C W->C.P.follows .mixedOrders=true->aGF C N W pin (bM M fuel d C):=by
 intro d
 induction d with
 |zero=>intro C I f off fn c s K F ρ a w Q hF hp h;exact h.elim
 |succ d L=>
  intro C I f off fn c s K F ρ a w Q hF hp h V Z;have J:jC (C.at off) F:=by
   rw[show F.w0=W from hF];exact I
  have S:aGF (C.at off) N F.w0 F.pin (bM M fuel d (C.at off)):=by
   rw[hF,hp];exact L (C.at off) I f
  exact bBT (C:=C.at off) (w0:=F) J S f (fun off cur r id u O=>G off cur r id u (by rw[<- hp];exact O)) c 0 s K ρ a w Q h V Z
theorem aCf (I:jC C w0) (G:C.P.follows .mixedOrders=true) (f:∀off cur r id u,w0.pin id=some u->id∈(M off cur r).cells) (c:Code) (cur:Nat) (s:ASt U) (K:AEx->ASt U->Prop) (ρ:Own) (a:Act) (w:World) (Q:Exit->Act->World->Prop)
  (h:exec C n M fuel cur c s K) (J:RR C.E n N w0 ρ s a w) (L:∀e s' ρ' a' w',K e s'->RR C.E n N w0 ρ' s' a' w'->Q e.to a' w'):c.wp C.P Q a w:=
 bBT I (bOj f C.dep C I G) G f c cur s K ρ a w Q h J L
def aMZ (C:Cfg U) (look:Nat->Option (bK U)) (t:TypeId):aC U->Option (aC U)
 | .agg l=>match yZ C look (dN C.P 20 t) l with
  |some (ys,_)=>some (.agg ys)
  |none=>none
 |x=>match bCE C look t x with
  |some (y,_)=>some y
  |none=>none
def aJ5 (C:Cfg U) (look:Nat->Option (bK U)) (t:TypeId):aC U->Option (aC U×List (eA U×Option Nat))
 | .osl id g=>match look id with
  |some (.row t' f xs)=>cond (Nat.beq g f) (some (.new t' xs,[(⟨false,t',xs⟩,some id)])) none
  |some (.deep t' f _ xs)=>cond (Nat.beq g f) (some (.newd t' xs,[(⟨true,t',xs⟩,some id)])) none
  |_=>none
 | .nils=>match oK C t with
  |some τ=>match C.deep,C.E.inner τ,Nat.beq (U.size τ) 1 with
   |true,some _,true=>some (.newd τ [],[(⟨true,τ,[]⟩,none)])
   |_,_,_=>some (.new τ [],[(⟨false,τ,[]⟩,none)])
  |none=>none
 | .int k n=>some (.int k n,[])
 | .bool b=>some (.bool b,[])
 | .str s=>some (.str s,[])
 | .sl t xs=>some (.sl t xs,[])
 |_=>none
def aC9 (C:Cfg U) (look:Nat->Option (bK U)):List TypeId->List (aC U)->Option (List (aC U)×List (eA U×Option Nat))
 |[],[]=>some ([],[])
 |t::r,v::f=>match aJ5 C look t v,aC9 C look r f with
  |some (y,G),some (ys,u)=>some (y::ys,G++u)
  |_,_=>none
 |_,_=>none
def aPR (C:Cfg U) (look:Nat->Option (bK U)) (t:TypeId):aC U->Option (aC U×List (eA U×Option Nat))
 | .agg l=>match aC9 C look (dN C.P 20 t) l with
  |some (ys,f)=>some (.agg ys,f)
  |none=>none
 |x=>aJ5 C look t x
def aMY (C:Cfg U) (fr:Bool) (s:ASt U) (t:TypeId) (r:ResultVar):Option (aC U×List (eA U×Option Nat)):=
 match aH9 C s r with
 |some x=>match fr with
  |true=>aPR C s.objs t x
  |false=>match aMZ C s.objs t x with
   |some y=>some (mJ (fun _=>iP) 0 y,[])
   |none=>none
 |none=>none
def p7 (C:Cfg U) (fr:Bool) (s:ASt U):List TypeId->List ResultVar->Option (List (aC U)×List (eA U×Option Nat))
 |[],[]=>some ([],[])
 |t::f,r::rs=>match aMY C fr s t r,p7 C fr s f rs with
  |some (x,G),some (xs,u)=>some (x::xs,G++u)
  |_,_=>none
 |_,_=>none
def rK:List (eA U×Option Nat)->Bool
 |[]=>true
 | (_,some i)::l=>!l.any (fun p=>match p.2 with
  |some j=>Nat.beq i j
  |none=>false)&&rK l
 | (_,none)::l=>rK l
def result (C:Cfg U) (fr:Bool) (fn:Func) (s:ASt U):Option (aC U):=
 match p7 C fr s fn.resultTypes.toList fn.results.toList with
 |some ([x],f)=>match x with
  | .tup _=>none
  |x=>cond (rK f) (some x) none
 |some (l,f)=>cond (rK f) (some (.tup l)) none
 |none=>none
def dD (xs:List (aC U)):ASt U:=⟨fun t=>xs.getD t (.raw undef),fun _=>none⟩
def bJ (C:Cfg U) (fr:Bool) (fn:Func) (Post:aC U->Prop) (e:AEx) (s:ASt U):Prop:=
 match e with
 | .exit _=>False
 |_=>match result C fr fn s with
  |some r=>Post r
  |none=>False
theorem bIY (I:RR C.E n N w0 ρ s a w) {t:TypeId} {x y:aC U} {v:Value} (hx:Rel C.E w ρ (bF N ρ w) x v) (h:aMZ C s.objs t x=some y):Rel C.E w cW (fB N w) y v:=by
 unfold aMZ at h;split at h
 ·rename_i l;split at h
  ·rename_i ys own r;obtain rfl:=QW h;cases hx with
   |agg _ u G J=>
    obtain⟨O,L,_⟩:=bCR I (fun _ _ h=>h) _ l ys own u.toList (by simpa using G) (fun k f=>by rw[nF];exact J k f) r;exact .agg ys u (by rw[G,O]) (fun k f=>by have:=L k f;rw[nF] at this;exact this)
  ·cases h
 ·split at h
  ·rename_i S own hb;obtain rfl:=QW h;exact(bCF I (fun _ _ h=>h) 5 _ _ _ _ _ hx hb).1
  ·cases h
def fQ (ρ:Own) (ids:List (eA U×Option Nat)):Own:=fun nm=>
 match ids[nm.id]? with
 |some (x,some id)=>match nm with
  | .ob _=>(ρ (.ob id)).map fun p=>(0,p.2)
  | .mem _ i=>match x.1 with
   |true=>(ρ (.mem id i)).map fun p=>(0,p.2)
   |false=>none
 |some (_,none)=>match nm with
  | .ob _=>some (0,.slice none 0 0)
  | .mem _ _=>none
 |none=>none
def zJ (C:Cfg U) (s:ASt U) (p:eA U×Option Nat):Prop:=
 match p.2 with
 |some id=>match p.1 with
  |⟨false,t,xs⟩=>∃g,s.objs id=some (.row t g xs)
  |⟨true,t,xs⟩=>∃g f,s.objs id=some (.deep t g f xs)
 |none=>p.1.2.2=[]/\(p.1.1=true->U.size p.1.2.1=1)
theorem bBG (hR:RR C.E n N w0 ρ s a w) {ids:List (eA U×Option Nat)} {t:TypeId} {x y:aC U} {r:List (eA U×Option Nat)} {v:Value} {st':Nat->Prop} (V:∀b,bF N ρ w b->st' b) (h:aJ5 C s.objs t x=some (y,r)) (hx:Rel C.E w ρ (bF N ρ w) x v):
  r.map (·.1)=iF y/\(∀p∈r,zJ C s p)/\(∀l,y≠ .agg l)/\(∀l,y≠ .tup l)/\∀k,(∀j,j<r.length->ids[k+j]?=r[j]?)->Rel C.E w (fQ ρ ids) st' (gW (fun k=>k) k y) v:=by
 unfold aJ5 at h;split at h
 ·split at h
  ·rename_i id g _ t' g' xs O;obtain⟨hb,h⟩:=cM h;cases h;obtain rfl:=QZ hb;refine⟨rfl,fun p hp=>?_,(fun l e=>by cases e),(fun l e=>by cases e),fun k L=>?_⟩
   ·simp only[JB] at hp;subst hp;exact⟨g,O⟩
   ·have G:=L 0 XU;rw[JL] at G;obtain⟨u,cs',I,q2,_⟩:=hR.objs _ _ O;have hu:u=v:=by
     cases hx with
     |osl _ _ Z f hp'=>
      rw[I] at f;simpa using f
     |oslOld _ _ g' Z v f hg=>
      rw[I] at f;simp only[QQ,QK] at f;omega
    subst hu;refine .osl k 0 u ?_ q2;unfold fQ;rw[show (Name.ob k).id=k from rfl,G];simp[I]
  ·rename_i id g _ t' g' gm xs O;obtain⟨hb,h⟩:=cM h;cases h;obtain rfl:=QZ hb;refine⟨rfl,fun p hp=>?_,(fun l e=>by cases e),(fun l e=>by cases e),fun k L=>?_⟩
   ·simp only[JB] at hp;subst hp;exact⟨g,gm,O⟩
   ·have G:=L 0 XU;rw[JL] at G;obtain⟨u,cs',I,q2,_⟩:=hR.objs _ _ O;have hu:u=v:=by
     cases hx with
     |osl _ _ Z f hp'=>
      rw[I] at f;simpa using f
     |oslOld _ _ g' Z v f hg=>
      rw[I] at f;simp only[QQ,QK] at f;omega
    subst hu;refine .osl k 0 u ?_ q2;unfold fQ;rw[show (Name.ob k).id=k from rfl,G];simp[I]
  ·cases h
 ·split at h
  ·rename_i τ hτ;have S:∀d:Bool,(d=true->U.size τ=1)->y=(if d then .newd τ [] else .new τ [])->r=[(⟨d,τ,[]⟩,none)]->r.map (·.1)=iF y/\(∀p∈r,zJ C s p)/\(∀l,y≠ .agg l)/\(∀l,y≠ .tup l)/\∀k,(∀j,j<r.length->ids[k+j]?=r[j]?)->Rel C.E w (fQ ρ ids) st' (gW (fun k=>k) k y) v:=fun d J hy hi=>by
    subst hi;subst hy;refine⟨by cases d<;>rfl,fun p hp=>?_,(fun l e=>by cases d<;>cases e),(fun l e=>by cases d<;>cases e),fun k L=>?_⟩
    ·simp only[JB] at hp;subst hp;exact⟨rfl,J⟩
    ·have G:=L 0 XU;rw[JL] at G;cases hx;have e:gW (fun k=>k) k (if d=true then (.newd τ []:aC U) else .new τ [])=.osl k 0:=by cases d<;>rfl
     rw[e];refine .osl k 0 _ ?_ (fun a e=>by cases e);unfold fQ;rw[show (Name.ob k).id=k from rfl,G];rfl
   split at h
   ·rename_i J;cases h;exact S true (fun _=>QZ J) rfl rfl
   ·cases h;exact S false (fun e=>by cases e) rfl rfl
  ·cases h
 all_goals first
  | (cases h
     refine⟨rfl,(fun p hp=>by simp at hp),(fun l e=>by cases e),(fun l e=>by cases e),fun k L=>?_⟩
     first
      | (cases hx;first|exact .int _ _|exact .bool _|exact .str _)
      |exact(hx.flat (ρ':=cW) rfl).mono (fun b hb=>⟨V b hb,rfl⟩) (fun _ _ _ hr=>by cases hr))
  |cases h
theorem bQh (hR:RR C.E n N w0 ρ s a w) {ids:List (eA U×Option Nat)} {st':Nat->Prop} (u:∀b,bF N ρ w b->st' b):∀(I:List TypeId) (xs ys:List (aC U)) (r:List (eA U×Option Nat)) (f:List Value),aC9 C s.objs I xs=some (ys,r)->
  f.length=xs.length->(∀k (h:k<xs.length),Rel C.E w ρ (bF N ρ w) xs[k] (f.getD k undef))->
  r.map (·.1)=ys.flatMap iF/\(∀p∈r,zJ C s p)/\ys.length=xs.length/\∀k,(∀j,j<r.length->ids[k+j]?=r[j]?)->∀i (h:i<(jN (gW (fun k=>k)) k ys).length),Rel C.E w (fQ ρ ids) st' (jN (gW (fun k=>k)) k ys)[i] (f.getD i undef):=by
 intro I
 induction I with
 |nil=>
  intro xs ys r f h O L;cases xs with
  |nil=>cases h;exact⟨rfl,(fun p hp=>by simp at hp),rfl,fun k J i hi=>absurd hi (by simp[jN])⟩
  |cons x xs=>simp[aC9] at h
 |cons t I ih=>
  intro xs ys r f h O L;cases xs with
  |nil=>simp[aC9] at h
  |cons x xs=>
   cases f with
   |nil=>simp at O
   |cons v f=>
    simp only[aC9] at h;split at h
    ·rename_i y Z V qP h1 h2;cases h;have h0:=L 0 XU;simp only[KV,List.getD_cons_zero] at h0;obtain⟨a1,a2,_,_,a3⟩:=bBG (ids:=ids) (st':=st') hR u h1 h0;obtain⟨b1,b2,b3,b4⟩:=ih xs V qP f h2 (by simpa using O) (fun k J=>L (k+1) (by simp;omega));refine⟨by rw[List.map_append,List.flatMap_cons,a1,b1],fun p hp=>?_,by simp[b3],fun k J i hi=>?_⟩
     ·rcases KK.1 hp with hp|hp
      ·exact a2 p hp
      ·exact b2 p hp
     ·have G:(iF y).length=Z.length:=by rw[<- a1,KO]
      cases i with
      |zero=>
       refine a3 k (fun j hj=>?_);rw[J j (by simp;omega),KN hj]
      |succ i=>
       have S:i<(jN (gW fun k=>k) (k+(iF y).length) V).length:=by simpa[jN] using hi
       refine b4 (k+(iF y).length) (fun j hj=>?_) i S;rw[G,JP,J (Z.length+j) (by simp;omega),List.getElem?_append_right XY,Nat.add_sub_cancel_left]
    ·cases h
theorem bQg (J:RR C.E n N w0 ρ s a w) {ids:List (eA U×Option Nat)} {st':Nat->Prop} {t:TypeId} {x y:aC U} {r:List (eA U×Option Nat)} {v:Value} (f:∀b,bF N ρ w b->st' b) (h:aPR C s.objs t x=some (y,r)) (hx:Rel C.E w ρ (bF N ρ w) x v):
  r.map (·.1)=gX y/\(∀p∈r,zJ C s p)/\(∀l,y≠ .tup l)/\∀k,(∀j,j<r.length->ids[k+j]?=r[j]?)->Rel C.E w (fQ ρ ids) st' (mJ (gW (fun k=>k)) k y) v:=by
 unfold aPR at h;split at h
 ·rename_i l;split at h
  ·rename_i ys rL S;cases h;cases hx with
   |agg _ G I O=>
    obtain⟨b1,b2,b3,Z⟩:=bQh (ids:=ids) (st':=st') J f _ l ys r G.toList S (by simpa using I) (fun k u=>by rw[nF];exact O k u);refine⟨b1,b2,(fun l e=>by cases e),fun k u=>.agg _ G (by rw[aC0,b3,I]) (fun i hi=>?_)⟩;have:=Z k u i hi;rwa [nF] at this
  ·cases h
 ·obtain⟨a1,a2,L,a5,a3⟩:=bBG (ids:=ids) (st':=st') J f h hx;have e1:gX y=iF y:=by
   cases y<;>first|rfl|exact absurd rfl (L _)
  have V:∀k,mJ (gW fun k=>k) k y=gW (fun k=>k) k y:=fun k=>by
   cases y<;>first|rfl|exact absurd rfl (L _)
  refine⟨by rw[e1];exact a1,a2,a5,fun k u=>?_⟩;rw[V];exact a3 k u
theorem aRY (hR:RR C.E n N w0 ρ s a w) (hN:∀b,N b->b<w0.heap.size) {fr:Bool} {ids:List (eA U×Option Nat)} {st':Nat->Prop} (hst0:∀b,bF N ρ w b->st' b) (hst:∀b,fB N w b->(fr=false->st' b)):∀(rs:List ResultVar) (f:List TypeId) (ys:List (aC U)) (O:List (eA U×Option Nat)),p7 C fr s f rs=some (ys,O)->
  ∃L,(rs.mapM (fun
   | .tmp t=>pure (a.tmps.getD t undef)
   | .cell x t=>do loadVar t (<- asAddr (a.tmps.getD x undef))):Sem (List Value)).run C.P w=.ok L w/\L.length=ys.length/\O.map (·.1)=ys.flatMap gX/\(∀p∈O,zJ C s p)/\
    ∀k,(∀j,j<O.length->ids[k+j]?=O[j]?)->∀i (h:i<(jG (gW (fun k=>k)) k ys).length),Rel C.E w (fQ ρ ids) st' (jG (gW (fun k=>k)) k ys)[i] (L.getD i undef):=by
 intro rs
 induction rs with
 |nil=>
  intro f ys O h;cases f with
  |nil=>
   cases h;exact⟨[],rfl,rfl,rfl,(fun p hp=>by simp at hp),fun k hk i hi=>absurd hi (by simp[jG])⟩
  |cons t f=>cases h
 |cons r rs ih=>
  intro f ys O h;cases f with
  |nil=>cases h
  |cons t f=>
   simp only[p7] at h;split at h
   ·rename_i y V tT qP G h2;cases h;obtain⟨L,e1,e2,e3,e4,e6⟩:=ih f tT qP h2;have key:∃v,(match r with
      | .tmp t=>pure (a.tmps.getD t undef)
      | .cell x t=>do loadVar t (<- asAddr (a.tmps.getD x undef)):Sem Value).run C.P w=.ok v w/\V.map (·.1)=gX y/\(∀p∈V,zJ C s p)/\
       ∀k,(∀j,j<V.length->ids[k+j]?=V[j]?)->Rel C.E w (fQ ρ ids) st' (mJ (gW (fun k=>k)) k y) v:=by
     unfold aMY at G;split at G
     ·rename_i x hx;obtain⟨v,I,hv⟩:=aRW hR hx;cases fr with
      |true=>
       obtain⟨b1,b2,b3,b4⟩:=bQg (ids:=ids) (st':=st') hR hst0 G hv;exact⟨v,I,b1,b2,b4⟩
      |false=>
       simp only at G;split at G
       ·rename_i z hz;cases G;have Z:=bIY hR hv hz;refine⟨v,I,(bBf _ rfl 0 z).symm,(fun p hp=>by simp at hp),fun k hk=>?_⟩;rw[bBd];have J:∀{c:aC U} {u:Value},Rel C.E w cW (fB N w) c u->Rel C.E w (fQ ρ ids) st' (iP c) u:=fun {c u} hc=>by
         have:iP c=c:=by
          cases c<;>first|rfl| (cases hc;done)
         rw[this];exact hc.mono (fun b hb=>⟨hst b hb rfl,rfl⟩) (fun _ _ _ hr=>by cases hr)
        cases z with
        |agg l=>
         simp only[mJ];rw[aCk];cases Z with
         |agg _ L hn hl=>exact .agg _ L (by simpa using hn) (fun i hi=>by
           have S:i<l.length:=by simpa using hi
           rw[List.getElem_map];exact J (hl i S))
        |_=>exact J Z
       ·cases G
     ·cases G
    obtain⟨v,k1,k2,k3,k5⟩:=key;refine⟨v::L,?_,by simp[e2],by rw[List.map_append,List.flatMap_cons,k2,e3],fun p hp=>?_,fun k hk i hi=>?_⟩
    ·simp only[List.mapM_cons,QM];rw[k1];simp only[QP];rw[e1];rfl
    ·rcases KK.1 hp with hp|hp
     ·exact k3 p hp
     ·exact e4 p hp
    ·have hlen:(gX y).length=V.length:=by rw[<- k2,KO]
     cases i with
     |zero=>
      refine k5 k (fun j hj=>?_);rw[hk j (by simp;omega),KN hj]
     |succ i=>
      have S:i<(jG (gW fun k=>k) (k+(gX y).length) tT).length:=by simpa[jG] using hi
      refine e6 (k+(gX y).length) (fun j hj=>?_) i S;rw[hlen,JP,hk (V.length+j) (by simp;omega),List.getElem?_append_right XY,Nat.add_sub_cancel_left]
   ·cases h
theorem bIZ {C:Cfg U} {s:ASt U}:∀(rs:List ResultVar) (f:List TypeId) (ys:List (aC U)) (G:List (eA U×Option Nat)),p7 C false s f rs=some (ys,G)->G=[]:=by
 intro rs
 induction rs with
 |nil=>
  intro f ys G h;cases f with
  |nil=>cases h;rfl
  |cons t f=>cases h
 |cons r rs L=>
  intro f ys G h;cases f with
  |nil=>cases h
  |cons t f=>
   simp only[p7] at h;split at h
   ·rename_i y S I J u O;cases h;rw[L f I J O];unfold aMY at u;split at u
    ·simp only at u;split at u
     ·cases u;rfl
     ·cases u
    ·cases u
   ·cases h
theorem aRq:∀(l:List (eA U×Option Nat)),rK l=true->∀(a b:Nat) (x y:eA U) (i j:Nat),a<b->l[a]?=some (x,some i)->l[b]?=some (y,some j)->i≠j:=by
 intro l
 induction l with
 |nil=>intro _ a b x y i j _ h;simp at h
 |cons p l u=>
  intro h a b x y i j I f hb;obtain⟨r,o⟩:=p;cases b with
  |zero=>omega
  |succ b=>
   simp only[List.getElem?_cons_succ] at hb;cases a with
   |zero=>
    simp only[List.getElem?_cons_zero,QQ,QK] at f;obtain⟨rfl,rfl⟩:=f;simp only[rK,QU,JF] at h;intro e;subst e;have:=XQ.1 h.1 _ (List.mem_of_getElem? hb);simp at this
   |succ a=>
    simp only[List.getElem?_cons_succ] at f;have G:rK l=true:=by
     cases o with
     |some i=>simp only[rK,QU] at h;exact h.2
     |none=>exact h
    exact u G a b x y i j XY f hb
theorem bFS (hR:RR C.E n N w0 ρ s a w) {f:List (eA U×Option Nat)} (hon:rK f=true) (hp:∀p∈f,zJ C s p):
  (∀b,bF N ρ w b->bF N (fQ ρ f) w b)/\(∀(k:Nat) (x:eA U) o,f[k]?=some (x,o)->gE C.E w (fQ ρ f) (bF N (fQ ρ f) w) w0.heap.size k x.obj)/\
  (∀nm g u,fQ ρ f nm=some (g,u)->∃x o,f[nm.id]?=some (x,o)/\(x.1=false->∃k,nm=.ob k))/\∀nm nm' g g' u u' b,fQ ρ f nm=some (g,u)->fQ ρ f nm'=some (g',u')->nm≠nm'->blk u=some b->blk u'≠some b:=by
 have inv:∀nm g u,fQ ρ f nm=some (g,u)->(∃x o,f[nm.id]?=some (x,o)/\(x.1=false->∃k,nm=.ob k))/\((∃r id g0,f[nm.id]?=some (r,some id)/\ρ (nm.at id)=some (g0,u))\/u=.slice none 0 0):=by
  intro nm g u h;unfold fQ at h;split at h
  ·rename_i x id G;split at h
   ·rename_i q;simp only[Option.map_eq_some_iff] at h;obtain⟨p,uV,e⟩:=h;cases e;exact⟨⟨_,_,G,fun _=>⟨q,rfl⟩⟩,.inl ⟨_,id,p.1,G,uV⟩⟩
   ·rename_i q i;split at h
    ·rename_i hd;simp only[Option.map_eq_some_iff] at h;obtain⟨p,uV,e⟩:=h;cases e;exact⟨⟨_,_,G,fun e=>by rw[hd] at e;cases e⟩,.inl ⟨_,id,p.1,G,uV⟩⟩
    ·cases h
  ·rename_i x G;split at h
   ·rename_i q;cases h;exact⟨⟨_,_,G,fun _=>⟨q,rfl⟩⟩,.inr rfl⟩
   ·cases h
  ·cases h
 have hst:∀b,bF N ρ w b->bF N (fQ ρ f) w b:=fun b ⟨q1,Z,V⟩=>⟨q1,Z,fun k g u hr hbl=>by
  rcases(inv k g u hr).2 with ⟨r,id,g0,_,hu⟩|rfl
  ·exact V _ _ _ hu hbl
  ·cases hbl⟩
 have obN:∀{k:Nat} {x:eA U} {id:Nat},f[k]?=some (x,some id)->fQ ρ f (.ob k)=(ρ (.ob id)).map fun p=>(0,p.2):=fun {k x id} G=>by
  unfold fQ;rw[show (Name.ob k).id=k from rfl,G]
 refine⟨hst,fun k x o G=>?_,fun nm g u h=>(inv nm g u h).1,fun i j g g' u u' b hi hj hij hbi hbj=>?_⟩
 ·have O:=hp _ (List.mem_of_getElem? G);have flat:∀{t:U.τ} {z:U.T t} {c:aC U} {v:Value},c∈C.E.enc t z->Rel C.E w ρ (bF N ρ w) c v->Rel C.E w (fQ ρ f) (bF N (fQ ρ f) w) c v:=fun {t z c v} hc hv=>
   (hv.flat (ρ':=cW) (C.E.enc_flat t z c hc).1).mono (fun b hb=>⟨hst b hb,rfl⟩) (fun _ _ _ hr=>by cases hr)
  obtain⟨d,t,xs⟩:=x;cases o with
  |some id=>
   cases d with
   |false=>
    obtain⟨g,S⟩:∃g,s.objs id=some (.row t g xs):=O;obtain⟨u,cs,q1,Z,V,q4⟩:=hR.objs _ _ S;exact⟨u,cs,by rw[obN G,q1];rfl,Z,V,fun i hi k' I=>flat (QN I) (q4 i hi k' I)⟩
   |true=>
    obtain⟨g,gm,S⟩:∃g gm,s.objs id=some (.deep t g gm xs):=O;obtain⟨u,cs,q1,Z,V,q4,q5,q6⟩:=hR.objs _ _ S;have J:∀i,fQ ρ f (.mem k i)=(ρ (.mem id i)).map fun p=>(0,p.2):=fun i=>by
     unfold fQ;rw[show (Name.mem k i).id=k from rfl,G]
    refine⟨u,cs,by rw[obN G,q1];rfl,Z,V,q4,fun i hi=>by rw[J,q5 i hi];rfl,fun i hi=>?_⟩;obtain⟨t1,ys,v,ds,r1,r2,r3,r4,r5,r6⟩:=q6 i hi;exact⟨t1,ys,v,ds,r1,by rw[J,r2];rfl,r3,r4,r5,fun i hi k' I=>flat (QN I) (r6 i hi k' I)⟩
  |none=>
   obtain⟨hxs,hsz⟩:xs=[]/\(d=true->U.size t=1):=O;subst hxs;have obE:fQ ρ f (.ob k)=some (0,.slice none 0 0):=by
    unfold fQ;rw[show (Name.ob k).id=k from rfl,G]
   cases d with
   |false=>exact⟨.slice none 0 0,[],obE,(fun a e=>by cases e),JE _ _ _ _,fun i hi=>absurd hi XU⟩
   |true=>
    refine⟨.slice none 0 0,[],obE,(fun a e=>by cases e),JE _ _ _ _,hsz rfl,fun i _=>?_,fun i hi=>absurd hi XU⟩;unfold fQ;rw[show (Name.mem k i).id=k from rfl,G]
 ·rcases(inv i g u hi).2 with ⟨r,id,g0,h1,h2⟩|rfl
  ·rcases(inv j g' u' hj).2 with ⟨r',id',g0',h1',h2'⟩|rfl
   ·refine hR.sep _ _ _ _ _ _ b h2 h2' (fun e=>?_) hbi hbj;have hid:id=id':=by
     have:=congrArg Name.id e;rwa [Name.qF,Name.qF] at this
    subst hid
    by_cases L:i.id=j.id
    ·exact hij (Name.aL5 L e)
    ·rcases Nat.lt_or_gt_of_ne L with hlt|hgt
     ·exact aRq f hon _ _ _ _ _ _ hlt h1 h1' rfl
     ·exact aRq f hon _ _ _ _ _ _ hgt h1' h1 rfl
   ·cases hbj
  ·cases hbi
theorem aMX (hR:RR C.E n N w0 ρ s a w) (hN:∀b,N b->b<w0.heap.size) {fr:Bool} {fn:Func} {y:aC U} (h:result C fr fn s=some y):∃v,(results fn a.tmps).run C.P w=.ok v w/\mY C.E w0.heap.size N w y v:=by
 have O:∀l f,p7 C fr s fn.resultTypes.toList fn.results.toList=some (l,f)->rK f=true->∃I:List Value,(fn.results.mapM (fun
   | .tmp t=>pure (a.tmps.getD t undef)
   | .cell x t=>do loadVar t (<- asAddr (a.tmps.getD x undef))):Sem (Array Value)).run C.P w=.ok I.toArray w/\I.length=l.length/\f.map (·.1)=l.flatMap gX/\
   (∀(k:Nat) (x:eA U),(l.flatMap gX)[k]?=some x->gE C.E w (fQ ρ f) (bF N (fQ ρ f) w) w0.heap.size k x.obj)/\
   (∀nm g u,fQ ρ f nm=some (g,u)->∃x,(l.flatMap gX)[nm.id]?=some x/\(x.1=false->∃k,nm=.ob k))/\(∀nm nm' g g' u u' b,fQ ρ f nm=some (g,u)->fQ ρ f nm'=some (g',u')->nm≠nm'->blk u=some b->blk u'≠some b)/\
   ∀i (h:i<(jG (gW (fun k=>k)) 0 l).length),Rel C.E w (fQ ρ f) (bF N (fQ ρ f) w) (jG (gW (fun k=>k)) 0 l)[i] (I.getD i undef):=fun l f Z G=>by
  have S:∀p∈f,zJ C s p:=by
   obtain⟨_,_,_,_,S,_⟩:=aRY (ids:=f) (st':=fun _=>True) hR hN (fr:=fr) (fun _ _=>trivial) (fun _ _ _=>trivial) _ _ l f Z;exact S
  obtain⟨t1,t2,t3,t4⟩:=bFS hR G S;obtain⟨I,V,L,h3,_,h5⟩:=aRY (ids:=f) (st':=bF N (fQ ρ f) w) hR hN (fr:=fr) t1 (fun b hb hf=>by
   subst hf;have:=bIZ _ _ _ _ Z;subst this;exact⟨hb.1,hb.2,fun k g u hr=>by cases hr⟩) _ _ l f Z
  refine⟨I,?_,L,h3,fun k x J=>?_,fun nm g u J=>?_,t4,h5 0 (fun j hj=>by rw[JW])⟩
  ·rw[Array.mapM_eq_mapM_toList];simp only[Sem.run_map];rw[V];rfl
  ·rw[<- h3,KM] at J;obtain⟨p,uV,hp2⟩:=Option.map_eq_some_iff.1 J;obtain⟨r,o⟩:=p;simp only at hp2;subst hp2;exact t2 k _ o uV
  ·obtain⟨x,o,q1,q2⟩:=t3 nm g u J;exact⟨x,by rw[<- h3,KM,q1];rfl,q2⟩
 unfold result at h;split at h
 ·rename_i x f hx;have hnt:∀l,x≠ .tup l:=fun l e=>by
   subst e;cases h
  have G:rK f=true/\x=y:=by
   split at h
   ·cases h
   ·obtain⟨V,L⟩:=cM h;cases L;exact⟨V,rfl⟩
  obtain⟨G,rfl⟩:=G;obtain⟨I,V,L,h3,S,h5,h6,h7⟩:=O _ _ hx G;have en:x.news=gX x:=by
   cases x<;>first|rfl|exact absurd rfl (hnt _)
  have eo:x.uK (fun k=>k)=mJ (gW (fun k=>k)) 0 x:=by
   cases x<;>first|rfl|exact absurd rfl (hnt _)
  have e1:[x].flatMap gX=gX x:=XU
  match I,L with
  |[v],_=>
   refine⟨v,?_,fQ ρ f,?_,?_,?_,h6⟩
   ·simp only[results,QM];exact QY (congrArg (fun r:Result (Array Value)=>r.andThen _) V) rfl
   ·rw[eo];exact h7 0 (by simp[jG])
   ·intro k x J;exact S k x (by rw[e1,<- en];exact J)
   ·intro nm g u J;obtain⟨x,q1,q2⟩:=h5 nm g u J;exact⟨x,by rw[en,<- e1];exact q1,q2⟩
 ·rename_i l f hne Z;obtain⟨G,h⟩:=cM h;cases h;obtain⟨I,V,L,h3,S,h5,h6,h7⟩:=O _ _ Z G;refine⟨.tuple I.toArray,?_,fQ ρ f,.tup _ I.toArray (by rw[aCZ];simpa using L) (fun k J=>by simpa using h7 k J),S,h5,h6⟩;have hn:¬I.toArray.size=1:=fun e=>by
   have hl1:l.length=1:=by rw[<- L];simpa using e
   match l,hl1 with
   |[x],_=>exact hne x rfl
  simp only[results,QM];refine QY (congrArg (fun r:Result (Array Value)=>r.andThen _) V) ?_;simp only[QP,dif_neg hn];rfl
 ·cases h
theorem bCC (hs:aW C) (hinv:C.inv w) (Z:C.P.follows .mixedOrders=true) {f:FuncId} {fn:Func} {c:Code} (hf:C.P.funcs[f]?=some fn) (hb:fn.body=some c) {args:Array Value} {xs:List (aC U)} (hN:∀b,N b->b<w.heap.size)
  (I:aAr C.E w N xs args) (hlen:xs.length<=fn.ntmps) (S:fn.ntmps<=1000000) {fr:Bool} {Post:aC U->Prop} (h:exec C fn.ntmps M fuel 0 c (dD xs) (bJ C fr fn Post)):
  Calls C.P f args w fun e w'=>∃v,e=.returned v/\(∃r,Post r/\mY C.E w.heap.size N w' r v)/\Below w.heap.size w w':=by
 refine calls_of_wp hf hb ?_;have hsz:args.size=xs.length:=I.1;have hR:RR C.E fn.ntmps N (Fr.pure w) cW (dD xs) {tmps:=args++Array.replicate (fn.ntmps-args.size) undef,defers:=[]} w:=by
  refine⟨rfl,by simp;omega,fun t=>?_,(fun id ob ho=>by cases ho),(fun id g u G=>by cases G),(fun _ _ _ _ _ _ _ G=>by cases G),Below.refl _ _,fun b hb=>.inl (hN b hb),⟨JX _,fun b hb=>hb.elim⟩,(fun _ _ _ _ G=>by cases G),(fun _ _ h=>by cases h),S⟩;exact aJQ (fun _=>rfl) hlen S hsz (fun k hk=>(I.2 k hk).mono (fun b hb=>⟨⟨hb.1,hb.2,fun _ _ _ G=>by cases G⟩,rfl⟩) (fun _ _ _ G=>by cases G)) t
 refine aCf (hs.at hinv) Z (fun _ _ _ _ _ h=>by cases h) c 0 _ _ cW _ w _ h hR (fun e s' ρ' a' w' J L=>?_);have V:(match result C fr fn s' with
  |some r=>Post r
  |none=>False)->a'.defers=[]/\∃v,(results fn a'.tmps).run C.P w'=.ok v w'/\∃O,Ending.returned v=.returned O/\(∃r,Post r/\mY C.E w.heap.size N w' r O)/\Below w.heap.size w w':=fun J=>by
  split at J
  ·rename_i r G;obtain⟨v,h1,h2⟩:=aMX L hN G;exact⟨L.defers,v,h1,v,rfl,⟨r,J,h2⟩,L.below⟩
  ·exact J.elim
 cases e with
 |normal=>exact V J
 |exit id=>exact J.elim
 |ret=>exact V J
theorem RR.bBS {E:Enc U} (h:RR E n N w0 ρ s a w) {N':Nat->Prop} (u:∀b,N' b->N b):RR E n N' w0 ρ s a w:=by
 have f:∀b,bF N ρ w b->bF N' ρ w b/\w.heap[b]?=w.heap[b]?:=fun b hb=>⟨⟨hb.1,fun h=>hb.2.1 (u b h),hb.2.2⟩,rfl⟩
 refine⟨h.defers,h.size,fun t=>(h.tmps t).mono f (fun _ _ _ r=>.inl r),fun id ob ho=>?_,h.dom,h.sep,h.below,fun b hb=>h.nlt b (u b hb),h.kept,h.free,h.pin,h.nle⟩;exact(h.objs id ob ho).mono f (fun _ _ _ r=>.inl r) (fun _ _=>rfl) (fun _ _ _ _ _ _ _=>rfl)
def bW4 (C:Cfg U) (fn:Func) (f:Nat) (Post:aC U->bK U->Prop) (e:AEx) (s:ASt U):Prop:=
 match e with
 | .exit _=>False
 |_=>match result C false fn s,s.objs f with
  |some r,some ob=>Post r ob
  |_,_=>False
def aAP (xs:List (aC U)) (f:Nat) (ob:bK U):ASt U:=⟨fun t=>xs.getD t (.raw undef),fun i=>cond (Nat.beq i f) (some ob) none⟩
theorem bJj (f:Nat->Nat) (k:Nat) {c:aC U} (h:c.pure=true):gW f k c=c:=by
 cases c<;>first|rfl|cases h
theorem bJh (f:Nat->Nat):∀(l:List (aC U)) (k:Nat),l.all aC.pure=true->jN (gW f) k l=l:=by
 intro l
 induction l with
 |nil=>intro k _;rfl
 |cons c l r=>
  intro k h;simp only[List.all_cons,QU] at h;simp only[jN];rw[bJj f k h.1,r _ h.2]
theorem aRb (f:Nat->Nat) (k:Nat) {c:aC U} (h:yA c=true):mJ (gW f) k c=c:=by
 cases c with
 |agg l=>simp only[mJ];rw[bJh f l k h]
 |_=>first|rfl| (simp[yA,aC.pure] at h)
theorem bJi (f:Nat->Nat):∀(l:List (aC U)) (k:Nat),l.all yA=true->jG (gW f) k l=l:=by
 intro l
 induction l with
 |nil=>intro k _;rfl
 |cons c l r=>
  intro k h;simp only[List.all_cons,QU] at h;simp only[jG];rw[aRb f k h.1,r _ h.2]
theorem bJg (f:Nat->Nat) {r:aC U} (h:r.nS=true):r.uK f=r:=by
 cases r with
 |tup l=>
  show aC.tup (jG (gW f) 0 l)=_;rw[bJi f l 0 h]
 |agg l=>exact aRb (c:=.agg l) f 0 h
 |_=>first|rfl| (simp[aC.nS,yA,aC.pure] at h)
theorem bW7 (hs:aW C) (hmix:C.P.follows .mixedOrders=true) {f:FuncId} {fn:Func} {c:Code} (hf:C.P.funcs[f]?=some fn) (hn:(fn.name== "runtime.NumGoroutine")=false) (hb:fn.body=some c)
  (hcall:∀(args:Array Value) (w:World),(callFunc f args).run C.P w=.ok (.enter f args) w)
  {m:List (aC U)->bK U->Option (List Prop×aC U×bK U)}
  (hx:∀xs ob cs r O G,m xs ob=some (cs,r,O)->eQ cs->ownArg 0 xs=some (G,G)->(Nat.ble xs.length fn.ntmps&&Nat.ble fn.ntmps 1000000)=true/\(∃off,xs[G]?=some (.ptr G off))/\ob.simple=true/\
   ∃M fuel,(∀off cur r,G∈(M off cur r).cells)/\exec C fn.ntmps M fuel 0 c (aAP xs G ob) (bW4 C fn G fun r' pU=>r'=r/\pU=O)):
  ∀w0:World,C.inv w0->vI C f m w0:=by
 intro w0 hinv;refine⟨hcall,fun st ρ w args G xs ob O cs r hbw hst hdom hsep hob hsz hrel nE hm hc kH S hown=>?_⟩;obtain⟨hlen,⟨off,hptr⟩,hsi,M,fuel,hM,hex⟩:=hx xs ob cs r O G hm hc hown;refine calls_of_wp hf hb ?_;rw[QU] at hlen;have hle:=QO hlen.2;have hlen':=QO hlen.1
 -- the object's address
 have mS:G<xs.length:=(QA.1 hptr).1;have hp0:∃b,ρ (.ob G)=some (0,.pointer (some ⟨b,0,none⟩)):=by
  have h1:=hrel G mS;have e:xs[G]=.ptr G off:=(QA.1 hptr).2;rw[e] at h1;generalize args.getD G undef=v at h1;cases h1 with
  |ptr _ _ b hp=>exact⟨b,hp⟩
 obtain⟨b0,hp0⟩:=hp0
 let fr:Fr:=⟨w0,w,fun b=>w0.heap.size<=b/\b<w.heap.size/\∀nm g u,ρ nm=some (g,u)->blk u≠some b,fun b h=>h.2.1,hbw.size,
  fun i=>if i=G then some (0,.pointer (some ⟨b0,0,none⟩)) else none,(fun id u h=>by
   split at h
   ·cases h;exact⟨_,rfl⟩
   ·cases h),fun _=>undef,[]⟩
 let N:Nat->Prop:=fun b=>b<w.heap.size/\¬st b/\∀nm g u,ρ nm=some (g,u)->blk u≠some b
 have hstN:∀b,st b->bF N ρ w b:=fun b h=>⟨(hst b h).1,fun hn=>hn.2.1 h,(hst b h).2⟩
 have hR:RR C.E fn.ntmps N fr ρ (aAP xs G ob) {tmps:=args++Array.replicate (fn.ntmps-args.size) undef,defers:=[]} w:=by
  refine⟨rfl,by simp;omega,fun t=>?_,fun id o ho=>?_,fun nm g u I=>?_,hsep,hbw,fun b hb=>?_,⟨JX _,fun b hb=>rfl⟩,fun nm g u b I Z hk=>hk.2.2 _ _ _ I Z,fun id u hp=>?_,hle⟩
  ·exact aJQ (fun _=>rfl) hlen' hle hsz (fun k hk=>(hrel k hk).mono (fun b hb=>⟨hstN b hb,rfl⟩) (fun _ _ _ I=>.inl I)) t
  ·have ho':(if id=G then some ob else none)=some o:=by rw[<- ho];exact(lZ id G _ _).symm
   split at ho'
   ·rename_i e;subst e;cases ho';exact hob.closed nE rfl (fun _=>rfl) hstN
   ·cases ho'
  ·obtain⟨q1,q2⟩:=hdom nm g u I;refine⟨ob,?_,fun hsi=>⟨G,q2 hsi⟩⟩;show cond (Nat.beq nm.id G) _ _=_;rw[q1,JS];rfl
  ·by_cases V:b<w0.heap.size
   ·exact .inl V
   ·exact .inr ⟨XY,hb.1,hb.2.2⟩
  ·have hp':(if id=G then some (0,Value.pointer (some ⟨b0,0,none⟩)) else none)=some u:=hp;split at hp'
   ·rename_i e;subst e;cases hp';exact⟨⟨ob,by show cond (Nat.beq id id) _ _=_;rw[JS];rfl⟩,hp0⟩
   ·cases hp'
 refine aCf (w0:=fr) (hs.at hinv) hmix (fun off cur r id u hp=>by
  have hp':(if id=G then some (0,Value.pointer (some ⟨b0,0,none⟩)) else none)=some u:=hp;split at hp'
  ·rename_i e;rw[e];exact hM off cur r
  ·cases hp') c 0 _ _ ρ _ w _ hex hR (fun e s' ρ2 a' w' hK J=>?_)
 have fin:(match result C false fn s',s'.objs G with
  |some r',some pU=>r'=r/\pU=O
  |_,_=>False)->a'.defers=[]/\∃v,(results fn a'.tmps).run C.P w'=.ok v w'/\∃v1 ρ',Ending.returned v=.returned v1/\((r.nS=true->Rel C.E w' cW (fun _=>False) r v1)/\(uJ G r O=true->Rel C.E w' ρ' (fun _=>False) r v1))/\
   gE C.E w' ρ' (fun b=>(st b\/w.heap.size<=b\/∃nm g u,ρ nm=some (g,u)/\blk u=some b)/\b<w'.heap.size/\∀nm g u,ρ' nm=some (g,u)->blk u≠some b) w0.heap.size G O/\
   (∀nm g u,ρ' nm=some (g,u)->nm.id=G/\(O.simple=true->nm=.ob G))/\Chg (fun _=>False) (fun i=>i=G) w0.heap.size ρ ρ' w w':=fun hK=>by
  split at hK
  ·rename_i r' pU I hob1;obtain⟨rfl,rfl⟩:=hK;have hR0:=J.bBS (N':=fun _=>False) (fun b h=>h.elim);obtain⟨v,h1,ρx,h2,_⟩:=aMX hR0 (fun b hb=>hb.elim) I;have S:r'.nS=true:=by
    cases hpp:r'.nS with
    |true=>rfl
    |false=>
     rw[hpp,XX] at S;unfold uJ at S;split at S
     ·obtain⟨u2,cs2,p1,p2,_⟩:=J.objs G _ hob1;have hpin:ρ2 (.ob G)=some (0,.pointer (some ⟨b0,0,none⟩)):=(J.pin G _ (JV rfl)).2;rw[hpin] at p1;cases p1;exact absurd rfl (p2 _)
     ·cases S
   rw[bJg _ S] at h2;have hat:∀nm:Name,nm.id=G->nm.at G=nm:=fun nm L=>by rw[<- L];exact Name.bCN nm
   have on:∀nm:Name,nm.id=G->only ρ2 G G nm=ρ2 nm:=fun nm L=>by unfold only;rw[JV L,hat nm L]
   have onS:∀{nm:Name} {g:Nat} {u:Value},only ρ2 G G nm=some (g,u)->nm.id=G/\ρ2 nm=some (g,u):=fun {nm g u} I=>by
    obtain⟨q1,q2⟩:=uL I;rw[hat nm q1] at q2;exact⟨q1,q2⟩
   have hpin:ρ2 (.ob G)=some (0,.pointer (some ⟨b0,0,none⟩)):=(J.pin G _ (JV rfl)).2;refine⟨J.defers,v,h1,v,only ρ2 G G,rfl,⟨fun _=>aMb S h2,fun _=>aMb S h2⟩,(J.objs G _ hob1).closed kH (aEF _ _ _) (aRp _ _ _) (fun b hb=>⟨?_,hb.1,fun nm g u I=>hb.2.2 _ _ _ (onS I).2⟩),fun nm g u I=>?_,?_⟩
   ·by_cases V:b<w.heap.size
    ·by_cases hsb:st b
     ·exact .inl hsb
     ·refine .inr (.inr ?_);refine Classical.byContradiction fun hno=>hb.2.1 ⟨V,hsb,fun nm g u I Z=>hno ⟨nm,g,u,I,Z⟩⟩
    ·exact .inr (.inl XY)
   ·obtain⟨q1,q2⟩:=onS I;refine⟨q1,fun hsi=>?_⟩;obtain⟨o,q3,q4⟩:=J.dom _ _ _ q2;rw[q1,hob1] at q3;cases q3;obtain⟨i,rfl⟩:=q4 hsi;rw[show i=G from q1]
   ·have hbw':Below w0.heap.size w0 w':=J.below;have hsz':w.heap.size<=w'.heap.size:=J.kept.1;refine⟨fun nm L=>?_,fun nm g u L I=>?_,⟨hbw'.1.trans hbw.1.symm,hbw'.2.trans hbw.2.symm,hbw'.3.trans hbw.3.symm,hsz',fun b hb=>(hbw'.block b hb).trans (hbw.block b hb).symm⟩,fun b hb hne=>?_,fun nm g u b L I Z=>?_,fun nm nm' g g' u u' b L hnm' I hr' hne Z=>?_⟩
    ·cases I:ρ nm with
     |none=>exact JK L
     |some p=>exact absurd (hdom nm p.1 p.2 I).1 L
    ·obtain rfl:=(hdom nm g u I).2 hsi;refine .inl ?_;rw[on _ rfl,hpin,<- I,hp0]
    ·by_cases V:b<w0.heap.size
     ·exact(hbw'.block b V).trans (hbw.block b V).symm
     ·exact J.kept.2 b ⟨XY,hb,fun nm g u I=>hne nm g u (hdom nm g u I).1 I⟩
    ·obtain⟨_,mR⟩:=onS I
     by_cases V:b<w.heap.size
     ·refine .inl (Classical.byContradiction fun hno=>J.free _ _ _ _ mR Z ⟨((J.own mR).2 b Z).1,V,fun nm' g' u' hr' hbl'=>hno ⟨nm',g',u',(hdom nm' g' u' hr').1,hr',hbl'⟩⟩)
     ·exact .inr XY
    ·exact J.sep _ _ _ _ _ _ b (onS I).2 (onS hr').2 hne Z
  ·exact hK.elim
 cases e with
 |normal=>exact fin hK
 |exit id=>exact hK.elim
 |ret=>exact fin hK
def aCz (C:Cfg U) (fn:Func) (Post:(t:U.τ)->List (U.T t)->Prop) (e:AEx) (s:ASt U):Prop:=
 match e with
 | .exit _=>False
 |_=>match o9 C s fn with
  |some (.osl id g)=>match s.objs id with
   |some (.row t f xs)=>cond (Nat.beq g f) (Post t xs) False
   |_=>False
  |_=>False
theorem bSR (hs:aW C) (hmix:C.P.follows .mixedOrders=true) {f:FuncId} {fn:Func} {c:Code} (hf:C.P.funcs[f]?=some fn) (hb:fn.body=some c)
  (hcall:∀(args:Array Value) (w:World),(callFunc f args).run C.P w=.ok (.enter f args) w)
  {m:List (aC U)->bK U->Option (List Prop×aC U×bK U)}
  (hx:∀xs ob cs r ob' I,m xs ob=some (cs,r,ob')->eQ cs->ownArg 0 xs=some (I,I)->∃t g tU ys lG,ob=.row t g tU/\r=.osl I (g+1)/\ob'=.row t (g+1) ys/\xs=lG.set I (.osl I g)/\lG[I]?=some (.osl I 0)/\
   (∀i x,i≠I->lG[i]?=some x->x.yP=true)/\(Nat.ble lG.length fn.ntmps&&Nat.ble fn.ntmps 1000000)=true/\
   ∃M fuel,exec C fn.ntmps M fuel 0 c (aAP lG I (.row t 0 tU)) (aCz C fn fun t' ys'=>(⟨t',ys'⟩:(t:U.τ)×List (U.T t))=⟨t,ys⟩)):
  ∀w0:World,C.inv w0->vI C f m w0:=by
 intro w0 hinv;refine⟨hcall,fun st ρ w args I xs ob ob' cs r Z hst hdom hsep hob hsz hrel nE hm hc kH hpr hown=>?_⟩;obtain⟨t,g,tU,ys,lG,rfl,rfl,rfl,rfl,hxk,hxf,hlen,M,fuel,hex⟩:=hx xs ob cs r ob' I hm hc hown;refine calls_of_wp hf hb ?_;rw[QU] at hlen;have hle:=QO hlen.2;have hlen':=QO hlen.1;rw[JM] at hsz;have mS:I<lG.length:=(QA.1 hxk).1;have hobc:=hob;obtain⟨u0,nH,q1,q2,q3,q4⟩:=hob;have hρ:∀nm J u',ρ nm=some (J,u')->nm=.ob I/\u'=u0:=fun nm J u' G=>by
  obtain rfl:=(hdom nm J u' G).2 rfl;rw[q1] at G;cases G;exact⟨rfl,rfl⟩
 let ρ0:Own:=fun nm=>if nm=.ob I then some (0,u0) else none
 have on0:ρ0 (.ob I)=some (0,u0):=JV rfl;have h0S:∀{nm:Name} {J:Nat} {u:Value},ρ0 nm=some (J,u)->nm=.ob I/\J=0/\u=u0:=fun {nm J u} G=>by
  by_cases e:nm=.ob I
  ·subst e;rw[on0] at G;cases G;exact⟨rfl,rfl,rfl⟩
  ·have:ρ0 nm=none:=JK e;rw[this] at G;cases G
 let fr:Fr:=⟨w0,w,fun b=>w0.heap.size<=b/\b<w.heap.size/\blk u0≠some b,fun b h=>h.2.1,Z.size,
  fun _=>none,(fun id u h=>by cases h),fun _=>undef,[]⟩
 let N:Nat->Prop:=fun b=>b<w.heap.size/\¬st b/\blk u0≠some b
 have hstN:∀b,st b->bF N ρ0 w b:=fun b h=>⟨(hst b h).1,fun hn=>hn.2.1 h,fun nm J u G=>by
  obtain⟨rfl,rfl,rfl⟩:=h0S G;exact(hst b h).2 _ _ _ q1⟩
 have fl0:∀{x:aC U} {z:Value},x.flat=true->Rel C.E w ρ st x z->Rel C.E w ρ0 (bF N ρ0 w) x z:=fun hx hz=>
  (hz.flat (ρ':=cW) hx).mono (fun b hb=>⟨hstN b hb,rfl⟩) (fun _ _ _ G=>by cases G)
 have fl2:∀{x:aC U} {z:Value},x.yP=true->Rel C.E w ρ st x z->Rel C.E w ρ0 (bF N ρ0 w) x z:=fun hx hz=>
  (bBK (ρ':=cW) hx hz).mono (fun b hb=>⟨hstN b hb,rfl⟩) (fun _ _ _ G=>by cases G)
 have hR:RR C.E fn.ntmps N fr ρ0 (aAP lG I (.row t 0 tU)) {tmps:=args++Array.replicate (fn.ntmps-args.size) undef,defers:=[]} w:=by
  refine⟨rfl,by simp;omega,fun t=>?_,fun id o ho=>?_,fun nm g u G=>?_,fun nm nm' J g'' u u' b G hr' hne O=>?_,Z,fun b hb=>?_,⟨JX _,fun b hb=>rfl⟩,fun nm g u b G O hk=>?_,fun id u hp=>(by cases hp),hle⟩
  ·refine aJQ (fun _=>rfl) hlen' hle hsz (fun k hk=>?_) t;have G:=hrel k (by rw[JM];exact hk)
   by_cases e:k=I
   ·subst e;have e0:lG[k]=.osl k 0:=(QA.1 hxk).2;have e1:(lG.set k (aC.osl k g:aC U))[k]'(by rw[JM];exact hk)=.osl k g:=List.getElem_set_self _;rw[e1] at G;rw[e0];generalize args.getD k undef=v at G;have hv:v=u0:=by
     cases G with
     |osl _ _ _ hp _=>
      rw[q1] at hp;cases hp;rfl
     |oslOld _ _ _ J u' hp L=>
      rw[q1] at hp;cases hp;omega
    subst hv;exact .osl _ _ _ on0 q2
   ·rw[List.getElem_set_ne XY] at G;exact fl2 (hxf k _ e (QL hk)) G
  ·have ho':(if id=I then some (bK.row t 0 tU) else none)=some o:=by rw[<- ho];exact(lZ id I _ _).symm
   split at ho'
   ·rename_i e;subst e;cases ho';exact⟨u0,nH,on0,q2,q3,fun i h k hk=>fl0 (C.E.enc_flat t _ _ (QN hk)).1 (q4 i h k hk)⟩
   ·cases ho'
  ·obtain⟨rfl,rfl,rfl⟩:=h0S G;refine⟨.row t 0 tU,?_,fun _=>⟨I,rfl⟩⟩;show cond (Nat.beq I I) _ _=_;rw[JS];rfl
  ·obtain⟨rfl,_,_⟩:=h0S G;obtain⟨rfl,_,_⟩:=h0S hr';exact absurd rfl hne
  ·by_cases L:b<w0.heap.size
   ·exact .inl L
   ·exact .inr ⟨XY,hb.1,hb.2.2⟩
  ·obtain⟨rfl,rfl,rfl⟩:=h0S G;exact hk.2.2 O
 refine aCf (w0:=fr) (hs.at hinv) hmix (fun off cur r id u hp=>by cases hp) c 0 _ _ ρ0 _ w _ hex hR (fun e s' ρ2 a' w' hK S=>?_);have fin:(match o9 C s' fn with
  |some (.osl id g1)=>match s'.objs id with
   |some (.row t1 g2 xs)=>cond (Nat.beq g1 g2) ((⟨t1,xs⟩:(t:U.τ)×List (U.T t))=⟨t,ys⟩) False
   |_=>False
  |_=>False)->a'.defers=[]/\∃v,(results fn a'.tmps).run C.P w'=.ok v w'/\∃v1 ρ',Ending.returned v=.returned v1/\(((aC.osl I (g+1):aC U).nS=true->Rel C.E w' cW (fun _=>False) (.osl I (g+1)) v1)/\(uJ I (.osl I (g+1)) (.row t (g+1) ys)=true->Rel C.E w' ρ' (fun _=>False) (.osl I (g+1)) v1))/\
   gE C.E w' ρ' (fun b=>(st b\/w.heap.size<=b\/∃nm g u,ρ nm=some (g,u)/\blk u=some b)/\b<w'.heap.size/\∀nm g u,ρ' nm=some (g,u)->blk u≠some b) w0.heap.size I (.row t (g+1) ys)/\
   (∀nm J u,ρ' nm=some (J,u)->nm.id=I/\((bK.row t (g+1) ys).simple=true->nm=.ob I))/\Chg (fun _=>False) (fun i=>i=I) w0.heap.size ρ ρ' w w':=fun hK=>by
  split at hK
  ·rename_i id g1 G;split at hK
   ·rename_i t1 g2 xs1 hob1;have hgg:g1=g2:=by
     cases hb:Nat.beq g1 g2 with
     |true=>exact QZ hb
     |false=>rw[hb] at hK;exact hK.elim
    subst hgg;rw[JS,QX] at hK;cases hK;obtain⟨v,h1,h2⟩:=aRX S G;obtain⟨u,cs1,p1,p2,p3,p4⟩:=S.objs id _ hob1;have hv:ρ2 (.ob id)=some (g1,v):=by
     cases h2 with
     |osl _ _ _ hp _=>exact hp
     |oslOld _ _ _ J u' hp L=>
      rw[p1] at hp;cases hp;omega
    rw[hv] at p1;cases p1
    let ρ':Own:=fun nm=>if nm=.ob I then some (g+1,v) else none
    have on:ρ' (.ob I)=some (g+1,v):=JV rfl;have onS:∀{nm:Name} {J:Nat} {u:Value},ρ' nm=some (J,u)->nm=.ob I/\J=g+1/\u=v:=fun {nm J u} G=>by
     by_cases e:nm=.ob I
     ·subst e;rw[on] at G;cases G;exact⟨rfl,rfl,rfl⟩
     ·have:ρ' nm=none:=JK e;rw[this] at G;cases G
    have fl:∀{x:aC U} {z:Value},x.flat=true->Rel C.E w' ρ2 (bF N ρ2 w') x z->Rel C.E w' ρ' (fun b=>(st b\/w.heap.size<=b\/∃nm g u,ρ nm=some (g,u)/\blk u=some b)/\b<w'.heap.size/\∀nm g u,ρ' nm=some (g,u)->blk u≠some b) x z:=fun hx hz=>
     (hz.flat (ρ':=cW) hx).mono (fun b hb=>⟨⟨by
      by_cases L:b<w.heap.size
      ·by_cases hsb:st b
       ·exact .inl hsb
       ·refine .inr (.inr ?_);refine Classical.byContradiction fun hno=>hb.2.1 ⟨L,hsb,fun O=>hno ⟨_,_,_,q1,O⟩⟩
      ·exact .inr (.inl XY),hb.1,fun nm J u G=>by
       obtain⟨rfl,rfl,rfl⟩:=onS G;exact hb.2.2 _ _ _ hv⟩,rfl⟩) (fun _ _ _ G=>by cases G)
    refine⟨S.defers,v,h1,v,ρ',rfl,⟨fun h=>by simp[aC.nS,yA,aC.pure] at h,fun _=>.osl _ _ _ on p2⟩,⟨v,cs1,on,p2,p3,fun i h k hk=>fl (C.E.enc_flat t _ _ (QN hk)).1 (p4 i h k hk)⟩,fun nm J u G=>?_,?_⟩
    ·obtain⟨rfl,_,_⟩:=onS G;exact⟨rfl,fun _=>rfl⟩
    ·have V:Below w0.heap.size w0 w':=S.below;have hsz':w.heap.size<=w'.heap.size:=S.kept.1;refine⟨fun nm hnm=>?_,fun nm J u hnm G=>?_,⟨V.1.trans Z.1.symm,V.2.trans Z.2.symm,V.3.trans Z.3.symm,hsz',fun b hb=>(V.block b hb).trans (Z.block b hb).symm⟩,fun b hb hne=>?_,fun nm J u b hnm G O=>?_,fun nm nm' g1 g1' u u' b hnm hnm' G hr' hne O=>?_⟩
     ·have e1:ρ' nm=none:=JK (fun e=>hnm (by rw[e];rfl));rw[e1];cases G:ρ nm with
      |none=>rfl
      |some p=>exact absurd (hdom nm p.1 p.2 G).1 hnm
     ·obtain rfl:=(hdom nm J u G).2 rfl;rw[q1] at G;cases G;exact .inr ⟨q2,g+1,v,on,Nat.lt_succ_self _⟩
     ·by_cases L:b<w0.heap.size
      ·exact(V.block b L).trans (Z.block b L).symm
      ·exact S.kept.2 b ⟨XY,hb,hne (.ob I) _ _ rfl q1⟩
     ·obtain⟨rfl,rfl,rfl⟩:=onS G
      by_cases L:b<w.heap.size
      ·refine .inl (Classical.byContradiction fun hno=>S.free _ _ _ _ hv O ⟨((S.own hv).2 b O).1,L,fun hbl'=>hno ⟨_,_,_,rfl,q1,hbl'⟩⟩)
      ·exact .inr XY
     ·obtain⟨rfl,_,_⟩:=onS G;obtain⟨rfl,_,_⟩:=onS hr';exact absurd rfl hne
   ·exact hK.elim
  ·exact hK.elim
 cases e with
 |normal=>exact fin hK
 |exit id=>exact hK.elim
 |ret=>exact fin hK
end
end Go.Vm
namespace Go.Vm
open Go.RowKit
set_option linter.unusedVariables false
section
variable {U:eW}
def uO:Code->List Code
 | .seq x y=>uO x++uO y
 | .cond _ x y=>uO x++uO y
 | .block _ c=>uO c
 | .loop c=>c::uO c
 |_=>[]
abbrev Model (U:eW):=List (aC U)->Option (List Prop×aC U)
def Cfg.add (C:Cfg U) (f:FuncId) (m:Model U):Cfg U:={C with sum:=fun g=>cond (Nat.beq g f) (some m) (C.sum g)}
theorem kQ {P:Program} {f:FuncId} {fn:Func} {c:Code} (G:P.funcs[f]?=some fn) (u:(fn.name== "runtime.NumGoroutine")=false) (hb:fn.body=some c) (args:Array Value) (w:World):
  (callFunc f args).run P w=.ok (.enter f args) w:=by
 have r:fn.name≠ "runtime.NumGoroutine":=by simpa using u
 simp[callFunc,G,r,hb]
theorem aW.add {C:Cfg U} (V:aW C) (J:C.P.follows .mixedOrders=true) {f:FuncId} {m:Model U} {fn:Func} {c:Code} (hf:C.P.funcs[f]?=some fn) (hn:(fn.name== "runtime.NumGoroutine")=false)
  (hb:fn.body=some c) (hx:∀xs O r,m xs=some (O,r)->eQ O->(Nat.ble xs.length fn.ntmps&&Nat.ble fn.ntmps 1000000)=true/\∃M fuel fr,exec C fn.ntmps M fuel 0 c (dD xs) (bJ C fr fn fun r'=>r'=r)):aW (C.add f m):=by
 refine⟨fun g S G=>?_,fun g S G=>V.2 g S G⟩;simp only[Cfg.add,lZ] at G
 by_cases h:g=f
 ·subst h;rw[JV rfl] at G;obtain rfl:=QW G;refine⟨fun u w=>kQ (P:=C.P) hf hn hb u w,fun N w u xs O r L hN I hm hc=>?_⟩;obtain⟨Z,M,fuel,fr,hex⟩:=hx xs O r hm hc;rw[QU] at Z;refine(bCC (w:=w) (N:=N) V L J hf hb hN I (QO Z.1) (QO Z.2) hex).mono ?_
  rintro e w' ⟨v,rfl,⟨r',rfl,hr⟩,hbw⟩
  exact⟨v,rfl,hr,hbw⟩
 ·rw[JK h] at G;exact V.1 g S G
def Cfg.eO (C:Cfg U):Cfg U:={C with deep:=true}
theorem aW.bWN {C:Cfg U} (L:aW C) (u:C.P.follows .mixedOrders=true) {f:FuncId} {m:Model U} {fn:Func} {c:Code} (S:C.P.funcs[f]?=some fn) (O:(fn.name== "runtime.NumGoroutine")=false)
  (hb:fn.body=some c) (hx:∀xs I r,m xs=some (I,r)->eQ I->(Nat.ble xs.length fn.ntmps&&Nat.ble fn.ntmps 1000000)=true/\∃M fuel V,exec C.eO fn.ntmps M fuel 0 c (dD xs) (bJ C.eO V fn fun J=>J=r)):aW (C.add f m):=by
 have G:aW C.eO:=L;have:=aW.add (C:=C.eO) G u S O hb hx;exact this
theorem aW.put {C:Cfg U} (I:aW C) {f:FuncId} {m:Model U} (h:(∀(args:Array Value) (w:World),(callFunc f args).run C.P w=.ok (.enter f args) w)/\
 ∀(N:Nat->Prop) (w:World) (args:Array Value) (xs:List (aC U)) (cs:List Prop) (r:aC U),C.inv w->(∀b,N b->b<w.heap.size)->aAr C.E w N xs args->m xs=some (cs,r)->eQ cs->
  Calls C.P f args w fun e w'=>∃v,e=.returned v/\mY C.E w.heap.size N w' r v/\Below w.heap.size w w'):aW (C.add f m):=by
 refine⟨fun g G u=>?_,fun g G u=>I.2 g G u⟩;simp only[Cfg.add,lZ] at u
 by_cases J:g=f
 ·subst J;rw[JV rfl] at u;obtain rfl:=QW u;exact h
 ·rw[JK J] at u;exact I.1 g G u
abbrev vJ (U:eW):=List (aC U)->bK U->Option (List Prop×aC U×bK U)
def Cfg.vD (C:Cfg U) (f:FuncId) (m:vJ U):Cfg U:={C with eff:=fun g=>cond (Nat.beq g f) (some m) (C.eff g)}
theorem aW.aDn {C:Cfg U} (u:aW C) {f:FuncId} {m:vJ U} (h:∀w0:World,C.inv w0->vI C f m w0):aW (C.vD f m):=by
 refine⟨u.1,fun g I r w0 hi=>?_⟩;simp only[Cfg.vD,lZ] at r
 by_cases G:g=f
 ·subst G;rw[JV rfl] at r;obtain rfl:=QW r;exact h w0 hi
 ·rw[JK G] at r;exact u.2 g I r w0 hi
theorem aW.bC7 {C:Cfg U} (V:aW C) (J:C.P.follows .mixedOrders=true) {f:FuncId} {m:vJ U} {fn:Func} {c:Code} (Z:C.P.funcs[f]?=some fn) (hn:(fn.name== "runtime.NumGoroutine")=false) (hb:fn.body=some c)
  (hx:∀xs ob cs r I u,m xs ob=some (cs,r,I)->eQ cs->ownArg 0 xs=some (u,u)->∃t g S ys G,ob=.row t g S/\r=.osl u (g+1)/\I=.row t (g+1) ys/\xs=G.set u (.osl u g)/\G[u]?=some (.osl u 0)/\
   (∀i x,i≠u->G[i]?=some x->x.yP=true)/\(Nat.ble G.length fn.ntmps&&Nat.ble fn.ntmps 1000000)=true/\
   ∃M fuel,exec C fn.ntmps M fuel 0 c (aAP G u (.row t 0 S)) (aCz C fn fun t' O=>(⟨t',O⟩:(t:U.τ)×List (U.T t))=⟨t,ys⟩)):aW (C.vD f m):=
 V.aDn (bSR V J Z hb (fun L w=>kQ (P:=C.P) Z hn hb L w) hx)
structure sA (p:Prop):Prop where
 out:p
theorem aW.aCv {C:Cfg U} (L:aW C) (u:C.P.follows .mixedOrders=true) {f:FuncId} {m:Model U} {fn:Func} {c:Code} (S:C.P.funcs[f]?=some fn) (O:(fn.name== "runtime.NumGoroutine")=false)
  (hb:fn.body=some c) (hx:∀xs G r,m xs=some (G,r)->eQ G->(Nat.ble xs.length fn.ntmps&&Nat.ble fn.ntmps 1000000)=true/\∃M fuel I,sA (exec C fn.ntmps M fuel 0 c (dD xs) (bJ C I fn fun J=>J=r))):aW (C.add f m):=
 L.add u S O hb fun xs G r h V=>by
  obtain⟨h1,M,fuel,I,Z⟩:=hx xs G r h V;exact⟨h1,M,fuel,I,Z.out⟩
theorem aW.aPk {C:Cfg U} (L:aW C) (u:C.P.follows .mixedOrders=true) {f:FuncId} {m:Model U} {fn:Func} {c:Code} (S:C.P.funcs[f]?=some fn) (O:(fn.name== "runtime.NumGoroutine")=false)
  (hb:fn.body=some c) (hx:∀xs G r,m xs=some (G,r)->eQ G->(Nat.ble xs.length fn.ntmps&&Nat.ble fn.ntmps 1000000)=true/\∃M fuel I,sA (exec C.eO fn.ntmps M fuel 0 c (dD xs) (bJ C.eO I fn fun J=>J=r))):aW (C.add f m):=
 L.bWN u S O hb fun xs G r h V=>by
  obtain⟨h1,M,fuel,I,Z⟩:=hx xs G r h V;exact⟨h1,M,fuel,I,Z.out⟩
theorem mY.of {E:Enc U} {base:Nat} {N:Nat->Prop} {w:World} {r:aC U} {v:Value} (I:r.news=[]) (ho:r.uK (fun k=>k)=r) (h:Rel E w cW (fB N w) r v):mY E base N w r v:=by
 refine⟨cW,?_,fun k x G=>?_,(fun k g u f=>by cases f),(fun _ _ _ _ _ _ _ f=>by cases f)⟩
 ·rw[ho];exact h.mono (fun b q=>⟨⟨q.1,q.2,fun _ _ _ f=>by cases f⟩,rfl⟩) (fun _ _ _ f=>by cases f)
 ·rw[I] at G;cases G
def bU (id:Nat) (K:AEx->ASt U->Prop):AEx->ASt U->Prop:=fun e s'=>match e with
 | .exit f=>cond (Nat.beq f id) (K .normal s') (K (.exit f) s')
 |e=>K e s'
def dO (X:tI U) (C:Cfg U) (n:Nat) (M:Nat->Nat->Nat->Canon U) (fuel cur:Nat) (y:Code) (K:AEx->ASt U->Prop):AEx->ASt U->Prop:=fun e s'=>match e with
 | .normal=>cY X C n M fuel cur y s' K
 |e=>K e s'
def aOf (X:tI U) (C:Cfg U) (n:Nat) (ops:Array Oper) (f j:Nat) (fn:Func) (dst:Option Tmp) (K:ASt U->Prop):AEx->ASt U->Prop:=fun e s2=>match e with
 | .exit _=>False
 |_=>match o9 C s2 fn with
  |some r=>aDe X C n ops f (ops.toList.drop j) ((s2.leave C.hb).put dst r) K
  |none=>False
def kN (B:ASt U->(AEx->ASt U->Prop)->Prop) (m:Nat->Canon U) (f r:Nat) (K:AEx->ASt U->Prop):AEx->ASt U->Prop:=fun e s'=>match e with
 | .normal=>match canon (m (r+1)) s' with
  |some u=>iter B m f (r+1) u K
  |none=>False
 |e=>match canon (m r) s' with
  |some u=>K e u
  |none=>False
def cR:Code->Array Oper
 | .region _ ops _=>ops
 |_=>#[]
noncomputable def bo (f:Func):Code:=f.body.getD .skip
def cF:Code->Code
 | .seq x _=>x
 |c=>c
def cS:Code->Code
 | .seq _ y=>y
 |c=>c
def cB:Code->Code
 | .block _ x=>x
 |c=>c
def cL:Code->Code
 | .loop x=>x
 |c=>c
def cT:Code->Code
 | .cond _ x _=>x
 |c=>c
def cE:Code->Code
 | .cond _ _ y=>y
 |c=>c
abbrev aB (n:Int):Int:=IntKind.i64.wrap n
def mi (a b:Int):Int:=if b<a then b else a
def ma (a b:Int):Int:=if a<b then b else a
theorem back {p q:Prop} (h:p=q) (f:q):p:=h▸f
end
end Go.Vm
namespace Go.Vm
open Go.RowKit Go.ChangeShapes Go.WideShapes Go.ChangeAt
set_option linter.unusedVariables false
section
variable {H:Type} {enc:TypeId×Value->H} {P:Program} {W W':World}
theorem bFH (O:laidOutB P=true) (hb:Below W.heap.size W W'):∀(f:List TypeId) (r:List Value) (ds:List (DataW H)) (ps:List MemPlace),f.all (fun t=>P.readableRec t&&decide (t<P.types.size))=true->
  DataW.TrodAll enc P W 0 (fun _=>true) true f r ds ps->(∀x∈ps,x.block<W.heap.size)->DataW.TrodAll enc P W' 0 (fun b=>decide (b<W.heap.size)) true f r ds ps:=by
 intro f
 induction f with
 |nil=>
  intro r ds ps _ h _;cases r<;>cases ds<;>exact h
 |cons t f L=>
  intro r ds ps G h u;obtain⟨v,I,d,J,p,q,rfl,rfl,rfl,V,S⟩:=trodAll_cons h;simp only[List.all_cons,QU,JN] at G;exact trodAll_cons_mk (Below.trod O G.1.1 G.1.2 V hb fun x hx=>u x (by simp[hx])) (L I J q G.2 S fun x hx=>u x (by simp[hx]))
theorem bOI {f:Func} {s:ChangeSpec} {tb:TypeId} {args:Array Value} {ds gs:List (DataW H)} {r:List MemPlace} (S:laidOutB P=true) (hp:f.params.toList.all (fun t=>P.readableRec t&&decide (t<P.types.size))=true)
  (O:f.resultTypes=#[tb]) (Z:P.underlying tb=some .bool) (hv:s.vars=[]) (G:s.fn H ds={results:=[.lit (.bool true)],args:=ds})
  (J:DataW.Whole enc P f.params.toList s.vars false W args.toList ds gs r) (hb:Below W.heap.size W W'):s.post enc P f false true false false W args (.bool true) W':=by
 have u:=J;obtain⟨p,q,I,L,rfl,_,_⟩:=J;rw[hv] at L;obtain⟨rfl,rfl⟩:=trodVars_none L;have V:DataW.TrodAll enc P W 0 (fun _=>true) true f.params.toList args.toList ds p:=I;refine⟨ds,[],p++[],[],p,[],u,?_,?_,?_,hb.frame _,fun h=>by cases h⟩
 ·rw[KJ,G,O];exact trodAll_cons_mk (shut_bool Z _) trodAll_mk0
 ·rw[KJ,G];exact bFH S hb _ _ _ _ hp V fun x hx=>u.lt x (by simp[hx])
 ·rw[KJ,G,hv];rfl
end
section
variable {P:Program} {W:World}
def aC4:Value->Int
 | .int _ n=>n
 |_=>0
theorem bTp {r:Reach} {base:Nat} {u:TypeId} {k:IntKind} {v:Value} (f:P.underlying u=some (.int k)) (h:Cell.okWide P W r base u v):v=.int k (aC4 v)/\k.has (aC4 v)=true:=by
 cases v<;>simp_all[Cell.okWide,Cell.ok,aC4]
end
section
variable {U:eW} {C:Cfg U}
end
end Go.Vm
namespace Go.Vm
open Go.RowKit Go.ChangeShapes Go.WideShapes Go.ChangeAt Go.Deep
set_option linter.unusedVariables false
section
variable {P:Program}
def mL (P:Program) (t:TypeId):Bool:=
 match P.underlying t with
 |some (.int _)|some .bool|some .string|some (.slice _)=>true
 |_=>false
def yS (P:Program) (u:TypeId->Bool) (len:TypeId->Nat):List Field->Nat->Nat->Bool
 |[],off,r=>Nat.beq off r
 |f::G,off,r=>Nat.beq f.offset off&&Nat.beq (P.cellsOf f.type) (len f.type)&&u f.type&&yS P u len G (off+P.cellsOf f.type) r
def oU (P:Program):Nat->TypeId->Bool
 |0,t=>mL P t
 |d+1,t=>match P.underlying t with
  |some (.struct f)=>yS P (oU P d) (fun t=>(dN P d t).length) f.toList 0 (P.cellsOf t)
  |some (.array _ _)=>false
  |_=>mL P t
variable {H:Type} {enc:TypeId×Value->H} {w:World} {base:Nat} {sp:Nat->Bool} {held:Bool}
theorem aQs {t:TypeId} {fuel:Nat} {cs:List Value} {x:DataW H×List MemPlace} (r:mL P t=true) (h:DataW.trod enc P w base sp held fuel t cs=some x):
  cs.length=1/\∃f y,DataW.trod enc P w base sp held f t [cs.getD 0 undef]=some y:=by
 have G:=h;unfold mL at r;cases fuel with
 |zero=>cases h
 |succ fuel=>
  unfold DataW.trod at h;split at h<;>first
   |exact⟨rfl,_,_,G⟩
   | (rename_i u;rw[u] at r;cases r)
   |cases h
theorem bFG {d fuel:Nat} {cs:List Value} {L:Nat} (hlen:cs.length=L)
  (ih:∀(t:TypeId) (cs:List Value) (x:DataW H×List MemPlace),oU P d t=true->DataW.trod enc P w base sp held fuel t cs=some x->
   cs.length=(dN P d t).length/\∀i (h:i<(dN P d t).length),∃r y,DataW.trod enc P w base sp held r ((dN P d t)[i]) [cs.getD i undef]=some y):
  ∀(G:List Field) (off:Nat),yS P (oU P d) (fun t=>(dN P d t).length) G off L=true->
   (∀f∈G,∃y,DataW.trod enc P w base sp held fuel f.type ((cs.drop f.offset).take (P.cellsOf f.type))=some y)->
   off+(G.flatMap fun f=>dN P d f.type).length=L/\∀i (h:i<(G.flatMap fun f=>dN P d f.type).length),∃r y,DataW.trod enc P w base sp held r ((G.flatMap fun f=>dN P d f.type)[i]) [cs.getD (off+i) undef]=some y:=by
 intro G
 induction G with
 |nil=>
  intro off I _;exact⟨by simpa[yS] using I,fun i h=>absurd h XU⟩
 |cons f G ihf=>
  intro off I J;simp only[yS,QU] at I;obtain⟨⟨⟨h1,h2⟩,h3⟩,h4⟩:=I;have h1':=QZ h1;have h2':=QZ h2;obtain⟨y,hy⟩:=J f XU;obtain⟨e1,e2⟩:=ih f.type _ y h3 hy;obtain⟨e3,e4⟩:=ihf (off+P.cellsOf f.type) h4 (fun g V=>J g (by simp[V]));simp only[List.flatMap_cons,QH];refine⟨XY,fun i hi=>?_⟩
  by_cases O:i<(dN P d f.type).length
  ·obtain⟨Z,S,u⟩:=e2 i O;refine⟨Z,S,?_⟩;have V:((cs.drop f.offset).take (P.cellsOf f.type)).getD i undef=cs.getD (off+i) undef:=by
    simp only[QG,JH,KT];rw[JV XY,h1']
   rw[V] at u;rw[JO O];exact u
  ·have hr:i-(dN P d f.type).length<(G.flatMap fun f=>dN P d f.type).length:=by
    omega
   obtain⟨Z,S,u⟩:=e4 _ hr;refine⟨Z,S,?_⟩;rw[List.getElem_append_right XY];have e:off+P.cellsOf f.type+(i-(dN P d f.type).length)=off+i:=XY;rw[e] at u;exact u
theorem mapM_mem {α β:Type} {f:α->Option β}:∀{l:List α} {ys:List β},l.mapM f=some ys->∀a∈l,∃y,f a=some y:=by
 intro l
 induction l with
 |nil=>intro ys _ a r;cases r
 |cons x l G=>
  intro ys h a r;rw[List.mapM_cons] at h;obtain⟨y,hy,h⟩:=Option.bind_eq_some_iff.1 h;obtain⟨I,u,h⟩:=Option.bind_eq_some_iff.1 h;rcases List.mem_cons.1 r with rfl|r
  ·exact⟨y,hy⟩
  ·exact G u a r
theorem bFD:∀(d:Nat) (t:TypeId) (fuel:Nat) (cs:List Value) (x:DataW H×List MemPlace),oU P d t=true->DataW.trod enc P w base sp held fuel t cs=some x->
  cs.length=(dN P d t).length/\∀i (h:i<(dN P d t).length),∃u y,DataW.trod enc P w base sp held u ((dN P d t)[i]) [cs.getD i undef]=some y:=by
 have I:∀{t:TypeId} {fuel:Nat} {cs:List Value} {x:DataW H×List MemPlace} {l:List TypeId},l=[t]->mL P t=true->DataW.trod enc P w base sp held fuel t cs=some x->
   cs.length=l.length/\∀i (h:i<l.length),∃u y,DataW.trod enc P w base sp held u (l[i]) [cs.getD i undef]=some y:=fun {t fuel cs x l} O hk h=>by
  subst O;obtain⟨h1,h2⟩:=aQs hk h;refine⟨h1,fun i hi=>?_⟩;have:i=0:=by simpa using hi
  subst this;exact h2
 intro d
 induction d with
 |zero=>
  intro t fuel cs x r h;exact I rfl r h
 |succ d ih=>
  intro t fuel cs x r h;unfold oU at r;split at r
  ·rename_i G J;have O:dN P (d+1) t=G.toList.flatMap fun f=>dN P d f.type:=by
    simp only[dN,J]
   rw[O];cases fuel with
   |zero=>cases h
   |succ fuel=>
    simp only[DataW.trod,J] at h;split at h
    ·rename_i L;obtain⟨ys,S,_⟩:=Option.map_eq_some_iff.1 h;have:=bFG (cs:=cs) L (fun t cs x=>ih t fuel cs x) G.toList 0 r (fun f hf=>mapM_mem S f hf);refine⟨XY,fun i hi=>?_⟩;have:=this.2 i hi;rwa [JW] at this
    ·cases h
  ·cases r
  ·rename_i V Z;refine I ?_ r h;unfold dN;split
   ·rename_i fs J;exact absurd J (V fs)
   ·rename_i m e J;exact absurd J (Z m e)
   ·rfl
theorem bFE {d:Nat} {t:TypeId} {fuel:Nat} {cs:List Value} {x:DataW H×List MemPlace} (G:oU P d t=true) (f:(dN P d t).all (fun u=>match P.underlying u with|some (.int .i64)=>true|_=>false)=true)
  (h:DataW.trod enc P w base sp held fuel t cs=some x):∃I:List Int,I.length=(dN P d t).length/\cs=I.map (Value.int .i64):=by
 obtain⟨V,S⟩:=bFD d t fuel cs x G h;refine⟨cs.map aC4,by simp[V],?_⟩;apply List.ext_getElem
 ·simp
 ·intro i hi Z;obtain⟨f',y,hy⟩:=S i XY;have J:=JG.1 f _ (QN (show i<(dN P d t).length by omega));split at J
  ·rename_i L;obtain⟨n,r,_⟩:=DataW.trod_int L hy;have O:cs.getD i undef=cs[i]:=by simp[hi]
   rw[O] at r;simp only[List.cons.injEq,and_true] at r;simp[r,aC4]
  ·cases J
variable {U:eW} {C:Cfg U}
def Fits (C:Cfg U) (u:TypeId) (a:aC U):Prop:=
 match C.P.underlying u with
 |some (.int k)=>∃n,a=.int k n/\k.has n
 |some .bool=>∃b,a=.bool b
 |some .string=>∃s,a=.str s/\(s.size:Int)<=9223372036854775807
 |some (.slice e)=>∃τ xs,C.elt e=some τ/\a=.sl τ xs/\(xs.length:Int)<=9223372036854775807
 |_=>False
def aLh (C:Cfg U) (enc:TypeId×Value->H) (w:World) (e:TypeId) (τ:U.τ):Prop:=
 C.P.cellsOf e=U.size τ/\∀n f y,DataW.trod enc C.P w 0 (fun _=>true) true n e f=some y->∃z:U.T τ,∀k (r:k<(C.E.enc τ z).length),Rel C.E w cW (fB (fun _=>False) w) (C.E.enc τ z)[k] (f.getD k undef)
theorem bKU {e:TypeId} {τ:U.τ} (d:Nat) (S:C.P.cellsOf e=U.size τ) (G:oU C.P d e=true) (r:(dN C.P d e).all (fun u=>match C.P.underlying u with|some (.int .i64)=>true|_=>false)=true) (V:(dN C.P d e).length=U.size τ)
  (O:∀f:List Int,f.length=U.size τ->∃z,C.E.enc τ z=f.map (aC.int .i64)):aLh C enc w e τ:=by
 refine⟨S,fun n cs y h=>?_⟩;obtain⟨f,Z,rfl⟩:=bFE G r h;obtain⟨z,L⟩:=O f XY;refine⟨z,fun k J=>?_⟩;have I:k<f.length:=by rw[L] at J;simpa using J
 simp only[L];simpa[I] using Rel.int _ _
theorem bNq {u:TypeId} {v:Value} {b0 fuel:Nat} {y:DataW H×List MemPlace} (hE:∀e,C.P.underlying u=some (.slice e)->∃τ,C.elt e=some τ/\aLh C enc w e τ)
  (r:mL C.P u=true) (f:Cell.okWide C.P w .any b0 u v) (h:DataW.trod enc C.P w 0 (fun _=>true) true fuel u [v]=some y):
  ∃a,Fits C u a/\Rel C.E w cW (fB (fun _=>False) w) a v:=by
 unfold mL at r;unfold Fits;split at r
 ·rename_i k J;obtain⟨S,h2⟩:=bTp J f;exact⟨.int k (aC4 v),⟨_,rfl,by simpa using h2⟩,by rw[S];exact .int _ _⟩
 ·rename_i J;unfold Cell.okWide Cell.ok at f;rw[J] at f;cases v<;>first|exact⟨.bool _,⟨_,rfl⟩,.bool _⟩|exact f.elim
 ·rename_i J;unfold Cell.okWide Cell.ok at f;rw[J] at f;cases v<;>first|exact⟨.str _,⟨_,rfl,f⟩,.str _⟩|exact f.elim
 ·rename_i e J;obtain⟨τ,hτ,hs,hel⟩:=hE e J;rcases open_slice J h with ⟨S,_⟩|⟨a,len,cap,m,n,D,Pl,S,hb,hl,hm,hmm,hx,hall⟩
  ·simp only[List.cons.injEq,and_true] at S;subst S;exact⟨.sl τ [],⟨τ,[],hτ,rfl,XU⟩,.lJ τ⟩
  ·simp only[List.cons.injEq,and_true] at S;subst S;have hmc:m=cap:=by simpa using hmm
   subst hmc;have hhas:w.has C.P .any b0 a e m:=by
    unfold Cell.okWide Cell.ok at f;rw[J] at f;exact f.2.2
   obtain⟨_,I,row,cells,hsh,_⟩:=hhas;obtain⟨b,o,spot⟩:=a;simp only at I;subst I;have hblk:b<w.heap.size:=by
    unfold World.shape? at hsh;rcases Nat.lt_or_ge b w.heap.size with h|h
    ·exact h
    ·simp[Array.getElem?_eq_none h] at hsh
   obtain⟨Z,hZ⟩:=choose_lt (α:=Option (U.T τ)×List Value) (n:=len) (p:=fun i z=>∃q,z.1=some q/\w.cells? 0 (Addr.add ⟨b,o,none⟩ (i*C.P.cellsOf e)) (C.P.cellsOf e)=some z.2/\∀k (r:k<(C.E.enc τ q).length),Rel C.E w cW (fB (fun _=>False) w) (C.E.enc τ q)[k] (z.2.getD k undef)) (fun i hi=>by
    obtain⟨cs',h3,h4⟩:=hall i XY;obtain⟨z,hz⟩:=hel n cs' _ h4;exact⟨(some z,cs'),z,rfl,h3,hz⟩)
   have hxs:∃xs:List (U.T τ),xs.length=len/\∀i (h:i<xs.length),(Z i).1=some xs[i]:=by
    have:∀j,j<=len->∃xs:List (U.T τ),xs.length=j/\∀i (h:i<xs.length),(Z i).1=some xs[i]:=by
     intro j
     induction j with
     |zero=>intro _;exact⟨[],rfl,fun i h=>absurd h XU⟩
     |succ j ihj=>
      intro hj;obtain⟨xs,e1,e2⟩:=ihj XY;obtain⟨q,hq,_⟩:=hZ j XY;refine⟨xs++[q],by simp[e1],fun i hi=>?_⟩
      by_cases hij:i<xs.length
      ·rw[JO hij];exact e2 i hij
      ·have:i=j:=by simp at hi;omega
       subst this;simp[e1,hq]
    exact this len (JX _)
   obtain⟨xs,e1,e2⟩:=hxs;have L:∀i (h:i<xs.length) k (r:k<(C.E.enc τ xs[i]).length),w.cell? ⟨b,o+(i*U.size τ+k),none⟩=some ((Z i).2.getD k undef)/\Rel C.E w cW (fB (fun _=>False) w) (C.E.enc τ xs[i])[k] ((Z i).2.getD k undef):=by
    intro i hi k r;obtain⟨q,hq,h3,h4⟩:=hZ i XY;have hqx:q=xs[i]:=by
     have:=e2 i hi;rw[hq] at this;exact QW this
    subst hqx;refine⟨?_,h4 k r⟩;obtain⟨_,hlen,V⟩:=World.cells?_some h3;have G:k<U.size τ:=by rw[C.E.enc_len] at r;exact r
    have:=V k (by rw[hs];exact G);rw[Addr.rX,Addr.rX,hs] at this;rw[<- JP];rw[this];have hkl:k<(Z i).2.length:=by rw[hlen,hs];exact G
    simp[hkl]
   have O:=C.E.pos τ;refine⟨.sl τ xs,⟨τ,xs,hτ,rfl,?_⟩,?_⟩
   ·have:m<=maxLen:=hm;unfold maxLen at this;omega
   ·have:=Rel.sl (E:=C.E) (w:=w) (ρ:=cW) (st:=fB (fun _=>False) w) τ xs b o m (fun j=>(Z (j / U.size τ)).2.getD (j % U.size τ) undef) ⟨hblk,fun h=>h⟩ XY (fun j hj=>by
     have h5:j / U.size τ<xs.length:=Nat.div_lt_of_lt_mul (by rw[Nat.mul_comm];exact hj);have h6:j % U.size τ<U.size τ:=Nat.mod_lt _ O;have:=(L (j / U.size τ) h5 (j % U.size τ) (by rw[C.E.enc_len];exact h6)).1;have h7:j / U.size τ*U.size τ+j % U.size τ=j:=by rw[Nat.mul_comm];exact Nat.div_add_mod j _
     rw[h7] at this;exact this) (fun i hi k r=>by
     have G:k<U.size τ:=by rw[C.E.enc_len] at r;exact r
     have h7:(i*U.size τ+k) / U.size τ=i:=by
      rw[Nat.mul_comm,Nat.mul_add_div O,Nat.div_eq_of_lt G,JL]
     have h8:(i*U.size τ+k) % U.size τ=k:=by
      rw[Nat.mul_comm,Nat.mul_add_mod,Nat.mod_eq_of_lt G]
     simp only[h7,h8];exact(L i hi k r).2)
    rw[e1] at this;exact this
 ·cases r
theorem bOK {M:Nat->Nat->Nat->Canon U} {fuel:Nat} (O:aW C) (I:C.P.follows .mixedOrders=true) {f:FuncId} {fn:Func} {c:Code} (V:C.P.funcs[f]?=some fn) (hb:fn.body=some c) {args:Array Value} {xs:List (aC U)} {w:World} (J:C.inv w)
  (G:aAr C.E w (fun _=>False) xs args) (u:(Nat.ble xs.length fn.ntmps&&Nat.ble fn.ntmps 1000000)=true) {fr:Bool} (h:sA (exec C fn.ntmps M fuel 0 c (dD xs) (bJ C fr fn fun r=>r=.bool true))):
  Calls C.P f args w fun e w'=>e=.returned (.bool true)/\Below w.heap.size w w':=by
 refine(bCC O J I V hb (fun _ h=>h.elim) G (QO (QU _ _▸u).1) (QO (QU _ _▸u).2) h.out).mono ?_
 rintro e w' ⟨v,rfl,⟨r,rfl,⟨ρ,S,_⟩⟩,L⟩
 cases S;exact⟨rfl,L⟩
end
end Go.Vm
namespace Go.Proofs
open Go.Proofs.Tryz
open Go.Shelf
def aWG:Go.Shelf.Ren:=⟨fun|169=>50|n=>n,fun|70=>107|9=>9|0=>0|72=>110|37=>108|127=>178|3=>3|5=>5|n=>n,fun|n=>n⟩
theorem bOC:Go.Proofs.Lays.n169 prog aWG:={
 mixed:=XW
 f169:=func50.trans (congrArg some XW)
 t0:=underlying0
 a0:=isAgg0
 z0:=sizeOf0
 v0:=zeroValue0
 t3:=underlying3
 a3:=isAgg3
 z3:=sizeOf3
 v3:=zeroValue3
 t9:=underlying9
 a9:=isAgg9
 z9:=sizeOf9
 v9:=zeroValue9
 t37:=underlying108
 a37:=isAgg108
 z37:=sizeOf108
 v37:=zeroValue108
 t70:=underlying107
 a70:=isAgg107
 z70:=sizeOf107
 v70:=zeroValue107
 t72:=underlying110
 a72:=isAgg110
 z72:=sizeOf110
 v72:=zeroValue110
 t127:=underlying178
 a127:=isAgg178
 z127:=sizeOf178
 v127:=zeroValue178}
theorem bW5:Builder.Extra prog aWG:={
 sizeBuilder:=XW
 liesBuilder:=XW
 t5:=underlying5
 a5:=isAgg5
 z5:=sizeOf5
 v5:=zeroValue5
 infoByte:=XW
 cellsByte:=XW
 sizeByte:=XW
 neB5:=by decide}
def bNy:Go.Shelf.Ren:=⟨fun|171=>48|243=>106|246=>162|283=>195|284=>196|285=>197|286=>198|129=>212|317=>233|318=>234|319=>235|320=>236|337=>255|338=>256|n=>n,fun|3=>3|9=>9|2=>2|4=>4|171=>263|0=>0|53=>264|37=>108|5=>5|173=>267|212=>306|51=>292|20=>20|213=>307|46=>247|232=>327|233=>328|n=>n,fun|17=>1|18=>3|19=>4|n=>n⟩
theorem bNz:Go.Proofs.LaysM.n171 prog bNy:={
 mixed:=XW
 f129:=func212.trans (congrArg some XW)
 f171:=func48.trans (congrArg some XW)
 f243:=func106.trans (congrArg some XW)
 f246:=func162.trans (congrArg some XW)
 f283:=func195.trans (congrArg some XW)
 f284:=func196.trans (congrArg some XW)
 f285:=func197.trans (congrArg some XW)
 f286:=func198.trans (congrArg some XW)
 f317:=func233.trans (congrArg some XW)
 f318:=func234.trans (congrArg some XW)
 f319:=func235.trans (congrArg some XW)
 f320:=func236.trans (congrArg some XW)
 f337:=func255.trans (congrArg some XW)
 f338:=func256.trans (congrArg some XW)
 t0:=underlying0
 a0:=isAgg0
 z0:=sizeOf0
 v0:=zeroValue0
 t2:=underlying2
 a2:=isAgg2
 z2:=sizeOf2
 v2:=zeroValue2
 t3:=underlying3
 a3:=isAgg3
 z3:=sizeOf3
 v3:=zeroValue3
 t4:=underlying4
 a4:=isAgg4
 z4:=sizeOf4
 v4:=zeroValue4
 t5:=underlying5
 a5:=isAgg5
 z5:=sizeOf5
 v5:=zeroValue5
 t9:=underlying9
 a9:=isAgg9
 z9:=sizeOf9
 v9:=zeroValue9
 t20:=underlying20
 a20:=isAgg20
 z20:=sizeOf20
 v20:=zeroValue20
 t37:=underlying108
 a37:=isAgg108
 z37:=sizeOf108
 v37:=zeroValue108
 t46:=underlying247
 a46:=isAgg247
 z46:=sizeOf247
 v46:=zeroValue247
 t51:=underlying292
 a51:=isAgg292
 z51:=sizeOf292
 v51:=zeroValue292
 t53:=underlying264
 a53:=isAgg264
 z53:=sizeOf264
 v53:=zeroValue264
 t171:=underlying263
 a171:=isAgg263
 z171:=sizeOf263
 v171:=zeroValue263
 t173:=underlying267
 a173:=isAgg267
 z173:=sizeOf267
 v173:=zeroValue267
 t212:=underlying306
 a212:=isAgg306
 z212:=sizeOf306
 v212:=zeroValue306
 t213:=underlying307
 a213:=isAgg307
 z213:=sizeOf307
 t232:=underlying327
 a232:=isAgg327
 z232:=sizeOf327
 v232:=zeroValue327
 t233:=underlying328
 a233:=isAgg328
 z233:=sizeOf328
 v233:=zeroValue328
 g17:=XW
 g18:=XW
 g19:=XW
 i0:=XW
 i2:=XW
 i3:=XW
 i4:=XW
 i5:=XW
 i9:=XW
 i20:=XW
 i37:=XW
 i46:=XW
 i51:=XW
 i53:=XW
 i171:=XW
 i173:=XW
 i212:=XW
 i232:=XW
 i233:=XW
 m17:=XW
 m18:=XW
 m19:=by kernel_rfl}
open Go.RowKit Go.Sort Go.Lib in
theorem strconv_Itoa (n:Int) (G: -9223372036854775808<=n) (u:n<=9223372036854775807) (w:World) (f:Lib.TabIs prog w "internal/strconv.uint64pow10" .u64 Lib.pow10Tab):
  Calls prog 48 #[.int .i64 n] w fun e w'=>e=.returned (.string ⟨(Lib.itoa n).toArray⟩)/\∃k r,w'=grow (w.drewN k) r:=Any.strconv_Itoa bNz n G u w f
def bW6:Go.Shelf.Ren:=⟨fun|219=>237|217=>257|225=>258|224=>259|267=>260|266=>266|314=>267|n=>n,fun|9=>9|3=>3|4=>4|5=>5|46=>247|146=>294|51=>292|n=>n,fun|1=>2|n=>n⟩
def bOD:Go.Shelf.Ren:=⟨fun|144=>163|143=>199|219=>237|217=>257|225=>258|224=>259|267=>260|266=>266|314=>267|n=>n,fun|9=>9|4=>4|3=>3|5=>5|46=>247|146=>294|51=>292|n=>n,fun|1=>2|n=>n⟩
theorem bOE:Go.Proofs.Lays.n144 prog bOD:={
 mixed:=XW
 f143:=func199.trans (congrArg some XW)
 f144:=func163.trans (congrArg some XW)
 f217:=func257.trans (congrArg some XW)
 f219:=func237.trans (congrArg some XW)
 f224:=func259.trans (congrArg some XW)
 f225:=func258.trans (congrArg some XW)
 f266:=func266.trans (congrArg some XW)
 f267:=func260.trans (congrArg some XW)
 f314:=func267.trans (congrArg some XW)
 t3:=underlying3
 a3:=isAgg3
 z3:=sizeOf3
 v3:=zeroValue3
 t4:=underlying4
 a4:=isAgg4
 z4:=sizeOf4
 v4:=zeroValue4
 t5:=underlying5
 a5:=isAgg5
 z5:=sizeOf5
 v5:=zeroValue5
 t9:=underlying9
 a9:=isAgg9
 z9:=sizeOf9
 v9:=zeroValue9
 t46:=underlying247
 a46:=isAgg247
 z46:=sizeOf247
 v46:=zeroValue247
 t51:=underlying292
 a51:=isAgg292
 z51:=sizeOf292
 v51:=zeroValue292
 t146:=underlying294
 a146:=isAgg294
 z146:=sizeOf294
 v146:=zeroValue294
 g1:=by kernel_rfl}
open Go.RowKit Go.Lib in
theorem strings_Contains (s sub:ByteArray) (m:Int) (w:World) (f:s.size<4294967281) (hm:w.cell? ⟨2,0,none⟩=some (.int .i64 m)):
  Calls prog 163 #[.string s,.string sub] w fun e w'=>e=.returned (.bool (Lib.contains s.data.toList sub.data.toList))/\w'=w:=Any.strings_Contains bOE s sub m w f hm
def bOA:Go.Shelf.Ren:=⟨fun|144=>163|143=>199|219=>237|217=>257|225=>258|224=>259|267=>260|266=>266|314=>267|n=>n,fun|9=>9|4=>4|3=>3|5=>5|46=>247|146=>294|51=>292|n=>n,fun|1=>2|n=>n⟩
theorem bOB:Go.Proofs.LaysM.n144 prog bOA:={
 mixed:=XW
 f143:=func199.trans (congrArg some XW)
 f144:=func163.trans (congrArg some XW)
 f217:=func257.trans (congrArg some XW)
 f219:=func237.trans (congrArg some XW)
 f224:=func259.trans (congrArg some XW)
 f225:=func258.trans (congrArg some XW)
 f266:=func266.trans (congrArg some XW)
 f267:=func260.trans (congrArg some XW)
 f314:=func267.trans (congrArg some XW)
 t3:=underlying3
 a3:=isAgg3
 z3:=sizeOf3
 v3:=zeroValue3
 t4:=underlying4
 a4:=isAgg4
 z4:=sizeOf4
 v4:=zeroValue4
 t5:=underlying5
 a5:=isAgg5
 z5:=sizeOf5
 v5:=zeroValue5
 t9:=underlying9
 a9:=isAgg9
 z9:=sizeOf9
 v9:=zeroValue9
 t46:=underlying247
 a46:=isAgg247
 z46:=sizeOf247
 v46:=zeroValue247
 t51:=underlying292
 a51:=isAgg292
 z51:=sizeOf292
 v51:=zeroValue292
 t146:=underlying294
 a146:=isAgg294
 z146:=sizeOf294
 v146:=zeroValue294
 g1:=XW
 i3:=XW
 i4:=XW
 i5:=XW
 i9:=XW
 i46:=XW
 i51:=XW
 i146:=XW
 m1:=XW
 s1_3:=fun w h=>Go.Proofs.cell_of_shapedOpen_int (zero:=#[.int .i64 0]) (t:=3) h (JC XW) XW rfl XW XW underlying3}
end Go.Proofs
