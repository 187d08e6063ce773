/- Lemmas, walks and laws of this proof, part 8. Conditions: those that each names. -/
import Derived.Test.YtjjbojomlfgjlaaGreatDoorMK7
import Derived.Test.YtjjbojomlfgjlaaGreatDoorMK5
import Derived.Test.YtjjbojomlfgjlaaGreatDoorMK4
import Derived.WalkKit
import Derived.OwnWalk
import Derived.Lib.Walk
import Derived.Lib.SliceRun
import Derived.Deep.LoopGhost
import Derived.Test.YtjjbojomlfgjlaaGreatDoorMK6
set_option maxRecDepth 100000
namespace Go.Proofs.YtjjbojomlfgjlaaGreatDoor
open Go.Proofs.Tryz
open Go.Vm Go.RowKit
set_option linter.unusedVariables false
set_option maxRecDepth 100000
noncomputable section
variable {N:Nat->Prop} {w0:World} {l:List aA} {m:List Bool} {ex ex':Nat->aC UU} {v:Value} {b:Nat} {xs:zzI} {ρ:Vm.Own} {a:Act} {w:World} {Q:Exit->Act->World->Prop} {cur:Nat} {c d z:Code} {mc:Canon UU} {x k n:Int}
theorem bJ1 (I:QS N w0 l m (xQ v) v b xs ρ a w) (J:∀a',a'.eval (.tmp 17)=.bool (decide (0<(xs.length:Int)))->QS N w0 l m (xQ v) v b xs ρ a' w->Q .normal a' w):qR4.wp prog Q a w:=by
 rw[bJ3];refine wp_region (zR ?_);rw[bJ2];obtain⟨q,S,V,hv,_⟩:=I.q;have L:=I.raw 4 (by decide) rfl;refine mD (d:=15) XW XW (aFR (x:=.tmp 4) XW) ?_;rw[L];have G:=I.got (d:=15) (by decide) v;have r:=I.free (d:=15) (by decide) rfl v;generalize a.put (some 15) v=O at G r;refine mD (d:=16) XW XW (bRw (x:=.tmp 15) (t:=45) XW (G.trans hv) underlying45) ?_;have u:=r.got (d:=16) (by decide) (.int .i64 xs.length);have f:=r.free (d:=16) (by decide) rfl (.int .i64 xs.length);generalize O.put (some 16) (.int .i64 xs.length)=Z at u f;refine mD (d:=17) XW XW (bRy (x:=.tmp 16) (y:=.const (.int .i64 0)) (t:=3) (t':=3) XW u rfl) ?_;exact J _ (f.got (d:=17) (by decide) _) (f.free (d:=17) (by decide) rfl _)
theorem bJY (L:QS N w0 l m (xQ v) v b (x::xs) ρ a w) (V:∀a',QS N w0 l m (xA v x) v b (x::xs) ρ a' w->Q .normal a' w):(cF qB1).wp prog Q a w:=by
 rw[bJ0];refine wp_region (zR ?_);rw[bJZ];obtain⟨q,cap,cu,hv,hb,_,_,S⟩:=L.q;have Z:=L.raw 4 (by decide) rfl;obtain⟨i0,hi,_⟩:=info_parts (P:=prog) (e:=3) (z:=.int .i64 0) (size:=1) (bytes:=8) XW;refine mD (d:=18) XW XW (aFR (x:=.tmp 4) XW) ?_;rw[Z];have J:=L.got (d:=18) (by decide) v;have r:=L.free (d:=18) (by decide) rfl v;generalize a.put (some 18) v=a1 at J r;refine mD (d:=19) XW XW (bRx (x:=.tmp 18) (y:=.const (.int .i64 0)) (t:=45) XW (J.trans hv) rfl XU underlying45 hi) ?_;have I:=r.got (d:=19) (by decide) (.pointer (some ⟨b,q,none⟩));have f:=r.free (d:=19) (by decide) rfl (.pointer (some ⟨b,q,none⟩));generalize a1.put (some 19) (.pointer (some ⟨b,q,none⟩))=a2 at I f;refine mD (d:=20) XW XW (bRv (x:=.tmp 19) (t:=3) (k:=x) XW I underlying3 (by rw[cell_of_row w b q cu 3 (0,0) hb];exact S 0 XU)) ?_;have G:=f.got (d:=20) (by decide) (.int .i64 x);have u:=f.free (d:=20) (by decide) rfl (.int .i64 x);generalize a2.put (some 20) (.int .i64 x)=a3 at G u;refine mD (d:=5) XW XW (aJb (x:=.tmp 20) XW) ?_;rw[G];exact V _ (u.put (d:=5) (by decide) (fun st=>.int .i64 x) rfl fun t O=>by simp only[stQ,xA,xQ,iX O,QJ])
theorem bJV (G:QS N w0 l m (xA v x) v b (x::xs) ρ a w) (hQ:∀r a',QS N w0 l m (xA r x) r b xs ρ a' w->Q .normal a' w):(cF (cS qB1)).wp prog Q a w:=by
 rw[bJX];refine wp_region (zR ?_);rw[bJW];have hq:=G.q;obtain⟨q,f,cu,hv,_⟩:=G.q;subst hv;have h4:=G.raw 4 (by decide) rfl;obtain⟨i0,hi,_,S,_⟩:=info_parts (P:=prog) (e:=3) (z:=.int .i64 0) (size:=1) (bytes:=8) XW;refine mD (d:=21) XW XW (aFR (x:=.tmp 4) XW) ?_;rw[h4];have L:=G.got (d:=21) (by decide) (.slice (some ⟨b,q,none⟩) (x::xs).length f);have u:=G.free (d:=21) (by decide) rfl (.slice (some ⟨b,q,none⟩) (x::xs).length f);generalize a.put (some 21) (.slice (some ⟨b,q,none⟩) (x::xs).length f)=a1 at L u;refine mD (d:=22) XW XW (bRu (x:=.tmp 21) (y:=.const (.int .i64 1)) (t:=45) XW L rfl XU underlying45 hi S) ?_;have O:=hq.tail;rw[show (x::xs).length-1=xs.length from rfl];generalize (Value.slice (some ⟨b,if f=1 then q else q+1,none⟩) xs.length (f-1))=r at O ⊢;have J:=u.got (d:=22) (by decide) r;have I:=u.free (d:=22) (by decide) rfl r;generalize a1.put (some 22) r=a2 at J I;refine mD (d:=4) XW XW (aJb (x:=.tmp 22) XW) ?_;rw[J];have V:=I.put (d:=4) (ex':=xA r x) (by decide) (fun st=>.raw r) rfl fun t O=>by simp only[stQ,xA,iX O,QJ]
 obtain⟨r1,r2,Z⟩:=V;exact hQ r _ ⟨r1,O,Z⟩
theorem bJ7 (hN:∀x,N x->x<w0.heap.size) (hlen:xs.length<=1000) (hS:QS N w0 l m (xK v x n k) v b xs ρ a w) (hQ:∀u b' a' w',QS N w0 l m (xK u x n k) u b' (xs++[k]) ρ a' w'->Q .normal a' w'):qL.wp prog Q a w:=by
 rw[bJ9];refine wp_region (zR ?_);rw[bJ8];have h4:=hS.raw 4 (by decide) rfl;refine mD (d:=47) XW XW (aFR (x:=.tmp 4) XW) ?_;rw[h4];have g47:=hS.got (d:=47) (by decide) v;have f:=hS.free (d:=47) (by decide) rfl v;generalize a.put (some 47) v=a1 at g47 f;have h6:=f.int 6 (by decide) rfl;refine mD (d:=48) XW XW (aFR (x:=.tmp 6) XW) ?_;rw[h6];have g48:=f.got (d:=48) (by decide) (.int .i64 k);have L:=(f.oth (d:=48) (t:=47) (by decide) (by decide) (.int .i64 k)).trans g47;have I:=f.free (d:=48) (by decide) rfl (.int .i64 k);generalize a1.put (some 48) (.int .i64 k)=a2 at g48 L I;refine mD (d:=49) XW XW (bBU (x:=.tmp 48) XW g48) ?_;have J:(w.alloc (.cells #[.int .i64 k] 3)).heap[w.heap.size]?=some (.cells #[.int .i64 k] 3 (0,0)):=heap_alloc_new w _;have G:=I.world hN (w1:=w.alloc (.cells #[.int .i64 k] 3)) (v1:=v) (xs1:=xs) (I.q.same (heap_alloc_old w _ I.q.lt)) (.inl rfl) (fun j hj _=>heap_alloc_old w _ hj) XU rfl rfl rfl;generalize w.alloc (.cells #[.int .i64 k] 3)=w1 at J G;have g49:=G.got (d:=49) (by decide) (.slice (some ⟨w.heap.size,0,none⟩) 1 1);have r:=(G.oth (d:=49) (t:=47) (by decide) (by decide) (.slice (some ⟨w.heap.size,0,none⟩) 1 1)).trans L;have O:=G.free (d:=49) (by decide) rfl (.slice (some ⟨w.heap.size,0,none⟩) 1 1);generalize a2.put (some 49) (.slice (some ⟨w.heap.size,0,none⟩) 1 1)=a3 at g49 r O;obtain⟨u,w2,b',hrun,hq,hb,hs,hz,ho,ht,hout⟩:=bRz (o:=opn qL 3) (x:=.tmp 47) (y:=.tmp 49) (a:=a3) XW r g49 O.q J hlen;refine mD (d:=50) XW XW hrun ?_;have V:=O.world hN hq hb hs hz ho ht hout;have Z:=V.got (d:=50) (by decide) u;have S:=V.free (d:=50) (by decide) rfl u;generalize a3.put (some 50) u=a4 at Z S;refine mD (d:=4) XW XW (aJb (x:=.tmp 50) XW) ?_;rw[Z];exact hQ u b' _ w2 (S.put (d:=4) (ex':=xK u x n k) (by decide) (fun st=>.raw u) rfl fun t ht=>by simp only[stQ,xK,iX ht,QJ])
theorem bEk (v:Value) (a n k:Int) (c:Bool):∀t,xQ v t=.any\/xQ v t=xC v a n k c t:=fun t=>by
 unfold xQ xC;cases Nat.beq t 4
 ·exact .inl rfl
 ·exact .inr rfl
section
variable {Qx:Exit->Act->World->Prop}
theorem inner (u:jC iU w0) (hN:∀x,N x->x<w0.heap.size) (hlen:l.length<=100) {i r:Nat}:∀(n k:Nat) (t:List Bool×zzI) (v:Value) (b:Nat) (ρ:Vm.Own) (a:Act) (w:World),l.length<n+k->k<=l.length->jM l t->i<t.2.length->r<l.length->
  QS N w0 l t.1 (xI v r l.length k) v b (t.2.drop (i+1)) ρ a w->
  (∀(t':List Bool×zzI) v' b' ρ' a' w',jM l t'->t'=(List.range' k (l.length-k)).foldl (kZ l r) t->i<t'.2.length->QS N w0 l t'.1 (xQ v') v' b' (t'.2.drop (i+1)) ρ' a' w'->Qx (.exit 2) a' w')->Code.rounds prog qIB Qx n a w:=by
 intro n
 induction n with
 |zero=>intro k t v b ρ a w h1 h2;omega
 |succ n ih=>
  intro k t v b ρ a w h1 h2 hc hi hr hS hQ;have hle:=hc.le;have hln:=hc.len;rw[rounds_succ]
  suffices L:(Code.seq qR8 (.seq (.cond (.tmp 26) .skip (.exit 2)) (.seq (.block 3 (.seq qR9 (.seq aM8 (.cond (.tmp 43) (.seq aM7 qL) .skip)))) aCI))).wp prog (Exit.then (Code.rounds prog qIB Qx n) Qx) a w by
   rw[<- bJU] at L;exact L
  refine wp_seq (hS.vm (mc:=mQ [4,5,24,25,26]) (cur:=2) (Pq:=fun O ex'=>O=t.1/\ex'=xC v r l.length k (decide ((k:Int)<(l.length:Int)))) u ?_ ?_)
  ·rw[e8];exact⟨_,_,rfl,rfl,rfl⟩
  rintro _ _ ρ1 a1 w1 ⟨rfl,rfl⟩ J
  have V:=J.bool 26 (by decide) rfl
  by_cases hk:k<l.length
  ·rw[bN (show (k:Int)<(l.length:Int) by omega)] at V J;refine wp_seq (wp_cond_true V (wp_skip ?_));refine wp_seq (wp_block ?_);have Z:=hc.kZ r hk;have f:(List.range' k (l.length-k)).foldl (kZ l r) t=(List.range' (k+1) (l.length-(k+1))).foldl (kZ l r) (kZ l r t k):=by
    rw[show l.length-k=(l.length-(k+1))+1 by omega,XJ,QI]
   refine J.vm2 (mc:=mQ [4,5,6,24,25,43]) (cur:=3) (Pq:=fun O ex'=>O=t.1/\ex'=xT v r l.length k (!(t.1.getD k default)&&xL (l.getD r default) (l.getD k default))) u ?_ ?_
   ·rw[e9];refine⟨⟨XY,XY⟩,?_⟩;rw[QV,QV];cases t.1.getD k default
    ·exact⟨⟨XY,XY⟩,⟨XY,XY⟩,_,_,rfl,rfl,rfl⟩
    ·exact⟨_,_,rfl,rfl,rfl⟩
   rintro _ _ ρ2 a2 w2 ⟨rfl,rfl⟩ I
   have S:=I.bool 43 (by decide) rfl;have G:kZ l r t k=cond (!(t.1.getD k default)&&xL (l.getD r default) (l.getD k default)) (t.1.set k true,t.2++[(k:Int)]) t:=by
    unfold kZ;cases t.1.getD k default<;>rfl
   cases hb:(!(t.1.getD k default)&&xL (l.getD r default) (l.getD k default)) with
   |true=>
    rw[hb] at S I G;rw[QX] at G;refine wp_cond_true S (wp_seq ?_);refine I.vm (mc:=mQ [4,5,6,24,25]) (cur:=3) (Pq:=fun O ex'=>O=t.1.set k true/\ex'=xK v r l.length k) u ?_ ?_
    ·rw[kI];exact⟨⟨XY,XY⟩,_,_,rfl,by rw[QV],rfl⟩
    rintro _ _ ρ3 a3 w3 ⟨rfl,rfl⟩ hS3
    refine bJ7 hN (by rw[KZ];omega) hS3 fun v4 b4 a4 w4 hS4=>?_
    show aCI.wp prog _ a4 w4;refine hS4.vm (mc:=mQ [4,5,24,25]) (cur:=2) (Pq:=fun O ex'=>O=t.1.set k true/\ex'=xI v4 r l.length ((k+1:Nat):Int)) u ?_ ?_
    ·rw[e13];exact⟨_,_,rfl,rfl,by rw[cO hk XY]⟩
    rintro _ _ ρ5 a5 w5 ⟨rfl,rfl⟩ hS5
    show Code.rounds prog qIB Qx n a5 w5;rw[G] at Z f;refine ih (k+1) (t.1.set k true,t.2++[(k:Int)]) v4 b4 ρ5 a5 w5 XY XY Z.1 (by have:=Z.2.1;omega) hr ?_ ?_
    ·show QS N w0 l (t.1.set k true) _ v4 b4 ((t.2++[(k:Int)]).drop (i+1)) ρ5 a5 w5;rw[List.drop_append_of_le_length XY];exact hS5
    ·intro t' v' b' ρ' a' w' q1 q2 q3 q4;exact hQ t' v' b' ρ' a' w' q1 (q2.trans f.symm) q3 q4
   |false=>
    rw[hb] at S I G;rw[QJ] at G;refine wp_cond_false S (wp_skip ?_);show aCI.wp prog _ a2 w2;refine I.vm (mc:=mQ [4,5,24,25]) (cur:=2) (Pq:=fun O ex'=>O=t.1/\ex'=xI v r l.length ((k+1:Nat):Int)) u ?_ ?_
    ·rw[bTE];exact⟨_,_,rfl,rfl,by rw[cO hk XY]⟩
    rintro _ _ ρ5 a5 w5 ⟨rfl,rfl⟩ hS5
    show Code.rounds prog qIB Qx n a5 w5;rw[G] at f;exact ih (k+1) t v b ρ5 a5 w5 XY XY hc hi hr hS5 fun t' v' b' ρ' a' w' q1 q2 q3 q4=>hQ t' v' b' ρ' a' w' q1 (q2.trans f.symm) q3 q4
  ·rw[bV (show ¬(k:Int)<(l.length:Int) by omega)] at V J;refine wp_seq (wp_cond_false V (wp_exit ?_));refine hQ t v b ρ1 a1 w1 hc ?_ hi (J.less (bEk _ _ _ _ _));rw[show l.length-k=0 by omega];rfl
theorem outer (G:jC iU w0) (hN:∀x,N x->x<w0.heap.size) (O:l.length<=100):∀(n i:Nat) (t:List Bool×zzI) (v:Value) (b:Nat) (ρ:Vm.Own) (a:Act) (w:World),l.length<n+i->i<=t.2.length->jM l t->
  QS N w0 l t.1 (xQ v) v b (t.2.drop i) ρ a w->(∀S V Z ρ' a' w',jM l (aAZ l n i t)->QS N w0 l (aAZ l n i t).1 (xQ S) S V Z ρ' a' w'->Qx (.exit 0) a' w')->Code.rounds prog qLB Qx n a w:=by
 intro n
 induction n with
 |zero=>
  intro i t v b ρ a w h1 h2 L;have:=L.le;omega
 |succ n ih=>
  intro i t v b ρ a w h1 h2 L hS I;rw[rounds_succ]
  suffices f:(Code.seq (.seq qR4 (.cond (.tmp 17) .skip (.exit 0))) (.block 1 (.seq (cF qB1) (.seq (cF (cS qB1)) (.seq qR7 (.block 2 (.loop qIB))))))).wp prog (Exit.then (Code.rounds prog qLB Qx n) Qx) a w by
   rw[<- bJT] at f;exact f
  refine wp_seq (wp_seq (bJ1 hS fun a1 u J=>?_));unfold aAZ at I
  by_cases hi:i<t.2.length
  ·rw[bN hi,QX] at I;rw[bN (by rw[KZ];omega)] at u;refine wp_cond_true u (wp_skip ?_);obtain⟨g1,g2⟩:=L.get hi;obtain⟨r,hr⟩:∃r:Nat,t.2.getD i default=r:=⟨(t.2.getD i default).toNat,XY⟩;rw[mX t.2 i hi,hr] at J;rw[hr] at I g2;refine wp_block (wp_seq (bJY J fun a2 hS2=>wp_seq (bJV hS2 fun v3 a3 hS3=>wp_seq ?_)));refine hS3.vm (mc:=mQ [4,5,24,25]) (cur:=1) (Pq:=fun m' ex'=>m'=t.1/\ex'=xI v3 r l.length ((0:Nat):Int)) G ?_ ?_
   ·rw[e7];exact⟨_,_,rfl,rfl,rfl⟩
   rintro _ _ ρ4 a4 w4 ⟨rfl,rfl⟩ hS4
   refine wp_block (wp_loop_rounds (l.length+1) ?_);refine inner G hN O (i:=i) (r:=r) (l.length+1) 0 t v3 b ρ4 a4 w4 XY XY L hi XY hS4 fun t' S V ρ' a' w' q1 q2 q3 q4=>?_
   show Code.rounds prog qLB Qx n a' w';have e:t'=aCD l r t:=by
    rw[q2];unfold aCD;rw[List.range_eq_range',Nat.sub_zero]
   subst e;rw[QV] at I;exact ih (i+1) _ S V ρ' a' w' XY q3 q1 q4 I
  ·rw[bV hi,QJ] at I;rw[bV (by rw[KZ];omega)] at u;refine wp_cond_false u (wp_exit ?_);exact I v b _ ρ a1 w L J
end
end
end Go.Proofs.YtjjbojomlfgjlaaGreatDoor
namespace Go.Proofs.YtjjbojomlfgjlaaGreatDoor
open Go.Proofs.Tryz
open Go.Vm Go.RowKit
set_option linter.unusedVariables false
set_option maxRecDepth 100000
noncomputable section
def mT:Nat->Nat->Nat->Canon UU:=fun o b r=>cond (Nat.beq b 4) ⟨[2,52,53,54],[],[(.tmp 52,61,.bool)],[],[]⟩ ⟨[],[],[],[],[]⟩
def stT (m:List Bool) (i:Int):ASt UU:=⟨fun u=>cond (Nat.beq u 2) .any (cond (Nat.beq u 52) (.osl 61 0) (cond (Nat.beq u 53) (.int .i64 m.length) (cond (Nat.beq u 54) (.int .i64 i) .any))),fun u=>cond (Nat.beq u 61) (some (.row .bool 0 m)) none⟩
def bT (F n r:Nat) (m:List Bool) (i:Int) (Post:aC UU->Prop):Prop:=iter (cY (bM mT F 0 iU) iU f174.ntmps mT F 4 (cL (cB (cS (cF qTL))))) (mT 0 4) n r (stT m i) (bU 4 (dO (bM mT F 0 iU) iU f174.ntmps mT F 0 (cS qTL) (bJ iU false f174 Post)))
theorem stepT (F n r:Nat) (m:List Bool) (i:Int) (Post:aC UU->Prop):bT F (n+1) r m i Post=cond (decide (i<(m.length:Int))) ((0<=i/\i<(m.length:Int))/\cond (!(m.getD i.toNat default)) (Post (.bool false)) (bT F n (r+1) m (aB (i+1)) Post)) (Post (.bool true)):=XW
theorem bSE (F:Nat) (l:List aA) (m:List Bool) (v:Value) (Post:aC UU->Prop):exec iU f174.ntmps mT F 0 qTL (stQ l m (xQ v)) (bJ iU false f174 Post)=bT F F 0 m 0 Post:=XW
theorem bWE (l:List aA) (m:List Bool) (v:Value) (hm:m.length<=1000) (Post:aC UU->Prop) (h:Post (.bool (!(m.any fun x=>!x)))):exec iU f174.ntmps mT (m.length+1) 0 qTL (stQ l m (xQ v)) (bJ iU false f174 Post):=by
 rw[bSE];refine mH m (fun x=>!x) (Post (.bool false)) (Post (.bool true)) (fun n i=>∀r,bT (m.length+1) n r m i Post) (fun n i hi hx f r=>?_) (fun n hy r=>?_) (m.length+1) XY (fun q=>?_) (fun q=>?_) 0
 ·rw[stepT,bN (show (i:Int)<(m.length:Int) by omega),QX,QV,cO hi XY];refine⟨⟨XY,XY⟩,?_⟩;cases hb:!(m.getD i default) with
  |true=>exact hx hb
  |false=>exact f hb (r+1)
 ·rw[stepT,bV XY,QJ];exact hy
 ·rw[q] at h;exact h
 ·rw[q] at h;exact h
def bDe (N:Nat->Prop) (w0:World) (Post:aC UU->Prop) (a':Act) (w':World):Prop:=
 a'.defers=[]/\∃v,(results f174 a'.tmps).run prog w'=.ok v w'/\∃r,Post r/\mY EE w0.heap.size N w' r v/\Below w0.heap.size w0 w'
theorem bQr {N N':Nat->Prop} {w0:World} {Post:aC UU->Prop} {F:Fr} {e:AEx} {s':ASt UU} {ρ':Vm.Own} {a':Act} {w':World} (h:bJ iU false f174 Post e s') (G:RR EE 61 N' F ρ' s' a' w') (S:F.w0=w0) (J:F.ds=[]) (V:∀b,N b->N' b) (u:∀b,N b->b<w0.heap.size):
  (e=.normal\/e=.ret)/\bDe N w0 Post a' w':=by
 have L:RR EE 61 N F ρ' s' a' w':=G.bBS V;have f:∃r,result iU false f174 s'=some r/\Post r:=by
  cases f:result iU false f174 s' with
  |none=>exfalso;cases e<;>simp[bJ,f] at h
  |some r=>cases e<;>simp only[bJ,f] at h<;>exact⟨r,rfl,h⟩
 have he:e=.normal\/e=.ret:=by
  cases e with
  |normal=>exact .inl rfl
  |exit id=>exact h.elim
  |ret=>exact .inr rfl
 obtain⟨r,f,Z⟩:=f;obtain⟨v,h1,I⟩:=aMX (C:=iU) (w0:=F) (N:=N) L (fun b hb=>by
  unfold Fr.heap;rw[S];exact u b hb) f
 have O:=G.defers;rw[J] at O;have hb:=G.below;unfold Fr.heap at I hb;rw[S] at I hb;exact⟨he,O,v,h1,r,Z,I,hb⟩
theorem bT3 {l:List aA} {t:List Bool×zzI} (h:jM l t):(!(t.1.any fun x=>!x))=((t.2.length:Int)==(l.length:Int)):=by
 rw[Bool.eq_iff_iff,h.cnt,<- h.len];simp only[JF,XQ,KI,Int.natCast_inj];rw[List.count_eq_length];constructor
 ·intro q x hx;have:=q x hx;cases x with
  |true=>rfl
  |false=>simp at this
 ·intro q x hx;simp[<- q x hx]
theorem bJ4 {N:Nat->Prop} {w0:World} {l:List aA} {m:List Bool} {ρ:Vm.Own} {a:Act} {w:World} {Q:Exit->Act->World->Prop} (L:∀x,N x->x<w0.heap.size) (I:RR EE 61 N (Fr.pure w0) ρ (stQ l m fun _=>.any) a w)
  (J:∀v b a' w',QS N w0 l m (xQ v) v b [0] ρ a' w'->Q .normal a' w'):(cF (cS (cS (cS cq)))).wp prog Q a w:=by
 rw[bJ6];refine wp_region (zR ?_);rw[bJ5];refine mD (d:=14) XW XW (bBU (x:=.const (.int .i64 0)) XW rfl) ?_;have u:=QS.start L I 0;have r:=u.got (d:=14) (by decide) (.slice (some ⟨w.heap.size,0,none⟩) 1 1);have f:=u.free (d:=14) (by decide) rfl (.slice (some ⟨w.heap.size,0,none⟩) 1 1);generalize a.put (some 14) (.slice (some ⟨w.heap.size,0,none⟩) 1 1)=O at r f;refine mD (d:=4) XW XW (aJb (x:=.tmp 14) XW) ?_;rw[r];exact J _ _ _ _ (f.put (d:=4) (ex':=xQ (.slice (some ⟨w.heap.size,0,none⟩) 1 1)) (by decide) (fun st=>.raw _) rfl fun t G=>by simp only[stQ,xQ,iX G,QJ])
theorem bT2 {l:List aA} (h1:1<=l.length) (h2:l.length<=100) {N:Nat->Prop} {w:World} {args:Array Value} (hi:iU.inv w) (Z:∀b,N b->b<w.heap.size) (G:aAr EE w N [.sl .rect l] args):
  Calls prog 174 args w fun e w'=>∃v,e=.returned v/\mY EE w.heap.size N w' (.bool (nX l)) v/\Below w.heap.size w w':=by
 have f:jC iU w:=aRK.at hi;refine calls_of_wp (c:=cq) func174 XW ?_;have L:args.size=1:=G.1;have hR:RR EE f174.ntmps N (Fr.pure w) cW (dD [.sl .rect l]) {tmps:=args++Array.replicate (f174.ntmps-args.size) undef,defers:=[]} w:=by
  refine⟨rfl,by rw[Array.size_append,Array.size_replicate,L];rfl,fun t=>?_,(fun id ob ho=>by cases ho),(fun id g u I=>by cases I),(fun _ _ _ _ _ _ _ I=>by cases I),Below.refl _ _,fun b hb=>.inl (Z b hb),⟨JX _,fun b hb=>hb.elim⟩,(fun _ _ _ _ I=>by cases I),(fun _ _ h=>by cases h),by decide⟩;exact aJQ (fun _=>rfl) (by show 1<=61;decide) (by decide) L (fun k hk=>(G.2 k hk).mono (fun b hb=>⟨⟨hb.1,hb.2,fun _ _ _ I=>by cases I⟩,rfl⟩) (fun _ _ _ I=>by cases I)) t
 refine(show ∀{Q:Exit->Act->World->Prop},(∀e,(e=.normal\/e=.ret)->∀a' w',bDe N w (fun r=>r=.bool (nX l)) a' w'->Q e a' w')->cq.wp prog Q {tmps:=args++Array.replicate (f174.ntmps-args.size) undef,defers:=[]} w from fun {Q} hQ=>?_) ?_
 ·rw[bTX];have h0:exq 0 (cF cq) (dD [.sl .rect l]) (ksq 0 (cF (cS cq)) (ksq 0 (cF (cS (cS cq))) (pY (mQ []) (fun s'=>s'=stQ l ((List.replicate l.length false).set 0 true) fun _=>.any) KF))):=by
   rw[e0];exact⟨⟨XY,rfl,XY⟩,⟨XY,by simp;omega⟩,by rw[QV]⟩
  refine aMS (F:=Fr.pure w) f (fun _=>rfl) hR h0 (fun e s' he h=>by cases e<;>first|exact he rfl|exact h) fun s1 ρ1 a1 w1 h1' hR1=>?_
  refine aMS (F:=Fr.pure w) f (fun _=>rfl) hR1 h1' bBj fun s2 ρ2 a2 w2 h2' hR2=>?_
  refine wp_seq (aMT (F:=Fr.pure w) f (fun _=>rfl) hR2 h2' fun s3 ρ3 a3 w3 hK hR3=>?_);subst hK;refine wp_seq (bJ4 Z hR3 fun v b a4 w4 hS4=>wp_seq (wp_block (wp_loop_rounds (l.length+1) ?_)));refine outer f Z h2 (l.length+1) 0 ((List.replicate l.length false).set 0 true,[0]) v b ρ3 a4 w4 XY XY (jM.start h1) hS4 fun v' b' xs' ρ' a' w' hc hS=>?_
  show qTL.wp prog Q a' w';obtain⟨we,hlt,hle,hR'⟩:=hS.rr;have S:=bT3 hc;refine aCf (C:=iU) (w0:=FQ w we b' hlt hle) f mixed (fun _ _ _ _ _ h=>by cases h) qTL 0 _ _ ρ' a' w' Q (bWE l _ v' (by rw[hc.len];omega) (fun r=>r=.bool (nX l)) (by rw[S];rfl)) hR' (fun e s' ρ'' O J hK V=>?_);obtain⟨q1,q2⟩:=bQr hK V rfl rfl (fun _ h=>.inl h) Z;rcases q1 with rfl|rfl
  ·exact hQ .normal (.inl rfl) O J q2
  ·exact hQ .ret (.inr rfl) O J q2
 ·rintro e (rfl|rfl) a' w' ⟨hd,v,h1,r,rfl,h2,h3⟩
  ·exact⟨hd,v,h1,v,rfl,h2,h3⟩
  ·exact⟨hd,v,h1,v,rfl,h2,h3⟩
def aUP:Model UU
 |[.sl .rect l]=>some ([1<=l.length/\l.length<=100],.bool (nX l))
 |_=>none
def tS:Cfg UU:=iU.add 174 aUP
theorem bHv:aW tS:=by
 refine aRK.put ⟨fun f w=>kQ (fn:=f174) func174 XW rfl f w,?_⟩;intro N w f xs L r G J u hm I;unfold aUP at hm;split at hm
 ·rename_i l;cases hm;exact bT2 I.1 I.2 G J u
 ·cases hm
set_option maxRecDepth 100000
def aJe (F:Nat):=cY (bM tG F 0 tS) tS Tryz.f122.ntmps tG F
def aM2 (F:Nat):=dO (bM tG F 0 tS) tS Tryz.f122.ntmps tG F
def aON (k:ASt UU->Prop):aAb:=(fun I G u r f J L O S aD Z V=>k ⟨tmL [(1,.ptr 1 0),(3,.int .i64 I),(4,.int .i64 G),(80,.sl .rect u),(81,.int .i64 r),(82,.int .i64 f)],obL [(1,.cells [.str J,.str L,.int .i64 O,.int .i64 S,.sl .rect aD,.sl .rect Z,.sl .rect V])]⟩)
def aJF (k:ASt UU->Prop):zF:=(fun u r f G I J L V S O=>k ⟨tmL [(1,.ptr 1 0),(2,.any),(102,.sl .rect u),(103,.int .i64 r),(104,.int .i64 f)],obL [(1,.cells [.str G,.str I,.int .i64 J,.int .i64 L,.sl .rect V,.sl .rect S,.sl .rect O])]⟩)
def aOM (k:ASt UU->Prop):aLd:=(fun G u r f I J L O Z V S=>k ⟨tmL [(1,.ptr 1 0),(2,.int .i64 G),(102,.sl .rect u),(103,.int .i64 r),(104,.int .i64 f)],obL [(1,.cells [.str I,.str J,.int .i64 L,.int .i64 O,.sl .rect Z,.sl .rect V,.sl .rect S])]⟩)
def aOL (k:ASt UU->Prop):zE:=(fun J I G u r f Z aI aH aG aD aE aF L O S V=>k ⟨tmL [(1,.ptr 1 0),(2,.any),(8,.ptr 8 0),(102,.sl .rect J),(103,.int .i64 I),(104,.int .i64 G),(112,.sl .rect u),(113,.int .i64 r),(114,.int .i64 f)],obL [(1,.cells [.str Z,.str aI,.int .i64 aH,.int .i64 aG,.sl .rect aD,.sl .rect aE,.sl .rect aF]),(8,.cells [.int .i64 L,.int .i64 O,.int .i64 S,.int .i64 V])]⟩)
def aWJ (k:ASt UU->Prop):aPr:=(fun L J I G u r f aJ aI aH aG aD aE aF O S V Z=>k ⟨tmL [(1,.ptr 1 0),(2,.int .i64 L),(8,.ptr 8 0),(102,.sl .rect J),(103,.int .i64 I),(104,.int .i64 G),(112,.sl .rect u),(113,.int .i64 r),(114,.int .i64 f)],obL [(1,.cells [.str aJ,.str aI,.int .i64 aH,.int .i64 aG,.sl .rect aD,.sl .rect aE,.sl .rect aF]),(8,.cells [.int .i64 O,.int .i64 S,.int .i64 V,.int .i64 Z])]⟩)
def bUY:=(cL (cB (cS (cF (cS (cS (cS (bo Tryz.f122))))))))
def aJz:=(cL (cB (cS (cF (cS4 (cS (bo Tryz.f122)))))))
def bUX:=(cL (cB (cS (cS (cB (cF (cS (cS aJz))))))))
def aKh (F:Nat) (K:zK) (n r:Nat):aAb:=aON fun s=>iter (aJe F 1 bUY) (tG 0 1) n r s K
def aFl (F:Nat) (K:zK) (n r:Nat):zF:=aJF fun s=>iter (aJe F 3 aJz) (tG 0 3) n r s K
def aKg (F:Nat) (K:zK) (n r:Nat):zE:=aOL fun s=>iter (aJe F 5 bUX) (tG 0 5) n r s K
def aWw (F:Nat) (Post:aC UU->Prop):zK:=bU 1 (aM2 F 0 (cS4 (bo Tryz.f122)) (bJ tS false Tryz.f122 Post))
def aWv (F:Nat) (Post:aC UU->Prop):zK:=bU 3 (aM2 F 0 (cS4 (cS (cS (bo Tryz.f122)))) (bJ tS false Tryz.f122 Post))
def aWu (F n r:Nat) (K:zK):zK:=bU 5 (bU 4 (aM2 F 3 (cS (cS (cS aJz))) (kN (aJe F 3 aJz) (tG 0 3) n r K)))
theorem aUw (F:Nat) (K:zK):∀n r,aKg F K n r=aG3 F (aWJ (K .ret)) (aOL (K (.exit 5))) n
 |0,_=>XW
 |n+1,r=>QY (b:=aZS (aKg F K n (r+1)) (aWJ (K .ret)) (aOL (K (.exit 5)))) XW (by rewrite[aUw F K n (r+1)];kernel_rfl)
theorem bMT (F n r:Nat) (K:zK):aKg F (aWu F n r K) F 0=aNT F (aFl F K n (r+1)) (aJF (K (.exit 3))) (aOM (K .ret)):=
 (aUw F _ F 0).trans XW
theorem aUx (F:Nat) (K:zK):∀n r,aFl F K n r=aB8 F (aJF (K (.exit 3))) (aOM (K .ret)) n
 |0,_=>XW
 |n+1,r=>QY (b:=aZT (aFl F K n (r+1)) (aJF (K (.exit 3))) (aOM (K .ret)) (aKg F (aWu F n r K) F 0)) XW (by rewrite[bMT F n r K,aUx F K n (r+1)];kernel_rfl)
theorem bMU (F:Nat) (Post:aC UU->Prop):aFl F (aWv F Post) F 0=aIQ F (fun f=>Post (.int .i64 f)):=
 (aUx F _ F 0).trans XW
theorem aUy (F:Nat) (K:zK):∀n r,aKh F K n r=aDN F (aON (K (.exit 1))) n
 |0,_=>XW
 |n+1,r=>QY (b:=aZU (aKh F K n (r+1)) (aON (K (.exit 1)))) XW (by rewrite[aUy F K n (r+1)];kernel_rfl)
theorem bMV (F:Nat) (Post:aC UU->Prop):aKh F (aWw F Post) F 0=aNU F (fun f=>Post (.int .i64 f)):=
 (aUy F _ F 0).trans (QY (b:=aDN F (aOx (fun f=>Post (.int .i64 f)) (aFl F (aWv F Post) F 0)) F) XW (by rewrite[bMU F Post];kernel_rfl))
theorem bRP (F:Nat) (Post:aC UU->Prop) (L J:ByteArray) (I G:Int) (O u r:List aA):exec tS Tryz.f122.ntmps tG F 0 (bo Tryz.f122) (dD [.agg [.str L,.str J,.int .i64 I,.int .i64 G,.sl .rect O,.sl .rect u,.sl .rect r]]) (bJ tS false Tryz.f122 Post)=aLr F L J I G O u r (fun f=>Post (.int .i64 f)):=
 QY (b:=aOw L J I G O u r (fun f=>Post (.int .i64 f)) (aKh F (aWw F Post) F 0)) XW (by rewrite[bMV F Post];kernel_rfl)
def aSd:Model UU
 |[.agg [.str J,.str I,.int .i64 G,.int .i64 u,.sl .rect L,.sl .rect r,.sl .rect f]]=>some ([aHi J I G u L r f],.int .i64 (aD7 J I G u L r f))
 |_=>none
def tN:Cfg UU:=tS.add 122 aSd
theorem bGS:aW tN:=cV bHv mixed func122 XW XW fun xs V r h S=>by
 unfold aSd at h;split at h
 ·rename_i L J I G O u f;cases h;obtain⟨F,hF⟩:=bKu L J I G O u f S;exact⟨XW,tG,F,false,⟨by rw[bRP];exact hF _ rfl⟩⟩
 ·cases h
set_option maxRecDepth 100000
def bB6 (F:Nat):=cY (bM zN F 0 tN) tN f56.ntmps zN F
def aR4 (F:Nat):=dO (bM zN F 0 tN) tN f56.ntmps zN F
def aE6 (k:ASt UU->Prop):aA9:=(fun G u r f I J L O Z V S=>k ⟨tmL [(1,.ptr 1 0),(2,.int .i64 G),(10,.sl .rect u),(11,.int .i64 r),(12,.int .i64 f)],obL [(1,.cells [.str I,.str J,.int .i64 L,.int .i64 O,.sl .rect Z,.sl .rect V,.sl .rect S])]⟩)
def aOJ (k:ASt UU->Prop):aA8:=(fun I G u r f J L O S aD Z V=>k ⟨tmL [(1,.ptr 1 0),(5,.int .i64 I),(6,.int .i64 G),(37,.sl .rect u),(38,.int .i64 r),(39,.int .i64 f)],obL [(1,.cells [.str J,.str L,.int .i64 O,.int .i64 S,.sl .rect aD,.sl .rect Z,.sl .rect V])]⟩)
def bUT:=(cL (cB (cS (cF (cS (bo f56))))))
def bUS:=(cL (cB (cS (cF (cS4 (bo f56))))))
def aKc (F:Nat) (K:zK) (n r:Nat):aA9:=aE6 fun s=>iter (bB6 F 0 bUT) (zN 0 0) n r s K
def aKb (F:Nat) (K:zK) (n r:Nat):aA8:=aOJ fun s=>iter (bB6 F 2 bUS) (zN 0 2) n r s K
def aWp (F:Nat) (Post:aC UU->Prop):zK:=bU 0 (aR4 F 0 (cS (cS (bo f56))) (bJ tN false f56 Post))
def aWo (F:Nat) (Post:aC UU->Prop):zK:=bU 2 (aR4 F 0 (cS4 (cS (bo f56))) (bJ tN false f56 Post))
theorem aUq (F:Nat) (K:zK):∀n r,aKb F K n r=aG0 F (aOJ (K (.exit 2))) n
 |0,_=>XW
 |n+1,r=>QY (b:=aZE (aKb F K n (r+1)) (aOJ (K (.exit 2)))) XW (by rewrite[aUq F K n (r+1)];kernel_rfl)
theorem bMN (F:Nat) (Post:aC UU->Prop):aKb F (aWo F Post) F 0=aNR F (fun f=>Post (.int .i64 f)):=
 (aUq F _ F 0).trans XW
theorem aUr (F:Nat) (K:zK):∀n r,aKc F K n r=aDL F (aE6 (K .ret)) (aE6 (K (.exit 0))) n
 |0,_=>XW
 |n+1,r=>QY (b:=aZF (aKc F K n (r+1)) (aE6 (K .ret)) (aE6 (K (.exit 0)))) XW (by rewrite[aUr F K n (r+1)];kernel_rfl)
theorem bMO (F:Nat) (Post:aC UU->Prop):aKc F (aWp F Post) F 0=aIO F (fun f=>Post (.int .i64 f)):=
 (aUr F _ F 0).trans (QY (b:=aDL F (aZI (fun f=>Post (.int .i64 f))) (aZH (fun f=>Post (.int .i64 f)) (aKb F (aWo F Post) F 0)) F) XW (by rewrite[bMN F Post];kernel_rfl))
theorem bRK (F:Nat) (Post:aC UU->Prop) (L J:ByteArray) (I G:Int) (O u r:List aA):exec tN f56.ntmps zN F 0 (bo f56) (dD [.agg [.str L,.str J,.int .i64 I,.int .i64 G,.sl .rect O,.sl .rect u,.sl .rect r]]) (bJ tN false f56 Post)=aQO F L J I G O u r (fun f=>Post (.int .i64 f)):=
 QY (b:=aZG L J I G O u r (fun f=>Post (.int .i64 f)) (aKc F (aWp F Post) F 0)) XW (by rewrite[bMO F Post];kernel_rfl)
def aS9:Model UU
 |[.agg [.str J,.str I,.int .i64 G,.int .i64 u,.sl .rect L,.sl .rect r,.sl .rect f]]=>some ([aMk J I G u L r f],.int .i64 (k7 J I G u L r f))
 |_=>none
def sB:Cfg UU:=tN.add 56 aS9
theorem bGO:aW sB:=cV bGS mixed func56 XW XW fun xs V r h S=>by
 unfold aS9 at h;split at h
 ·rename_i L J I G O u f;cases h;obtain⟨F,hF⟩:=bKq L J I G O u f S;exact⟨XW,zN,F,false,⟨by rw[bRK];exact hF _ rfl⟩⟩
 ·cases h
set_option maxRecDepth 100000
def vA (F:Nat):=cY (bM oC F 0 sB) sB Tryz.f26.ntmps oC F
def aCH (F:Nat):=dO (bM oC F 0 sB) sB Tryz.f26.ntmps oC F
def aEq (k:ASt UU->Prop):oA:=(fun G u r f L O S V aD aE Z I J=>k ⟨tmL [(1,.ptr 1 0),(2,.int .i64 G),(29,.sl .pc u),(30,.int .i64 r),(31,.int .i64 f)],obL [(1,.cells [.str L,.str O,.int .i64 S,.int .i64 V,.int .i64 aD,.int .i64 aE,.sl .rect Z,.sl .rect I,.sl .pc J])]⟩)
def aAK (k:ASt UU->Prop):zI:=(fun G u r f Z aI aH aG aD aE aF S V O L J I=>k ⟨tmL [(1,.ptr 1 0),(2,.int .i64 G),(7,.ptr 7 0),(49,.sl .pc u),(50,.int .i64 r),(51,.int .i64 f)],obL [(1,.cells [.str Z,.str aI,.int .i64 aH,.int .i64 aG,.int .i64 aD,.int .i64 aE,.sl .rect aF,.sl .rect S,.sl .pc V]),(7,.cells [.int .i64 O,.int .i64 L,.int .i64 J,.int .i64 I])]⟩)
def aEp (k:ASt UU->Prop):aAl:=(fun L J I G u r f aJ aI aH aG aD aE aF aS aM Z V S O=>k ⟨tmL [(1,.ptr 1 0),(2,.int .i64 L),(7,.ptr 7 0),(49,.sl .pc J),(50,.int .i64 I),(51,.int .i64 G),(56,.sl .rect u),(57,.int .i64 r),(58,.int .i64 f)],obL [(1,.cells [.str aJ,.str aI,.int .i64 aH,.int .i64 aG,.int .i64 aD,.int .i64 aE,.sl .rect aF,.sl .rect aS,.sl .pc aM]),(7,.cells [.int .i64 Z,.int .i64 V,.int .i64 S,.int .i64 O])]⟩)
def aAJ (k:ASt UU->Prop):oA:=(fun G u r f L O S V aD aE Z I J=>k ⟨tmL [(1,.ptr 1 0),(2,.int .i64 G),(83,.sl .pc u),(84,.int .i64 r),(85,.int .i64 f)],obL [(1,.cells [.str L,.str O,.int .i64 S,.int .i64 V,.int .i64 aD,.int .i64 aE,.sl .rect Z,.sl .rect I,.sl .pc J])]⟩)
def aAI (k:ASt UU->Prop):zH:=(fun L J I G u r f aJ aI aH aG aD aE aF aS aM O S V Z nM oY oX=>k ⟨tmL [(1,.ptr 1 0),(2,.int .i64 L),(13,.ptr 13 0),(83,.sl .pc J),(84,.int .i64 I),(85,.int .i64 G),(93,.sl .pc u),(94,.int .i64 r),(95,.int .i64 f)],obL [(1,.cells [.str aJ,.str aI,.int .i64 aH,.int .i64 aG,.int .i64 aD,.int .i64 aE,.sl .rect aF,.sl .rect aS,.sl .pc aM]),(13,.cells [.str O,.str S,.int .i64 V,.int .i64 Z,.sl .rect nM,.sl .rect oY,.sl .rect oX])]⟩)
def aEo (k:ASt UU->Prop):aAk:=(fun t2 S O L J I G u r f aJ aI aH aG aD aE aF aS aM pC pB pA oZ nM oY oX V Z aF4 aF3 aAY aF2 aF1=>k ⟨tmL [(1,.ptr 1 0),(2,.int .i64 t2),(13,.ptr 13 0),(15,.ptr 15 0),(83,.sl .pc S),(84,.int .i64 O),(85,.int .i64 L),(93,.sl .pc J),(94,.int .i64 I),(95,.int .i64 G),(100,.sl .rect u),(101,.int .i64 r),(102,.int .i64 f)],obL [(1,.cells [.str aJ,.str aI,.int .i64 aH,.int .i64 aG,.int .i64 aD,.int .i64 aE,.sl .rect aF,.sl .rect aS,.sl .pc aM]),(13,.cells [.str pC,.str pB,.int .i64 pA,.int .i64 oZ,.sl .rect nM,.sl .rect oY,.sl .rect oX]),(15,.cells [.str V,.str Z,.int .i64 aF4,.int .i64 aF3,.sl .rect aAY,.sl .rect aF2,.sl .rect aF1])]⟩)
def bVB:=(cL (cB (cS (cF (cS (cS (cS (bo Tryz.f26))))))))
def aKG:=(cL (cB (cS (cF (cS4 (cS (bo Tryz.f26)))))))
def bVA:=(cL (cB (cS (cS (cB (cF (cS (cS aKG))))))))
def aKF:=(cL (cB (cS (cF (cS4 (cS (cS (bo Tryz.f26))))))))
def aKE:=(cL (cB (cS (cS (cB (cF (cS (cS aKF))))))))
def bUz:=(cL (cB (cS (cS (cB (cF (cS (cS aKE))))))))
def aLS (F:Nat) (K:zK) (n r:Nat):oA:=aEq fun s=>iter (vA F 0 bVB) (oC 0 0) n r s K
def aFu (F:Nat) (K:zK) (n r:Nat):zI:=aAK fun s=>iter (vA F 2 aKG) (oC 0 2) n r s K
def aLR (F:Nat) (K:zK) (n r:Nat):aAl:=aEp fun s=>iter (vA F 4 bVA) (oC 0 4) n r s K
def aFt (F:Nat) (K:zK) (n r:Nat):oA:=aAJ fun s=>iter (vA F 6 aKF) (oC 0 6) n r s K
def aFs (F:Nat) (K:zK) (n r:Nat):zH:=aAI fun s=>iter (vA F 8 aKE) (oC 0 8) n r s K
def aLQ (F:Nat) (K:zK) (n r:Nat):aAk:=aEo fun s=>iter (vA F 10 bUz) (oC 0 10) n r s K
def aXe (F:Nat) (Post:aC UU->Prop):zK:=bU 0 (aCH F 0 (cS4 (bo Tryz.f26)) (bJ sB false Tryz.f26 Post))
def aXd (F:Nat) (Post:aC UU->Prop):zK:=bU 2 (aCH F 0 (cS4 (cS (cS (bo Tryz.f26)))) (bJ sB false Tryz.f26 Post))
def aXc (F n r:Nat) (K:zK):zK:=bU 4 (bU 3 (aCH F 2 (cS (cS (cS aKG))) (kN (vA F 2 aKG) (oC 0 2) n r K)))
def aXb (F:Nat) (Post:aC UU->Prop):zK:=bU 6 (aCH F 0 (cS4 (cS (cS (cS (bo Tryz.f26))))) (bJ sB false Tryz.f26 Post))
def aXa (F n r:Nat) (K:zK):zK:=bU 8 (bU 7 (aCH F 6 (cS (cS (cS aKF))) (kN (vA F 6 aKF) (oC 0 6) n r K)))
def aX9 (F n r:Nat) (K:zK):zK:=bU 10 (bU 9 (aCH F 8 (cS (cS (cS aKE))) (kN (vA F 8 aKE) (oC 0 8) n r K)))
theorem aVg (F:Nat) (K:zK):∀n r,aLR F K n r=aGv F (aEp (K .ret)) (aEp (K (.exit 4))) n
 |0,_=>XW
 |n+1,r=>QY (b:=bAb (aLR F K n (r+1)) (aEp (K .ret)) (aEp (K (.exit 4)))) XW (by rewrite[aVg F K n (r+1)];kernel_rfl)
theorem bNB (F n r:Nat) (K:zK):aLR F (aXc F n r K) F 0=aN7 F (aFu F K n (r+1)) (aAK (K (.exit 2))) (aAK (K .ret)):=
 (aVg F _ F 0).trans XW
theorem aVd (F:Nat) (K:zK):∀n r,aLQ F K n r=aGu F (aEo (K .ret)) (aEo (K (.exit 10))) n
 |0,_=>XW
 |n+1,r=>QY (b:=bA8 (aLQ F K n (r+1)) (aEo (K .ret)) (aEo (K (.exit 10)))) XW (by rewrite[aVd F K n (r+1)];kernel_rfl)
theorem bMy (F n r:Nat) (K:zK):aLQ F (aX9 F n r K) F 0=aN5 F (aFs F K n (r+1)) (aAI (K (.exit 8))) (aAI (K .ret)):=
 (aVd F _ F 0).trans XW
theorem aVe (F:Nat) (K:zK):∀n r,aFs F K n r=b8 F (aAI (K (.exit 8))) (aAI (K .ret)) n
 |0,_=>XW
 |n+1,r=>QY (b:=bA9 (aFs F K n (r+1)) (aAI (K (.exit 8))) (aAI (K .ret)) (aLQ F (aX9 F n r K) F 0)) XW (by rewrite[bMy F n r K,aVe F K n (r+1)];kernel_rfl)
theorem bMz (F n r:Nat) (K:zK):aFs F (aXa F n r K) F 0=aN6 F (aFt F K n (r+1)) (aAJ (K (.exit 6))) (aAJ (K .ret)):=
 (aVe F _ F 0).trans XW
theorem aVf (F:Nat) (K:zK):∀n r,aFt F K n r=b9 F (aAJ (K (.exit 6))) (aAJ (K .ret)) n
 |0,_=>XW
 |n+1,r=>QY (b:=bAa (aFt F K n (r+1)) (aAJ (K (.exit 6))) (aAJ (K .ret)) (aFs F (aXa F n r K) F 0)) XW (by rewrite[bMz F n r K,aVf F K n (r+1)];kernel_rfl)
theorem bNA (F:Nat) (Post:aC UU->Prop):aFt F (aXb F Post) F 0=yK F (fun f=>Post (.int .i64 f)):=
 (aVf F _ F 0).trans XW
theorem aVh (F:Nat) (K:zK):∀n r,aFu F K n r=xG F (aAK (K (.exit 2))) (aAK (K .ret)) n
 |0,_=>XW
 |n+1,r=>QY (b:=bAc (aFu F K n (r+1)) (aAK (K (.exit 2))) (aAK (K .ret)) (aLR F (aXc F n r K) F 0)) XW (by rewrite[bNB F n r K,aVh F K n (r+1)];kernel_rfl)
theorem bNC (F:Nat) (Post:aC UU->Prop):aFu F (aXd F Post) F 0=aCX F (fun f=>Post (.int .i64 f)):=
 (aVh F _ F 0).trans (QY (b:=xG F (aJ0 (fun f=>Post (.int .i64 f)) (aFt F (aXb F Post) F 0)) (aJZ (fun f=>Post (.int .i64 f))) F) XW (by rewrite[bNA F Post];kernel_rfl))
theorem aVi (F:Nat) (K:zK):∀n r,aLS F K n r=aDY F (aEq (K .ret)) (aEq (K (.exit 0))) n
 |0,_=>XW
 |n+1,r=>QY (b:=bAd (aLS F K n (r+1)) (aEq (K .ret)) (aEq (K (.exit 0)))) XW (by rewrite[aVi F K n (r+1)];kernel_rfl)
theorem bND (F:Nat) (Post:aC UU->Prop):aLS F (aXe F Post) F 0=aN8 F (fun f=>Post (.int .i64 f)):=
 (aVi F _ F 0).trans (QY (b:=aDY F (aPH (fun f=>Post (.int .i64 f))) (aPG (fun f=>Post (.int .i64 f)) (aFu F (aXd F Post) F 0)) F) XW (by rewrite[bNC F Post];kernel_rfl))
theorem bRj (F:Nat) (Post:aC UU->Prop) (S O:ByteArray) (L J I G:Int) (u r:List aA) (f:List Pce):exec sB Tryz.f26.ntmps oC F 0 (bo Tryz.f26) (dD [.agg [.str S,.str O,.int .i64 L,.int .i64 J,.int .i64 I,.int .i64 G,.sl .rect u,.sl .rect r,.sl .pc f]]) (bJ sB false Tryz.f26 Post)=aLv F S O L J I G u r f (fun V=>Post (.int .i64 V)):=
 QY (b:=aPF S O L J I G u r f (fun V=>Post (.int .i64 V)) (aLS F (aXe F Post) F 0)) XW (by rewrite[bND F Post];kernel_rfl)
def aTH:Model UU
 |[.agg [.str S,.str O,.int .i64 L,.int .i64 J,.int .i64 I,.int .i64 G,.sl .rect u,.sl .rect r,.sl .pc f]]=>some ([aHn S O L J I G u r f],.int .i64 (jK S O L J I G u r f))
 |_=>none
def wF:Cfg UU:=sB.add 26 aTH
theorem bGl:aW wF:=cV bGO mixed func26 XW XW fun xs cs r h Z=>by
 unfold aTH at h;split at h
 ·rename_i V S O L J I G u f;cases h;obtain⟨F,hF⟩:=bLY V S O L J I G u f Z;exact⟨XW,oC,F,false,⟨by rw[bRj];exact hF _ rfl⟩⟩
 ·cases h
set_option maxRecDepth 100000
def bSr (F:Nat):=cY (bM aBS F 0 wF) wF f136.ntmps aBS F
def bJG (F:Nat):=dO (bM aBS F 0 wF) wF f136.ntmps aBS F
def aO7 (k:ASt UU->Prop):aAh:=(fun G u r f=>k ⟨tmL [(0,.sl .rect G),(4,.int .i64 u),(5,.int .i64 r),(6,.int .i64 f)],obL []⟩)
def bUs:=(cL (cB (cS (cF (cS (cS (bo f136)))))))
def aLJ (F:Nat) (K:zK) (n r:Nat):aAh:=aO7 fun s=>iter (bSr F 0 bUs) (aBS 0 0) n r s K
def aX2 (F:Nat) (Post:aC UU->Prop):zK:=bU 0 (bJG F 0 (cS (cS (cS (bo f136)))) (bJ wF false f136 Post))
theorem aV6 (F:Nat) (K:zK):∀n r,aLJ F K n r=aGo F (aO7 (K (.exit 0))) n
 |0,_=>XW
 |n+1,r=>QY (b:=bAT (aLJ F K n (r+1)) (aO7 (K (.exit 0)))) XW (by rewrite[aV6 F K n (r+1)];kernel_rfl)
theorem bMr (F:Nat) (Post:aC UU->Prop):aLJ F (aX2 F Post) F 0=aN3 F (fun r f=>Post (.tup [.int .i64 r,.int .i64 f])):=
 (aV6 F _ F 0).trans XW
theorem bRd (F:Nat) (Post:aC UU->Prop) (u:List aA):exec wF f136.ntmps aBS F 0 (bo f136) (dD [.sl .rect u]) (bJ wF false f136 Post)=aQd F u (fun r f=>Post (.tup [.int .i64 r,.int .i64 f])):=
 QY (b:=bAU u (fun r f=>Post (.tup [.int .i64 r,.int .i64 f])) (aLJ F (aX2 F Post) F 0)) XW (by rewrite[bMr F Post];kernel_rfl)
def aTB:Model UU
 |[.sl .rect f]=>some ([aMr f],.tup [.int .i64 ((aBo f).1),.int .i64 ((aBo f).2)])
 |_=>none
def wC:Cfg UU:=wF.add 136 aTB
theorem bGf:aW wC:=cV bGl mixed func136 XW XW fun xs G r h f=>by
 unfold aTB at h;split at h
 ·rename_i u;cases h;obtain⟨F,hF⟩:=bLS u f;exact⟨XW,aBS,F,false,⟨by rw[bRd];exact hF _ rfl⟩⟩
 ·cases h
def bSi (F:Nat):=cY (bM aBJ F 0 wC) wC f138.ntmps aBJ F
def bIx (F:Nat):=dO (bM aBJ F 0 wC) wC f138.ntmps aBJ F
def aEc (k:ASt UU->Prop):aAd:=(fun u r f J L G I=>k ⟨tmL [(1,.sl .rect u),(2,.ptr 2 0),(4,.bool r),(5,.int .i64 f)],obL [(2,.cells [.int .i64 J,.int .i64 L,.int .i64 G,.int .i64 I])]⟩)
def bUc:=(cL (cB (cS (cF (cS (bo f138))))))
def aKu (F:Nat) (K:zK) (n r:Nat):aAd:=aEc fun s=>iter (bSi F 0 bUc) (aBJ 0 0) n r s K
def aXM (F:Nat) (Post:aC UU->Prop):zK:=bU 0 (bIx F 0 (cS (cS (bo f138))) (bJ wC false f138 Post))
theorem aVP (F:Nat) (K:zK):∀n r,aKu F K n r=aGd F (aEc (K .ret)) (aEc (K (.exit 0))) n
 |0,_=>XW
 |n+1,r=>QY (b:=aZn (aKu F K n (r+1)) (aEc (K .ret)) (aEc (K (.exit 0)))) XW (by rewrite[aVP F K n (r+1)];kernel_rfl)
theorem bMb (F:Nat) (Post:aC UU->Prop):aKu F (aXM F Post) F 0=aIZ F (fun f=>Post (.bool f)):=
 (aVP F _ F 0).trans XW
theorem bRZ (F:Nat) (Post:aC UU->Prop) (G I r u:Int) (J:List aA):exec wC f138.ntmps aBJ F 0 (bo f138) (dD [.agg [.int .i64 G,.int .i64 I,.int .i64 r,.int .i64 u],.sl .rect J]) (bJ wC false f138 Post)=aQ1 F G I r u J (fun f=>Post (.bool f)):=
 QY (b:=aZo G I r u J (fun f=>Post (.bool f)) (aKu F (aXM F Post) F 0)) XW (by rewrite[bMb F Post];kernel_rfl)
def aSn:Model UU
 |[.agg [.int .i64 u,.int .i64 G,.int .i64 f,.int .i64 r],.sl .rect I]=>some ([aMm u G f r I],.bool (aHO u G f r I))
 |_=>none
def vV:Cfg UU:=wC.add 138 aSn
theorem bG2:aW vV:=cV bGf mixed func138 XW XW fun xs O r h f=>by
 unfold aSn at h;split at h
 ·rename_i I J u G L;cases h;obtain⟨F,hF⟩:=bLE I J u G L f;exact⟨XW,aBJ,F,false,⟨by rw[bRZ];exact hF _ rfl⟩⟩
 ·cases h
def bSs (F:Nat):=cY (bM aBT F 0 vV) vV f69.ntmps aBT F
def bJH (F:Nat):=dO (bM aBT F 0 vV) vV f69.ntmps aBT F
def aEm (k:ASt UU->Prop):aAi:=(fun u r f J L G I=>k ⟨tmL [(1,.sl .rect u),(2,.ptr 2 0),(4,.bool r),(5,.int .i64 f)],obL [(2,.cells [.int .i64 J,.int .i64 L,.int .i64 G,.int .i64 I])]⟩)
def bUv:=(cL (cB (cS (cF (cS (bo f69))))))
def aLM (F:Nat) (K:zK) (n r:Nat):aAi:=aEm fun s=>iter (bSs F 0 bUv) (aBT 0 0) n r s K
def aX5 (F:Nat) (Post:aC UU->Prop):zK:=bU 0 (bJH F 0 (cS (cS (bo f69))) (bJ vV false f69 Post))
theorem aV9 (F:Nat) (K:zK):∀n r,aLM F K n r=aGq F (aEm (K .ret)) (aEm (K (.exit 0))) n
 |0,_=>XW
 |n+1,r=>QY (b:=bA0 (aLM F K n (r+1)) (aEm (K .ret)) (aEm (K (.exit 0)))) XW (by rewrite[aV9 F K n (r+1)];kernel_rfl)
theorem bMu (F:Nat) (Post:aC UU->Prop):aLM F (aX5 F Post) F 0=aIa F (fun f=>Post (.bool f)):=
 (aV9 F _ F 0).trans XW
theorem bRf (F:Nat) (Post:aC UU->Prop) (G I r u:Int) (J:List aA):exec vV f69.ntmps aBT F 0 (bo f69) (dD [.agg [.int .i64 G,.int .i64 I,.int .i64 r,.int .i64 u],.sl .rect J]) (bJ vV false f69 Post)=aQf F G I r u J (fun f=>Post (.bool f)):=
 QY (b:=bA1 G I r u J (fun f=>Post (.bool f)) (aLM F (aX5 F Post) F 0)) XW (by rewrite[bMu F Post];kernel_rfl)
def aTD:Model UU
 |[.agg [.int .i64 u,.int .i64 G,.int .i64 f,.int .i64 r],.sl .rect I]=>some ([aCN u G f r I],.bool (xS u G f r I))
 |_=>none
def wD:Cfg UU:=vV.add 69 aTD
theorem bGh:aW wD:=cV bG2 mixed func69 XW XW fun xs O r h f=>by
 unfold aTD at h;split at h
 ·rename_i I J u G L;cases h;obtain⟨F,hF⟩:=bLU I J u G L f;exact⟨XW,aBT,F,false,⟨by rw[bRf];exact hF _ rfl⟩⟩
 ·cases h
def aPY (F:Nat):=cY (bM vE F 0 wD) wD f137.ntmps vE F
def aR5 (F:Nat):=dO (bM vE F 0 wD) wD f137.ntmps vE F
def aJE (k:ASt UU->Prop):zD:=(fun r f G u=>k ⟨tmL [(0,.sl .rect r),(3,.osl 56 0),(4,.osl 57 0),(5,.int .i64 f)],obL [(56,.row .bool 0 G),(57,.row .int 0 u)]⟩)
def aOK (k:ASt UU->Prop):aAa:=(fun u r f I G=>k ⟨tmL [(0,.sl .rect u),(3,.osl 56 0),(4,.osl 57 0),(5,.int .i64 r),(6,.int .i64 f)],obL [(56,.row .bool 0 I),(57,.row .int 0 G)]⟩)
def aJy:=(cL (cB (cS (cF (cS4 (bo f137))))))
def bUV:=(cL (cB (cS (cB (cF (cS aJy))))))
def aFk (F:Nat) (K:zK) (n r:Nat):zD:=aJE fun s=>iter (aPY F 0 aJy) (vE 0 0) n r s K
def aKe (F:Nat) (K:zK) (n r:Nat):aAa:=aOK fun s=>iter (aPY F 2 bUV) (vE 0 2) n r s K
def aWs (F:Nat) (Post:aC UU->Prop):zK:=bU 0 (aR5 F 0 (cS4 (cS (bo f137))) (bJ wD false f137 Post))
def aWr (F n r:Nat) (K:zK):zK:=bU 2 (bU 1 (aR5 F 0 (cS (cS aJy)) (kN (aPY F 0 aJy) (vE 0 0) n r K)))
theorem aUt (F:Nat) (K:zK):∀n r,aKe F K n r=aG2 F (aOK (K (.exit 2))) n
 |0,_=>XW
 |n+1,r=>QY (b:=aZL (aKe F K n (r+1)) (aOK (K (.exit 2)))) XW (by rewrite[aUt F K n (r+1)];kernel_rfl)
theorem bMQ (F n r:Nat) (K:zK):aKe F (aWr F n r K) F 0=aNS F (aFk F K n (r+1)) (aJE (K (.exit 0))):=
 (aUt F _ F 0).trans XW
theorem aUu (F:Nat) (K:zK):∀n r,aFk F K n r=aB7 F (aJE (K (.exit 0))) n
 |0,_=>XW
 |n+1,r=>QY (b:=aZM (aFk F K n (r+1)) (aJE (K (.exit 0))) (aKe F (aWr F n r K) F 0)) XW (by rewrite[bMQ F n r K,aUu F K n (r+1)];kernel_rfl)
theorem bMR (F:Nat) (Post:aC UU->Prop):aFk F (aWs F Post) F 0=aSC F (fun f=>Post (.bool f)):=
 (aUu F _ F 0).trans XW
theorem bRM (F:Nat) (Post:aC UU->Prop) (r:List aA):exec wD f137.ntmps vE F 0 (bo f137) (dD [.sl .rect r]) (bJ wD false f137 Post)=aQQ F r (fun f=>Post (.bool f)):=
 QY (b:=aZN r (fun f=>Post (.bool f)) (aFk F (aWs F Post) F 0)) XW (by rewrite[bMR F Post];kernel_rfl)
def aSb:Model UU
 |[.sl .rect f]=>some ([aMl f],.bool (aHL f))
 |_=>none
def vR:Cfg UU:=wD.add 137 aSb
theorem bGQ:aW vR:=cV bGh mixed func137 XW XW fun xs G r h f=>by
 unfold aSb at h;split at h
 ·rename_i u;cases h;obtain⟨F,hF⟩:=bKs u f;exact⟨XW,vE,F,false,⟨by rw[bRM];exact hF _ rfl⟩⟩
 ·cases h
def bSt (F:Nat):=cY (bM aBU F 0 vR) vR f182.ntmps aBU F
def bJI (F:Nat):=dO (bM aBU F 0 vR) vR f182.ntmps aBU F
def aO8 (k:ASt UU->Prop):aAj:=(fun I G u r f J=>k ⟨tmL [(0,.sl .rect I),(1,.int .i64 G),(2,.int .i64 u),(7,.osl 60 0),(8,.int .i64 r),(9,.int .i64 f)],obL [(60,.row .rect 0 J)]⟩)
def bUw:=(cL (cB (cS (cF (cS (cS (cS (bo f182))))))))
def aLN (F:Nat) (K:zK) (n r:Nat):aAj:=aO8 fun s=>iter (bSt F 0 bUw) (aBU 0 0) n r s K
def aX6 (F:Nat) (Post:aC UU->Prop):zK:=bU 0 (bJI F 0 (cS4 (bo f182)) (bJ vR true f182 Post))
theorem aVa (F:Nat) (K:zK):∀n r,aLN F K n r=aGr F (aO8 (K (.exit 0))) n
 |0,_=>XW
 |n+1,r=>QY (b:=bA2 (aLN F K n (r+1)) (aO8 (K (.exit 0)))) XW (by rewrite[aVa F K n (r+1)];kernel_rfl)
theorem bMv (F:Nat) (Post:aC UU->Prop):aLN F (aX6 F Post) F 0=aIb F (fun f=>Post (.new .rect f)):=
 (aVa F _ F 0).trans XW
theorem bRg (F:Nat) (Post:aC UU->Prop) (G:List aA) (u r:Int):exec vR f182.ntmps aBU F 0 (bo f182) (dD [.sl .rect G,.int .i64 u,.int .i64 r]) (bJ vR true f182 Post)=aQg F G u r (fun f=>Post (.new .rect f)):=
 QY (b:=bA3 G u r (fun f=>Post (.new .rect f)) (aLN F (aX6 F Post) F 0)) XW (by rewrite[bMv F Post];kernel_rfl)
def aTE:Model UU
 |[.sl .rect u,.int .i64 r,.int .i64 f]=>some ([yC u r f],.new .rect (xU u r f))
 |_=>none
def bDt:Cfg UU:=vR.add 182 aTE
theorem bGi:aW bDt:=cV bGQ mixed func182 XW XW fun xs J r h f=>by
 unfold aTE at h;split at h
 ·rename_i I G u;cases h;obtain⟨F,hF⟩:=bLV I G u f;exact⟨XW,aBU,F,true,⟨by rw[bRg];exact hF _ rfl⟩⟩
 ·cases h
set_option maxRecDepth 100000
def aT1:Model UU
 |[.agg [.str J,.str I,.int .i64 G,.int .i64 u,.sl .rect L,.sl .rect r,.sl .rect f],.int .i64 S,.int .i64 O]=>some ([aHo J I G u L r f S O],.agg [.str ((jW J I G u L r f S O).1),.str ((jW J I G u L r f S O).2.1),.int .i64 ((jW J I G u L r f S O).2.2.1),.int .i64 ((jW J I G u L r f S O).2.2.2.1),.sl .rect ((jW J I G u L r f S O).2.2.2.2.1),.sl .rect ((jW J I G u L r f S O).2.2.2.2.2.1),.sl .rect ((jW J I G u L r f S O).2.2.2.2.2.2)])
 |_=>none
def sE:Cfg UU:=bDt.add 135 aT1
theorem bHH:aW sE:=cV bGi mixed func135 XW XW fun xs cs r h hc=>by
 unfold aT1 at h;split at h
 ·rename_i V S O L J I G u f;cases h;refine⟨XW,M0,0,false,⟨kF (fun Q:ByteArray->ByteArray->Int->Int->(List aA)->(List aA)->(List aA)->Prop=>((yC J u f)/\((yC I u f)/\((yC G u f)/\Q V S O L (xU J u f) (xU I u f) (xU G u f))))) (fun Q=>Q ((jW V S O L J I G u f).1) ((jW V S O L J I G u f).2.1) ((jW V S O L J I G u f).2.2.1) ((jW V S O L J I G u f).2.2.2.1) ((jW V S O L J I G u f).2.2.2.2.1) ((jW V S O L J I G u f).2.2.2.2.2.1) ((jW V S O L J I G u f).2.2.2.2.2.2)) (fun p9 q7 q9 q8 p8 s5 s4=>(.agg [.str p9,.str q7,.int .i64 q9,.int .i64 q8,.sl .rect p8,.sl .rect s5,.sl .rect s4]:aC UU)=.agg [.str ((jW V S O L J I G u f).1),.str ((jW V S O L J I G u f).2.1),.int .i64 ((jW V S O L J I G u f).2.2.1),.int .i64 ((jW V S O L J I G u f).2.2.2.1),.sl .rect ((jW V S O L J I G u f).2.2.2.2.1),.sl .rect ((jW V S O L J I G u f).2.2.2.2.2.1),.sl .rect ((jW V S O L J I G u f).2.2.2.2.2.2)]) XW (fun Q h=>?_) rfl⟩⟩
  try dsimp only at h ⊢
  unfold jW at h;have hp:aHo V S O L J I G u f:=hc;unfold aHo at hp;obtain⟨hJ,hp⟩:=hp;refine⟨hJ,?_⟩;obtain⟨Z,hp⟩:=hp;refine⟨Z,?_⟩;have uW:=hp;refine⟨uW,?_⟩;exact h
 ·cases h
set_option maxRecDepth 100000
def aFU (F:Nat):=cY (bM rZ F 0 sE) sE f67.ntmps rZ F
def aHe (F:Nat):=dO (bM rZ F 0 sE) sE f67.ntmps rZ F
def aEu (k:ASt UU->Prop):aAo:=(fun r f u G I J S O L=>k ⟨tmL [(1,.ptr 1 0),(2,.int .i64 r),(6,.int .i64 f)],obL [(1,.cells [.str u,.str G,.int .i64 I,.int .i64 J,.sl .rect S,.sl .rect O,.sl .rect L])]⟩)
def aEt (k:ASt UU->Prop):aAn:=(fun r f G I J L V S O u=>k ⟨tmL [(1,.ptr 1 0),(2,.int .i64 r),(7,.osl 159 0),(8,.int .i64 f)],obL [(159,.row .rect 0 u),(1,.cells [.str G,.str I,.int .i64 J,.int .i64 L,.sl .rect V,.sl .rect S,.sl .rect O])]⟩)
def aAL (k:ASt UU->Prop):Int->Int->List aA->Prop:=(fun r f u=>k ⟨tmL [(2,.int .i64 r),(7,.osl 159 0),(9,.int .i64 f)],obL [(159,.row .rect 0 u)]⟩)
def aEs (k:ASt UU->Prop):aAm:=(fun u r f G=>k ⟨tmL [(2,.int .i64 u),(7,.osl 159 0),(9,.int .i64 r),(10,.int .i64 f)],obL [(159,.row .rect 0 G)]⟩)
def bVF:=(cL (cB (cS (cF (cS4 (cS (cS (cS (bo f67)))))))))
def bVE:=(cL (cB (cS (cF (cS4 (cS4 (cS (cS (bo f67)))))))))
def aKH:=(cL (cB (cS (cF (cS4 (cS4 (cS (cS (cS (bo f67))))))))))
def bVD:=(cL (cB (cS (cB (cF (cS aKH))))))
def aLW (F:Nat) (K:zK) (n r:Nat):aAo:=aEu fun s=>iter (aFU F 0 bVF) (rZ 0 0) n r s K
def aLV (F:Nat) (K:zK) (n r:Nat):aAn:=aEt fun s=>iter (aFU F 2 bVE) (rZ 0 2) n r s K
def aFv (F:Nat) (K:zK) (n r:Nat):Int->Int->List aA->Prop:=aAL fun s=>iter (aFU F 4 aKH) (rZ 0 4) n r s K
def aLU (F:Nat) (K:zK) (n r:Nat):aAm:=aEs fun s=>iter (aFU F 6 bVD) (rZ 0 6) n r s K
def aXj (F:Nat) (Post:aC UU->Prop):zK:=bU 0 (aHe F 0 (cS4 (cS4 (bo f67))) (bJ sE false f67 Post))
def aXi (F:Nat) (Post:aC UU->Prop):zK:=bU 2 (aHe F 0 (cS4 (cS4 (cS (cS (cS (bo f67)))))) (bJ sE false f67 Post))
def aXh (F:Nat) (Post:aC UU->Prop):zK:=bU 4 (aHe F 0 (cS4 (cS4 (cS4 (bo f67)))) (bJ sE false f67 Post))
def aXg (F n r:Nat) (K:zK):zK:=bU 6 (bU 5 (aHe F 4 (cS (cS aKH)) (kN (aFU F 4 aKH) (rZ 0 4) n r K)))
theorem aVk (F:Nat) (K:zK):∀n r,aLU F K n r=aGx F (aEs (K .ret)) (aEs (K (.exit 6))) n
 |0,_=>XW
 |n+1,r=>QY (b:=bAg (aLU F K n (r+1)) (aEs (K .ret)) (aEs (K (.exit 6)))) XW (by rewrite[aVk F K n (r+1)];kernel_rfl)
theorem bNF (F n r:Nat) (K:zK):aLU F (aXg F n r K) F 0=aN9 F (aFv F K n (r+1)) (aAL (K (.exit 4))) (aAL (K .ret)):=
 (aVk F _ F 0).trans XW
theorem aVl (F:Nat) (K:zK):∀n r,aFv F K n r=j0 F (aAL (K (.exit 4))) (aAL (K .ret)) n
 |0,_=>XW
 |n+1,r=>QY (b:=bAh (aFv F K n (r+1)) (aAL (K (.exit 4))) (aAL (K .ret)) (aLU F (aXg F n r K) F 0)) XW (by rewrite[bNF F n r K,aVl F K n (r+1)];kernel_rfl)
theorem bNG (F:Nat) (Post:aC UU->Prop):aFv F (aXh F Post) F 0=aEO F (fun f=>Post (.int .i64 f)):=
 (aVl F _ F 0).trans XW
theorem aVm (F:Nat) (K:zK):∀n r,aLV F K n r=aDZ F (aEt (K .ret)) (aEt (K (.exit 2))) n
 |0,_=>XW
 |n+1,r=>QY (b:=bAi (aLV F K n (r+1)) (aEt (K .ret)) (aEt (K (.exit 2)))) XW (by rewrite[aVm F K n (r+1)];kernel_rfl)
theorem bNH (F:Nat) (Post:aC UU->Prop):aLV F (aXi F Post) F 0=aIf F (fun f=>Post (.int .i64 f)):=
 (aVm F _ F 0).trans (QY (b:=aDZ F (aPK (fun f=>Post (.int .i64 f))) (aPJ (fun f=>Post (.int .i64 f)) (aFv F (aXh F Post) F 0)) F) XW (by rewrite[bNG F Post];kernel_rfl))
theorem aVn (F:Nat) (K:zK):∀n r,aLW F K n r=aD0 F (aEu (K .ret)) (aEu (K (.exit 0))) n
 |0,_=>XW
 |n+1,r=>QY (b:=bAj (aLW F K n (r+1)) (aEu (K .ret)) (aEu (K (.exit 0)))) XW (by rewrite[aVn F K n (r+1)];kernel_rfl)
theorem bNI (F:Nat) (Post:aC UU->Prop):aLW F (aXj F Post) F 0=aNa F (fun f=>Post (.int .i64 f)):=
 (aVn F _ F 0).trans (QY (b:=aD0 F (bAl (fun f=>Post (.int .i64 f))) (bAk (fun f=>Post (.int .i64 f)) (aLV F (aXi F Post) F 0)) F) XW (by rewrite[bNH F Post];kernel_rfl))
theorem bRl (F:Nat) (Post:aC UU->Prop) (L J:ByteArray) (I G:Int) (O u r:List aA):exec sE f67.ntmps rZ F 0 (bo f67) (dD [.agg [.str L,.str J,.int .i64 I,.int .i64 G,.sl .rect O,.sl .rect u,.sl .rect r]]) (bJ sE false f67 Post)=aLw F L J I G O u r (fun f=>Post (.int .i64 f)):=
 QY (b:=aPI L J I G O u r (fun f=>Post (.int .i64 f)) (aLW F (aXj F Post) F 0)) XW (by rewrite[bNI F Post];kernel_rfl)
def aTJ:Model UU
 |[.agg [.str J,.str I,.int .i64 G,.int .i64 u,.sl .rect L,.sl .rect r,.sl .rect f]]=>some ([aMs J I G u L r f],.int .i64 (aHR J I G u L r f))
 |_=>none
def wG:Cfg UU:=sE.add 67 aTJ
theorem bGn:aW wG:=cV bHH mixed func67 XW XW fun xs V r h S=>by
 unfold aTJ at h;split at h
 ·rename_i L J I G O u f;cases h;obtain⟨F,hF⟩:=bL0 L J I G O u f S;exact⟨XW,rZ,F,false,⟨by rw[bRl];exact hF _ rfl⟩⟩
 ·cases h
set_option maxRecDepth 100000
def bSl (F:Nat):=cY (bM aBM F 0 wG) wG f66.ntmps aBM F
def bJA (F:Nat):=dO (bM aBM F 0 wG) wG f66.ntmps aBM F
def aO3 (k:ASt UU->Prop):aAe:=(fun u r f O S V Z aD aE aF J L G I=>k ⟨tmL [(1,.ptr 1 0),(2,.ptr 2 0),(4,.int .i64 u),(5,.int .i64 r),(6,.int .i64 f)],obL [(1,.cells [.str O,.str S,.int .i64 V,.int .i64 Z,.sl .rect aD,.sl .rect aE,.sl .rect aF]),(2,.cells [.str J,.str L,.int .i64 G,.int .i64 I,.nils,.nils,.nils])]⟩)
def bUi:=(cL (cB (cS (cF (cS4 (bo f66))))))
def aKz (F:Nat) (K:zK) (n r:Nat):aAe:=aO3 fun s=>iter (bSl F 0 bUi) (aBM 0 0) n r s K
def aXR (F:Nat) (Post:aC UU->Prop):zK:=bU 0 (bJA F 0 (cS4 (cS (bo f66))) (bJ wG false f66 Post))
theorem aVV (F:Nat) (K:zK):∀n r,aKz F K n r=aGh F (aO3 (K (.exit 0))) n
 |0,_=>XW
 |n+1,r=>QY (b:=aZz (aKz F K n (r+1)) (aO3 (K (.exit 0)))) XW (by rewrite[aVV F K n (r+1)];kernel_rfl)
theorem bMg (F:Nat) (Post:aC UU->Prop):aKz F (aXR F Post) F 0=aN0 F (fun L J G I O f r u=>Post (.tup [.agg [.str L,.str J,.int .i64 G,.int .i64 I,.sl .rect O,.sl .rect f,.sl .rect r],.bool u])):=
 (aVV F _ F 0).trans XW
theorem bR4 (F:Nat) (Post:aC UU->Prop) (S O:ByteArray) (L J:Int) (V I G:List aA):exec wG f66.ntmps aBM F 0 (bo f66) (dD [.agg [.str S,.str O,.int .i64 L,.int .i64 J,.sl .rect V,.sl .rect I,.sl .rect G]]) (bJ wG false f66 Post)=aQ6 F S O L J V I G (fun p9 q7 Z q8 p8 f r u=>Post (.tup [.agg [.str p9,.str q7,.int .i64 Z,.int .i64 q8,.sl .rect p8,.sl .rect f,.sl .rect r],.bool u])):=
 QY (b:=bAA S O L J V I G (fun p9 q7 Z q8 p8 f r u=>Post (.tup [.agg [.str p9,.str q7,.int .i64 Z,.int .i64 q8,.sl .rect p8,.sl .rect f,.sl .rect r],.bool u])) (aKz F (aXR F Post) F 0)) XW (by rewrite[bMg F Post];kernel_rfl)
def aSs:Model UU
 |[.agg [.str J,.str I,.int .i64 G,.int .i64 u,.sl .rect L,.sl .rect r,.sl .rect f]]=>some ([aMo J I G u L r f],.tup [.agg [.str ((lH J I G u L r f).1),.str ((lH J I G u L r f).2.1),.int .i64 ((lH J I G u L r f).2.2.1),.int .i64 ((lH J I G u L r f).2.2.2.1),.sl .rect ((lH J I G u L r f).2.2.2.2.1),.sl .rect ((lH J I G u L r f).2.2.2.2.2.1),.sl .rect ((lH J I G u L r f).2.2.2.2.2.2.1)],.bool ((lH J I G u L r f).2.2.2.2.2.2.2)])
 |_=>none
def sC:Cfg UU:=wG.add 66 aSs
theorem bG7:aW sC:=cV bGn mixed func66 XW XW fun xs V r h S=>by
 unfold aSs at h;split at h
 ·rename_i L J I G O u f;cases h;obtain⟨F,hF⟩:=bLJ L J I G O u f S;exact⟨XW,aBM,F,false,⟨by rw[bR4];exact hF _ rfl⟩⟩
 ·cases h
set_option maxRecDepth 100000
def uZ (F:Nat):=cY (bM oB F 0 sC) sC f30.ntmps oB F
def aCG (F:Nat):=dO (bM oB F 0 sC) sC f30.ntmps oB F
def aE3 (k:ASt UU->Prop):nZ:=(fun r f I J L O Z V S u G=>k ⟨tmL [(1,.ptr 1 0),(2,.int .i64 r),(4,.int .i64 f)],obL [(1,.cells [.str I,.str J,.int .i64 L,.int .i64 O,.int .i64 Z,.int .i64 V,.sl .rect S,.sl .rect u,.sl .pc G])]⟩)
def aAF (k:ASt UU->Prop):zC:=(fun r f S V Z aG aD aE aF L O J I G u=>k ⟨tmL [(1,.ptr 1 0),(2,.int .i64 r),(7,.ptr 7 0),(8,.int .i64 f)],obL [(1,.cells [.str S,.str V,.int .i64 Z,.int .i64 aG,.int .i64 aD,.int .i64 aE,.sl .rect aF,.sl .rect L,.sl .pc O]),(7,.cells [.int .i64 J,.int .i64 I,.int .i64 G,.int .i64 u])]⟩)
def aE2 (k:ASt UU->Prop):aA7:=(fun G u r f Z aI aH aG aD aE aF S V O L J I=>k ⟨tmL [(1,.ptr 1 0),(2,.int .i64 G),(7,.ptr 7 0),(8,.int .i64 u),(9,.sl .rect r),(10,.int .i64 f)],obL [(1,.cells [.str Z,.str aI,.int .i64 aH,.int .i64 aG,.int .i64 aD,.int .i64 aE,.sl .rect aF,.sl .rect S,.sl .pc V]),(7,.cells [.int .i64 O,.int .i64 L,.int .i64 J,.int .i64 I])]⟩)
def aAE (k:ASt UU->Prop):nZ:=(fun r f I J L O Z V S u G=>k ⟨tmL [(1,.ptr 1 0),(2,.int .i64 r),(11,.int .i64 f)],obL [(1,.cells [.str I,.str J,.int .i64 L,.int .i64 O,.int .i64 Z,.int .i64 V,.sl .rect S,.sl .rect u,.sl .pc G])]⟩)
def aAD (k:ASt UU->Prop):zB:=(fun u r f J L O S aD Z V G I=>k ⟨tmL [(1,.ptr 1 0),(2,.int .i64 u),(11,.int .i64 r),(12,.int .i64 f)],obL [(1,.cells [.str J,.str L,.int .i64 O,.int .i64 S,.int .i64 aD,.int .i64 Z,.sl .rect V,.sl .rect G,.sl .pc I])]⟩)
def aE1 (k:ASt UU->Prop):aA6:=(fun G u r f L O S V aD aE Z I J=>k ⟨tmL [(1,.ptr 1 0),(2,.int .i64 G),(11,.int .i64 u),(12,.int .i64 r),(13,.int .i64 f)],obL [(1,.cells [.str L,.str O,.int .i64 S,.int .i64 V,.int .i64 aD,.int .i64 aE,.sl .rect Z,.sl .rect I,.sl .pc J])]⟩)
def bUM:=(cL (cB (cS (cF (cS4 (bo f30))))))
def aJw:=(cL (cB (cS (cF (cS4 (cS (cS (bo f30))))))))
def bUL:=(cL (cB (cS (cS (cB (cF (cS aJw)))))))
def aJv:=(cL (cB (cS (cF (cS4 (cS (cS (cS (bo f30)))))))))
def aJu:=(cL (cB (cS (cB (cF (cS aJv))))))
def bUK:=(cL (cB (cS (cB (cF (cS aJu))))))
def aK5 (F:Nat) (K:zK) (n r:Nat):nZ:=aE3 fun s=>iter (uZ F 0 bUM) (oB 0 0) n r s K
def aFh (F:Nat) (K:zK) (n r:Nat):zC:=aAF fun s=>iter (uZ F 2 aJw) (oB 0 2) n r s K
def aK4 (F:Nat) (K:zK) (n r:Nat):aA7:=aE2 fun s=>iter (uZ F 4 bUL) (oB 0 4) n r s K
def aFg (F:Nat) (K:zK) (n r:Nat):nZ:=aAE fun s=>iter (uZ F 6 aJv) (oB 0 6) n r s K
def aFf (F:Nat) (K:zK) (n r:Nat):zB:=aAD fun s=>iter (uZ F 8 aJu) (oB 0 8) n r s K
def aK3 (F:Nat) (K:zK) (n r:Nat):aA6:=aE1 fun s=>iter (uZ F 10 bUK) (oB 0 10) n r s K
def aWg (F:Nat) (Post:aC UU->Prop):zK:=bU 0 (aCG F 0 (cS4 (cS (bo f30))) (bJ sC false f30 Post))
def aWf (F:Nat) (Post:aC UU->Prop):zK:=bU 2 (aCG F 0 (cS4 (cS (cS (cS (bo f30))))) (bJ sC false f30 Post))
def aWe (F n r:Nat) (K:zK):zK:=bU 4 (bU 3 (aCG F 2 (cS (cS aJw)) (kN (uZ F 2 aJw) (oB 0 2) n r K)))
def aWd (F:Nat) (Post:aC UU->Prop):zK:=bU 6 (aCG F 0 (cS4 (cS4 (bo f30))) (bJ sC false f30 Post))
def aWc (F n r:Nat) (K:zK):zK:=bU 8 (bU 7 (aCG F 6 (cS (cS aJv)) (kN (uZ F 6 aJv) (oB 0 6) n r K)))
def aWb (F n r:Nat) (K:zK):zK:=bU 10 (bU 9 (aCG F 8 (cS (cS aJu)) (kN (uZ F 8 aJu) (oB 0 8) n r K)))
theorem aUg (F:Nat) (K:zK):∀n r,aK4 F K n r=aGW F (aE2 (K .ret)) (aE2 (K (.exit 4))) n
 |0,_=>XW
 |n+1,r=>QY (b:=aYs (aK4 F K n (r+1)) (aE2 (K .ret)) (aE2 (K (.exit 4)))) XW (by rewrite[aUg F K n (r+1)];kernel_rfl)
theorem bMD (F n r:Nat) (K:zK):aK4 F (aWe F n r K) F 0=aNL F (aFh F K n (r+1)) (aAF (K (.exit 2))) (aAF (K .ret)):=
 (aUg F _ F 0).trans XW
theorem aUd (F:Nat) (K:zK):∀n r,aK3 F K n r=aGV F (aE1 (K .ret)) (aE1 (K (.exit 10))) n
 |0,_=>XW
 |n+1,r=>QY (b:=aYp (aK3 F K n (r+1)) (aE1 (K .ret)) (aE1 (K (.exit 10)))) XW (by rewrite[aUd F K n (r+1)];kernel_rfl)
theorem bMA (F n r:Nat) (K:zK):aK3 F (aWb F n r K) F 0=aNJ F (aFf F K n (r+1)) (aAD (K (.exit 8))) (aAD (K .ret)):=
 (aUd F _ F 0).trans XW
theorem aUe (F:Nat) (K:zK):∀n r,aFf F K n r=zV F (aAD (K (.exit 8))) (aAD (K .ret)) n
 |0,_=>XW
 |n+1,r=>QY (b:=aYq (aFf F K n (r+1)) (aAD (K (.exit 8))) (aAD (K .ret)) (aK3 F (aWb F n r K) F 0)) XW (by rewrite[bMA F n r K,aUe F K n (r+1)];kernel_rfl)
theorem bMB (F n r:Nat) (K:zK):aFf F (aWc F n r K) F 0=aNK F (aFg F K n (r+1)) (aAE (K (.exit 6))) (aAE (K .ret)):=
 (aUe F _ F 0).trans XW
theorem aUf (F:Nat) (K:zK):∀n r,aFg F K n r=zW F (aAE (K (.exit 6))) (aAE (K .ret)) n
 |0,_=>XW
 |n+1,r=>QY (b:=aYr (aFg F K n (r+1)) (aAE (K (.exit 6))) (aAE (K .ret)) (aFf F (aWc F n r K) F 0)) XW (by rewrite[bMB F n r K,aUf F K n (r+1)];kernel_rfl)
theorem bMC (F:Nat) (Post:aC UU->Prop):aFg F (aWd F Post) F 0=yJ F (fun f=>Post (.int .i64 f)):=
 (aUf F _ F 0).trans XW
theorem aUh (F:Nat) (K:zK):∀n r,aFh F K n r=xD F (aAF (K (.exit 2))) (aAF (K .ret)) n
 |0,_=>XW
 |n+1,r=>QY (b:=aYt (aFh F K n (r+1)) (aAF (K (.exit 2))) (aAF (K .ret)) (aK4 F (aWe F n r K) F 0)) XW (by rewrite[bMD F n r K,aUh F K n (r+1)];kernel_rfl)
theorem bME (F:Nat) (Post:aC UU->Prop):aFh F (aWf F Post) F 0=aCW F (fun f=>Post (.int .i64 f)):=
 (aUh F _ F 0).trans (QY (b:=xD F (aJW (fun f=>Post (.int .i64 f)) (aFg F (aWd F Post) F 0)) (aJV (fun f=>Post (.int .i64 f))) F) XW (by rewrite[bMC F Post];kernel_rfl))
theorem aUi (F:Nat) (K:zK):∀n r,aK5 F K n r=aDJ F (aE3 (K .ret)) (aE3 (K (.exit 0))) n
 |0,_=>XW
 |n+1,r=>QY (b:=aYu (aK5 F K n (r+1)) (aE3 (K .ret)) (aE3 (K (.exit 0)))) XW (by rewrite[aUi F K n (r+1)];kernel_rfl)
theorem bMF (F:Nat) (Post:aC UU->Prop):aK5 F (aWg F Post) F 0=aNM F (fun f=>Post (.int .i64 f)):=
 (aUi F _ F 0).trans (QY (b:=aDJ F (aOu (fun f=>Post (.int .i64 f))) (aOt (fun f=>Post (.int .i64 f)) (aFh F (aWf F Post) F 0)) F) XW (by rewrite[bME F Post];kernel_rfl))
theorem bRF (F:Nat) (Post:aC UU->Prop) (S O:ByteArray) (L J I G:Int) (u r:List aA) (f:List Pce):exec sC f30.ntmps oB F 0 (bo f30) (dD [.agg [.str S,.str O,.int .i64 L,.int .i64 J,.int .i64 I,.int .i64 G,.sl .rect u,.sl .rect r,.sl .pc f]]) (bJ sC false f30 Post)=aLp F S O L J I G u r f (fun V=>Post (.int .i64 V)):=
 QY (b:=aOs S O L J I G u r f (fun V=>Post (.int .i64 V)) (aK5 F (aWg F Post) F 0)) XW (by rewrite[bMF F Post];kernel_rfl)
def aS4:Model UU
 |[.agg [.str S,.str O,.int .i64 L,.int .i64 J,.int .i64 I,.int .i64 G,.sl .rect u,.sl .rect r,.sl .pc f]]=>some ([aCK S O L J I G u r f],.int .i64 (mG S O L J I G u r f))
 |_=>none
def bDh:Cfg UU:=sC.add 30 aS4
theorem bGJ:aW bDh:=cV bG7 mixed func30 XW XW fun xs cs r h Z=>by
 unfold aS4 at h;split at h
 ·rename_i V S O L J I G u f;cases h;obtain⟨F,hF⟩:=bKl V S O L J I G u f Z;exact⟨XW,oB,F,false,⟨by rw[bRF];exact hF _ rfl⟩⟩
 ·cases h
set_option maxRecDepth 100000
def aT6:Model UU
 |[.int .i64 u,.int .i64 r,.int .i64 f]=>some ([],.agg [.int .i64 ((bO u r f).1),.int .i64 ((bO u r f).2.1),.int .i64 ((bO u r f).2.2.1),.int .i64 ((bO u r f).2.2.2.1),.int .i64 ((bO u r f).2.2.2.2.1),.int .i64 ((bO u r f).2.2.2.2.2)])
 |_=>none
def bEJ:Cfg UU:=bDh.add 14 aT6
theorem bHM:aW bEJ:=tin bGJ mixed func14 XW XW false fun xs f r h=>by
 unfold aT6 at h;split at h
 ·cases h;exact⟨XW,XW⟩
 ·cases h
def aT4:Model UU
 |[.agg [.int .i64 u,.int .i64 G,.int .i64 f,.int .i64 r],.int .i64 I]=>some ([],.tup [.int .i64 ((cK u G f r I).1),.int .i64 ((cK u G f r I).2)])
 |_=>none
def bEI:Cfg UU:=bEJ.add 39 aT4
theorem bHK:aW bEI:=cV bHM mixed func39 XW XW fun xs V r h S=>by
 unfold aT4 at h;split at h
 ·rename_i J G u f I;cases h;refine⟨XW,M0,0,false,⟨of_eq (q:=(fun Q:Int->Int->Prop=>cond (G==f) (Q (aB (u-I)) f) (Q u (aB (f-I)))) fun O L=>(.tup [.int .i64 O,.int .i64 L]:aC UU)=.tup [.int .i64 ((cK J G u f I).1),.int .i64 ((cK J G u f I).2)]) XW ?_⟩⟩;unfold cK;cases (G==f)<;>rfl
 ·cases h
def aT9:Model UU
 |[.agg [.int .i64 u,.int .i64 G,.int .i64 f,.int .i64 r]]=>some ([],.new .op (aHT u G f r))
 |_=>none
def bEM:Cfg UU:=bEI.add 15 aT9
theorem bHP:aW bEM:=tin bHK mixed func15 XW XW true fun xs f r h=>by
 unfold aT9 at h;split at h
 ·cases h;exact⟨XW,XW⟩
 ·cases h
def aTa:Model UU
 |[.agg [.int .i64 u,.int .i64 G,.int .i64 f,.int .i64 r],.bool I]=>some ([],.tup [.new .op ((rC u G f r I).1),.new .op ((rC u G f r I).2)])
 |_=>none
def bEN:Cfg UU:=bEM.add 16 aTa
theorem bHQ:aW bEN:=cV bHP mixed func16 XW XW fun xs cs r h Z=>by
 unfold aTa at h;split at h
 ·rename_i f u G I J;cases h;refine⟨XW,M0,0,true,⟨kF (fun Q:(List Opn)->(List Opn)->Prop=>cond J ((((2:Int)≠0)/\cond ((mi 720 (aB (Int.tdiv (aB ((aB ((aB (G-f))+I))-u)) 2)))==0) (Q ([(Opn.mk ((bO 1 f u).1) ((bO 1 f u).2.1) ((bO 1 f u).2.2.1) ((bO 1 f u).2.2.2.1) ((bO 1 f u).2.2.2.2.1) ((bO 1 f u).2.2.2.2.2)),(Opn.mk ((bO 2 ((cK f u G I (mi 720 (aB (Int.tdiv (aB ((aB ((aB (G-f))+I))-u)) 2)))).1) ((cK f u G I (mi 720 (aB (Int.tdiv (aB ((aB ((aB (G-f))+I))-u)) 2)))).2)).1) ((bO 2 ((cK f u G I (mi 720 (aB (Int.tdiv (aB ((aB ((aB (G-f))+I))-u)) 2)))).1) ((cK f u G I (mi 720 (aB (Int.tdiv (aB ((aB ((aB (G-f))+I))-u)) 2)))).2)).2.1) ((bO 2 ((cK f u G I (mi 720 (aB (Int.tdiv (aB ((aB ((aB (G-f))+I))-u)) 2)))).1) ((cK f u G I (mi 720 (aB (Int.tdiv (aB ((aB ((aB (G-f))+I))-u)) 2)))).2)).2.2.1) ((bO 2 ((cK f u G I (mi 720 (aB (Int.tdiv (aB ((aB ((aB (G-f))+I))-u)) 2)))).1) ((cK f u G I (mi 720 (aB (Int.tdiv (aB ((aB ((aB (G-f))+I))-u)) 2)))).2)).2.2.2.1) ((bO 2 ((cK f u G I (mi 720 (aB (Int.tdiv (aB ((aB ((aB (G-f))+I))-u)) 2)))).1) ((cK f u G I (mi 720 (aB (Int.tdiv (aB ((aB ((aB (G-f))+I))-u)) 2)))).2)).2.2.2.2.1) ((bO 2 ((cK f u G I (mi 720 (aB (Int.tdiv (aB ((aB ((aB (G-f))+I))-u)) 2)))).1) ((cK f u G I (mi 720 (aB (Int.tdiv (aB ((aB ((aB (G-f))+I))-u)) 2)))).2)).2.2.2.2.2))]) ([])) (Q ([(Opn.mk ((bO 1 f u).1) ((bO 1 f u).2.1) ((bO 1 f u).2.2.1) ((bO 1 f u).2.2.2.1) ((bO 1 f u).2.2.2.2.1) ((bO 1 f u).2.2.2.2.2)),(Opn.mk ((bO 2 ((cK f u G I (mi 720 (aB (Int.tdiv (aB ((aB ((aB (G-f))+I))-u)) 2)))).1) ((cK f u G I (mi 720 (aB (Int.tdiv (aB ((aB ((aB (G-f))+I))-u)) 2)))).2)).1) ((bO 2 ((cK f u G I (mi 720 (aB (Int.tdiv (aB ((aB ((aB (G-f))+I))-u)) 2)))).1) ((cK f u G I (mi 720 (aB (Int.tdiv (aB ((aB ((aB (G-f))+I))-u)) 2)))).2)).2.1) ((bO 2 ((cK f u G I (mi 720 (aB (Int.tdiv (aB ((aB ((aB (G-f))+I))-u)) 2)))).1) ((cK f u G I (mi 720 (aB (Int.tdiv (aB ((aB ((aB (G-f))+I))-u)) 2)))).2)).2.2.1) ((bO 2 ((cK f u G I (mi 720 (aB (Int.tdiv (aB ((aB ((aB (G-f))+I))-u)) 2)))).1) ((cK f u G I (mi 720 (aB (Int.tdiv (aB ((aB ((aB (G-f))+I))-u)) 2)))).2)).2.2.2.1) ((bO 2 ((cK f u G I (mi 720 (aB (Int.tdiv (aB ((aB ((aB (G-f))+I))-u)) 2)))).1) ((cK f u G I (mi 720 (aB (Int.tdiv (aB ((aB ((aB (G-f))+I))-u)) 2)))).2)).2.2.2.2.1) ((bO 2 ((cK f u G I (mi 720 (aB (Int.tdiv (aB ((aB ((aB (G-f))+I))-u)) 2)))).1) ((cK f u G I (mi 720 (aB (Int.tdiv (aB ((aB ((aB (G-f))+I))-u)) 2)))).2)).2.2.2.2.2))]) ([(Opn.mk ((bO 1 ((cK f u G I (mi 720 (aB (Int.tdiv (aB ((aB ((aB (G-f))+I))-u)) 2)))).1) ((cK f u G I (mi 720 (aB (Int.tdiv (aB ((aB ((aB (G-f))+I))-u)) 2)))).2)).1) ((bO 1 ((cK f u G I (mi 720 (aB (Int.tdiv (aB ((aB ((aB (G-f))+I))-u)) 2)))).1) ((cK f u G I (mi 720 (aB (Int.tdiv (aB ((aB ((aB (G-f))+I))-u)) 2)))).2)).2.1) ((bO 1 ((cK f u G I (mi 720 (aB (Int.tdiv (aB ((aB ((aB (G-f))+I))-u)) 2)))).1) ((cK f u G I (mi 720 (aB (Int.tdiv (aB ((aB ((aB (G-f))+I))-u)) 2)))).2)).2.2.1) ((bO 1 ((cK f u G I (mi 720 (aB (Int.tdiv (aB ((aB ((aB (G-f))+I))-u)) 2)))).1) ((cK f u G I (mi 720 (aB (Int.tdiv (aB ((aB ((aB (G-f))+I))-u)) 2)))).2)).2.2.2.1) ((bO 1 ((cK f u G I (mi 720 (aB (Int.tdiv (aB ((aB ((aB (G-f))+I))-u)) 2)))).1) ((cK f u G I (mi 720 (aB (Int.tdiv (aB ((aB ((aB (G-f))+I))-u)) 2)))).2)).2.2.2.2.1) ((bO 1 ((cK f u G I (mi 720 (aB (Int.tdiv (aB ((aB ((aB (G-f))+I))-u)) 2)))).1) ((cK f u G I (mi 720 (aB (Int.tdiv (aB ((aB ((aB (G-f))+I))-u)) 2)))).2)).2.2.2.2.2)),(Opn.mk ((bO 4 G I).1) ((bO 4 G I).2.1) ((bO 4 G I).2.2.1) ((bO 4 G I).2.2.2.1) ((bO 4 G I).2.2.2.2.1) ((bO 4 G I).2.2.2.2.2))])))) (Q ([(Opn.mk ((bO 1 f u).1) ((bO 1 f u).2.1) ((bO 1 f u).2.2.1) ((bO 1 f u).2.2.2.1) ((bO 1 f u).2.2.2.2.1) ((bO 1 f u).2.2.2.2.2)),(Opn.mk ((bO 2 ((cK f u G I 0).1) ((cK f u G I 0).2)).1) ((bO 2 ((cK f u G I 0).1) ((cK f u G I 0).2)).2.1) ((bO 2 ((cK f u G I 0).1) ((cK f u G I 0).2)).2.2.1) ((bO 2 ((cK f u G I 0).1) ((cK f u G I 0).2)).2.2.2.1) ((bO 2 ((cK f u G I 0).1) ((cK f u G I 0).2)).2.2.2.2.1) ((bO 2 ((cK f u G I 0).1) ((cK f u G I 0).2)).2.2.2.2.2))]) ([]))) (fun Q=>Q ((rC f u G I J).1) ((rC f u G I J).2)) (fun V S=>(.tup [.new .op V,.new .op S]:aC UU)=.tup [.new .op ((rC f u G I J).1),.new .op ((rC f u G I J).2)]) XW (fun Q h=>?_) rfl⟩⟩
  try dsimp only at h ⊢
  unfold rC at h;cases L:(J)
  ·try simp only[L,QJ] at h ⊢
   exact h
  ·try simp only[L,QX] at h ⊢
   refine⟨by decide,?_⟩;cases O:((mi 720 (aB (Int.tdiv (aB ((aB ((aB (G-f))+I))-u)) 2)))==0)
   ·try simp only[O,QJ] at h ⊢
    exact h
   ·try simp only[O,QX] at h ⊢
    exact h
 ·cases h
def aTz:Model UU
 |[.agg [.int .i64 G,.int .i64 u,.int .i64 r,.int .i64 f,.int .i64 I,.int .i64 J],.int .i64 L]=>some ([],.bool (aBv G u r f I J L))
 |_=>none
def bE8:Cfg UU:=bEN.add 94 aTz
theorem bHj:aW bE8:=tin bHQ mixed func94 XW XW false fun xs f r h=>by
 unfold aTz at h;split at h
 ·cases h;exact⟨XW,XW⟩
 ·cases h
def aUC:Model UU
 |[.agg [.int .i64 I,.int .i64 J],.agg [.int .i64 G,.int .i64 u,.int .i64 r,.int .i64 f]]=>some ([],.int .i64 (aMG I J G u r f))
 |_=>none
def bE9:Cfg UU:=bE8.add 153 aUC
theorem bHm:aW bE9:=tin bHj mixed func153 XW XW false fun xs f r h=>by
 unfold aUC at h;split at h
 ·cases h;exact⟨XW,XW⟩
 ·cases h
def aUD:Model UU
 |[.agg [.int .i64 u,.int .i64 G,.int .i64 f,.int .i64 r],.int .i64 J,.int .i64 I]=>some ([],.agg [.int .i64 ((gV u G f r J I).1),.int .i64 ((gV u G f r J I).2.1),.int .i64 ((gV u G f r J I).2.2.1),.int .i64 ((gV u G f r J I).2.2.2.1),.int .i64 ((gV u G f r J I).2.2.2.2.1),.int .i64 ((gV u G f r J I).2.2.2.2.2)])
 |_=>none
def bEa:Cfg UU:=bE9.add 150 aUD
theorem bHn:aW bEa:=cV bHm mixed func150 XW XW fun xs cs r h hc=>by
 unfold aUD at h;split at h
 ·rename_i J L G I u f;cases h;refine⟨XW,M0,0,false,⟨of_eq (q:=(fun Q:Int->Int->Int->Int->Int->Int->Prop=>cond ((decide (u<0))||((decide (0<=f))&&(decide (f<u)))) (Q J L G I f u) (Q J L G I u f)) fun V bIc Z bIb O S=>(.agg [.int .i64 V,.int .i64 bIc,.int .i64 Z,.int .i64 bIb,.int .i64 O,.int .i64 S]:aC UU)=.agg [.int .i64 ((gV J L G I u f).1),.int .i64 ((gV J L G I u f).2.1),.int .i64 ((gV J L G I u f).2.2.1),.int .i64 ((gV J L G I u f).2.2.2.1),.int .i64 ((gV J L G I u f).2.2.2.2.1),.int .i64 ((gV J L G I u f).2.2.2.2.2)]) XW ?_⟩⟩;unfold gV;cases (((decide (u<0))||((decide (0<=f))&&(decide (f<u)))))<;>rfl
 ·cases h
def aUA:Model UU
 |[.raw f]=>some ([nU f],.int .i64 (lR f))
 |_=>none
def wR:Cfg UU:=bEa.add 151 aUA
theorem bHk:aW wR:=cV bHn mixed func151 XW XW fun xs L r h I=>by
 unfold aUA at h;split at h
 ·rename_i f;cases h;refine⟨XW,M0,0,false,⟨kF (fun Q:Int->Prop=>((dP f)/\cond (iV f) (Q (aD3 f)) (Q (-1)))) (fun Q=>Q (lR f)) (fun G=>(.int .i64 G:aC UU)=.int .i64 (lR f)) XW (fun Q h=>?_) rfl⟩⟩
  try dsimp only at h ⊢
  unfold lR at h;have hp:nU f:=I;unfold nU at hp;have J:=hp;refine⟨J,?_⟩;cases u:(iV f)
  ·try simp only[u,QJ] at h ⊢
   exact h
  ·try simp only[u,QX] at h ⊢
   exact h
 ·cases h
set_option maxRecDepth 100000
def aPZ (F:Nat):=cY (bM vF F 0 wR) wR f85.ntmps vF F
def aR6 (F:Nat):=dO (bM vF F 0 wR) wR f85.ntmps vF F
abbrev bDA:=Int->Int->List Pce->Int->Int->Prop
def aJG (k:ASt UU->Prop):bDA:=(fun I G u r f=>k ⟨tmL [(1,.int .i64 I),(2,.int .i64 G),(6,.raw Value.nilIface),(12,.sl .pc u),(13,.int .i64 r),(14,.int .i64 f)],obL []⟩)
abbrev bWT:=Int->Int->Value->List Pce->Int->Int->Prop
def aOS (k:ASt UU->Prop):bWT:=(fun J I G u r f=>k ⟨tmL [(1,.int .i64 J),(2,.int .i64 I),(6,.raw G),(12,.sl .pc u),(13,.int .i64 r),(14,.int .i64 f)],obL []⟩)
abbrev bCz:=Int->Int->Int->List Pce->Int->Int->List aA->Int->Int->Prop
def aOR (k:ASt UU->Prop):bCz:=(fun S O L J I G u r f=>k ⟨tmL [(1,.int .i64 S),(2,.int .i64 O),(6,.raw Value.nilIface),(7,.int .i64 L),(12,.sl .pc J),(13,.int .i64 I),(14,.int .i64 G),(20,.sl .rect u),(21,.int .i64 r),(22,.int .i64 f)],obL []⟩)
abbrev bWS:=Int->Int->Value->Int->List Pce->Int->Int->List aA->Int->Int->Prop
def aWK (k:ASt UU->Prop):bWS:=(fun V S O L J I G u r f=>k ⟨tmL [(1,.int .i64 V),(2,.int .i64 S),(6,.raw O),(7,.int .i64 L),(12,.sl .pc J),(13,.int .i64 I),(14,.int .i64 G),(20,.sl .rect u),(21,.int .i64 r),(22,.int .i64 f)],obL []⟩)
def aKA:=(cL (cB (cS (cF (cS (bo f85))))))
def bU2:=(cL (cB (cS (cS (cB (cF (cS (cS aKA))))))))
def aFn (F:Nat) (K:zK) (n r:Nat):bDA:=aJG fun s=>iter (aPZ F 0 aKA) (vF 0 0) n r s K
def aKk (F:Nat) (K:zK) (n r:Nat):bCz:=aOR fun s=>iter (aPZ F 2 bU2) (vF 0 2) n r s K
def aXA (F:Nat) (Post:aC UU->Prop):zK:=bU 0 (aR6 F 0 (cS (cS (bo f85))) (bJ wR false f85 Post))
def aWz (F n r:Nat) (K:zK):zK:=bU 2 (bU 1 (aR6 F 0 (cS (cS (cS aKA))) (kN (aPZ F 0 aKA) (vF 0 0) n r K)))
theorem aVC (F:Nat) (K:zK):∀n r,aKk F K n r=aG5 F (aWK (K .ret)) (aOR (K (.exit 2))) n
 |0,_=>XW
 |n+1,r=>QY (b:=(fun V S O L J I G u f=>aZ1 (aKk F K n (r+1)) (aWK (K .ret)) (aOR (K (.exit 2))) V S O L J I G u f)) XW (by rewrite[aVC F K n (r+1)];kernel_rfl)
theorem bMY (F n r:Nat) (K:zK):aKk F (aWz F n r K) F 0=aNV F (aFn F K n (r+1)) (aJG (K (.exit 0))) (aOS (K .ret)):=
 (aVC F _ F 0).trans XW
theorem aVD (F:Nat) (K:zK):∀n r,aFn F K n r=zZ F (aJG (K (.exit 0))) (aOS (K .ret)) n
 |0,_=>XW
 |n+1,r=>QY (b:=(fun J I G u f=>aZ2 (aFn F K n (r+1)) (aJG (K (.exit 0))) (aOS (K .ret)) J I G u f (aKk F (aWz F n r K) F 0))) XW (by rewrite[bMY F n r K,aVD F K n (r+1)];kernel_rfl)
theorem bMZ (F:Nat) (Post:aC UU->Prop):aFn F (aXA F Post) F 0=aIS F (fun f=>Post (.raw f)):=
 (aVD F _ F 0).trans XW
theorem bRR (F:Nat) (Post:aC UU->Prop) (S O:ByteArray) (L J I G:Int) (u r:List aA) (f:List Pce) (a1 Z:Int):exec wR f85.ntmps vF F 0 (bo f85) (dD [.agg [.str S,.str O,.int .i64 L,.int .i64 J,.int .i64 I,.int .i64 G,.sl .rect u,.sl .rect r,.sl .pc f],.int .i64 a1,.int .i64 Z]) (bJ wR false f85 Post)=aQU F S O L J I G u r f a1 Z (fun V=>Post (.raw V)):=
 QY (b:=aZ3 S O L J I G u r f a1 Z (fun V=>Post (.raw V)) (aFn F (aXA F Post) F 0)) XW (by rewrite[bMZ F Post];kernel_rfl)
def aSf:Model UU
 |[.agg [.str S,.str O,.int .i64 L,.int .i64 J,.int .i64 I,.int .i64 G,.sl .rect u,.sl .rect r,.sl .pc f],.int .i64 Z,.int .i64 V]=>some ([sQ S O L J I G u r f Z V],.raw (rA S O L J I G u r f Z V))
 |_=>none
def bDl:Cfg UU:=wR.add 85 aSf
theorem bGU:aW bDl:=cV bHk mixed func85 XW XW fun xs cs r h Z=>by
 unfold aSf at h;split at h
 ·rename_i V S O L J I G u f a1 a2;cases h;obtain⟨F,hF⟩:=bKw V S O L J I G u f a1 a2 Z;exact⟨XW,vF,F,false,⟨by rw[bRR];exact hF _ rfl⟩⟩
 ·cases h
set_option maxRecDepth 100000
def aTx:Model UU
 |[.int .i64 r,.ref [.str V,.str S,.int .i64 O,.int .i64 L,.int .i64 J,.int .i64 I,.sl .rect G,.sl .rect u,.sl .pc ps] 0,.ref [.int .i64 f] 0]=>some ([aHu r V S O L J I G u ps f],.tup [.raw ((xX r V S O L J I G u ps f).1),.raw ((xX r V S O L J I G u ps f).2)])
 |_=>none
def bE7:Cfg UU:=bDl.add 84 aTx
theorem bHh:aW bE7:=cV bGU mixed func84 XW XW fun xs cs r h hc=>by
 unfold aTx at h;split at h
 ·rename_i u Z V S O L J I G ps f;cases h;refine⟨XW,M0,0,false,⟨kF (fun Q:Value->Value->Prop=>((sQ Z V S O L J I G ps u f)/\((sQ Z V S O L J I G ps u (aB (f-1)))/\Q (rA Z V S O L J I G ps u f) (rA Z V S O L J I G ps u (aB (f-1)))))) (fun Q=>Q ((xX u Z V S O L J I G ps f).1) ((xX u Z V S O L J I G ps f).2)) (fun r0 r1=>(.tup [.raw r0,.raw r1]:aC UU)=.tup [.raw ((xX u Z V S O L J I G ps f).1),.raw ((xX u Z V S O L J I G ps f).2)]) XW (fun Q h=>?_) rfl⟩⟩
  try dsimp only at h ⊢
  unfold xX at h;have hp:aHu u Z V S O L J I G ps f:=hc;unfold aHu at hp;obtain⟨hJ,hp⟩:=hp;refine⟨hJ,?_⟩;have uX:=hp;refine⟨uX,?_⟩;exact h
 ·cases h
def aTw:Model UU
 |[.int .i64 u,.int .i64 r,.ref [.int .i64 f] 0]=>some ([],.agg [.int .i64 ((aBu u r f).1),.int .i64 ((aBu u r f).2.1),.int .i64 ((aBu u r f).2.2.1),.int .i64 ((aBu u r f).2.2.2)])
 |_=>none
def bE6:Cfg UU:=bE7.add 86 aTw
theorem bHg:aW bE6:=tin bHh mixed func86 XW XW false fun xs f r h=>by
 unfold aTw at h;split at h
 ·cases h;exact⟨XW,XW⟩
 ·cases h
def aTv:Model UU
 |[.int .i64 r,.ref [.str V,.str S,.int .i64 O,.int .i64 L,.int .i64 J,.int .i64 I,.sl .rect G,.sl .rect u,.sl .pc ps] 0,.ref [.int .i64 f] 0]=>some ([aHt r V S O L J I G u ps f],.tup [.raw ((xW r V S O L J I G u ps f).1),.raw ((xW r V S O L J I G u ps f).2)])
 |_=>none
def bE5:Cfg UU:=bE6.add 87 aTv
theorem bHf:aW bE5:=cV bHg mixed func87 XW XW fun xs cs r h hc=>by
 unfold aTv at h;split at h
 ·rename_i u Z V S O L J I G ps f;cases h;refine⟨XW,M0,0,false,⟨kF (fun Q:Value->Value->Prop=>((sQ Z V S O L J I G ps f u)/\((sQ Z V S O L J I G ps (aB (f-1)) u)/\Q (rA Z V S O L J I G ps f u) (rA Z V S O L J I G ps (aB (f-1)) u)))) (fun Q=>Q ((xW u Z V S O L J I G ps f).1) ((xW u Z V S O L J I G ps f).2)) (fun r0 r1=>(.tup [.raw r0,.raw r1]:aC UU)=.tup [.raw ((xW u Z V S O L J I G ps f).1),.raw ((xW u Z V S O L J I G ps f).2)]) XW (fun Q h=>?_) rfl⟩⟩
  try dsimp only at h ⊢
  unfold xW at h;have hp:aHt u Z V S O L J I G ps f:=hc;unfold aHt at hp;obtain⟨hJ,hp⟩:=hp;refine⟨hJ,?_⟩;have uX:=hp;refine⟨uX,?_⟩;exact h
 ·cases h
def aTu:Model UU
 |[.int .i64 u,.int .i64 r,.ref [.int .i64 f] 0]=>some ([],.agg [.int .i64 ((aBt u r f).1),.int .i64 ((aBt u r f).2.1),.int .i64 ((aBt u r f).2.2.1),.int .i64 ((aBt u r f).2.2.2)])
 |_=>none
def nP:Cfg UU:=bE5.add 88 aTu
theorem bHe:aW nP:=tin bHf mixed func88 XW XW false fun xs f r h=>by
 unfold aTu at h;split at h
 ·cases h;exact⟨XW,XW⟩
 ·cases h
set_option maxRecDepth 100000
def bTD (F:Nat):=cY (bM aB4 F 0 nP) nP f83.ntmps aB4 F
def bJS (F:Nat):=dO (bM aB4 F 0 nP) nP f83.ntmps aB4 F
abbrev bD7:=zzI->ByteArray->ByteArray->Int->Int->Int->Int->List aA->List aA->List Pce->Int->Int->Int->Value->Value->zzI->Int->Int->List Edg->Prop
def aOc (k:ASt UU->Prop):bD7:=(fun L cJ cI cH cG O S V Z eE eD eC J I G u r f dZ=>k ⟨tmL [(0,.sl .int L),(1,.fn 84 [.ref [.str cJ,.str cI,.int .i64 cH,.int .i64 cG,.int .i64 O,.int .i64 S,.sl .rect V,.sl .rect Z,.sl .pc eE] 0,.ref [.int .i64 eD] 0]),(2,.fn 86 [.ref [.int .i64 eC] 0]),(7,.osl 77 0),(8,.int .i64 J),(9,.raw I),(10,.raw G),(19,.sl .int u),(20,.int .i64 r),(21,.int .i64 f)],obL [(77,.row .edge 0 dZ)]⟩)
def bVO:=(cL (cB (cS (cF (cS4 (bo f83))))))
def aL4 (F:Nat) (K:zK) (n r:Nat):bD7:=aOc fun s=>iter (bTD F 0 bVO) (aB4 0 0) n r s K
def aXs (F:Nat) (Post:aC UU->Prop):zK:=bU 0 (bJS F 0 (cS4 (cS (bo f83))) (bJ nP true f83 Post))
theorem aVw (F:Nat) (K:zK):∀n r,aL4 F K n r=j4 F (aOc (K (.exit 0))) n
 |0,_=>XW
 |n+1,r=>QY (b:=(fun O cJ cI cH cG S V Z eF eE eD eC L J I G u f dZ=>bBA (aL4 F K n (r+1)) (aOc (K (.exit 0))) O cJ cI cH cG S V Z eF eE eD eC L J I G u f dZ)) XW (by rewrite[aVw F K n (r+1)];kernel_rfl)
theorem bNR (F:Nat) (Post:aC UU->Prop):aL4 F (aXs F Post) F 0=aIk F (fun f=>Post (.new .edge f)):=
 (aVw F _ F 0).trans XW
theorem bRt (F:Nat) (Post:aC UU->Prop) (l:zzI) (Z V:ByteArray) (S O L J:Int) (I G:List aA) (ps:List Pce) (r f:Int):exec nP f83.ntmps aB4 F 0 (bo f83) (dD [.sl .int l,.fn 84 [.ref [.str Z,.str V,.int .i64 S,.int .i64 O,.int .i64 L,.int .i64 J,.sl .rect I,.sl .rect G,.sl .pc ps] 0,.ref [.int .i64 r] 0],.fn 86 [.ref [.int .i64 f] 0]]) (bJ nP true f83 Post)=aQq F l Z V S O L J I G ps r f (fun u=>Post (.new .edge u)):=
 QY (b:=bBB l Z V S O L J I G ps r f (fun u=>Post (.new .edge u)) (aL4 F (aXs F Post) F 0)) XW (by rewrite[bNR F Post];kernel_rfl)
def bTC (F:Nat):=cY (bM aB3 F 0 nP) nP f83.ntmps aB3 F
def bJR (F:Nat):=dO (bM aB3 F 0 nP) nP f83.ntmps aB3 F
abbrev bD6:=zzI->ByteArray->ByteArray->Int->Int->Int->Int->List aA->List aA->List Pce->Int->Int->Int->Value->Value->zzI->Int->Int->List Edg->Prop
def aOb (k:ASt UU->Prop):bD6:=(fun L cJ cI cH cG O S V Z eE eD eC J I G u r f dZ=>k ⟨tmL [(0,.sl .int L),(1,.fn 87 [.ref [.str cJ,.str cI,.int .i64 cH,.int .i64 cG,.int .i64 O,.int .i64 S,.sl .rect V,.sl .rect Z,.sl .pc eE] 0,.ref [.int .i64 eD] 0]),(2,.fn 88 [.ref [.int .i64 eC] 0]),(7,.osl 77 0),(8,.int .i64 J),(9,.raw I),(10,.raw G),(19,.sl .int u),(20,.int .i64 r),(21,.int .i64 f)],obL [(77,.row .edge 0 dZ)]⟩)
def bVM:=(cL (cB (cS (cF (cS4 (bo f83))))))
def aL3 (F:Nat) (K:zK) (n r:Nat):bD6:=aOb fun s=>iter (bTC F 0 bVM) (aB3 0 0) n r s K
def aXr (F:Nat) (Post:aC UU->Prop):zK:=bU 0 (bJR F 0 (cS4 (cS (bo f83))) (bJ nP true f83 Post))
theorem aVv (F:Nat) (K:zK):∀n r,aL3 F K n r=j3 F (aOb (K (.exit 0))) n
 |0,_=>XW
 |n+1,r=>QY (b:=(fun O cJ cI cH cG S V Z eF eE eD eC L J I G u f dZ=>bAy (aL3 F K n (r+1)) (aOb (K (.exit 0))) O cJ cI cH cG S V Z eF eE eD eC L J I G u f dZ)) XW (by rewrite[aVv F K n (r+1)];kernel_rfl)
theorem bNQ (F:Nat) (Post:aC UU->Prop):aL3 F (aXr F Post) F 0=aIj F (fun f=>Post (.new .edge f)):=
 (aVv F _ F 0).trans XW
theorem bRs (F:Nat) (Post:aC UU->Prop) (l:zzI) (Z V:ByteArray) (S O L J:Int) (I G:List aA) (ps:List Pce) (r f:Int):exec nP f83.ntmps aB3 F 0 (bo f83) (dD [.sl .int l,.fn 87 [.ref [.str Z,.str V,.int .i64 S,.int .i64 O,.int .i64 L,.int .i64 J,.sl .rect I,.sl .rect G,.sl .pc ps] 0,.ref [.int .i64 r] 0],.fn 88 [.ref [.int .i64 f] 0]]) (bJ nP true f83 Post)=aQp F l Z V S O L J I G ps r f (fun u=>Post (.new .edge u)):=
 QY (b:=bAz l Z V S O L J I G ps r f (fun u=>Post (.new .edge u)) (aL3 F (aXr F Post) F 0)) XW (by rewrite[bNQ F Post];kernel_rfl)
def aUO:Model UU
 |[.sl .int l,.fn 84 [.ref [.str V,.str S,.int .i64 O,.int .i64 L,.int .i64 J,.int .i64 I,.sl .rect G,.sl .rect u,.sl .pc ps] 0,.ref [.int .i64 r] 0],.fn 86 [.ref [.int .i64 f] 0]]=>some ([aMv l V S O L J I G u ps r f],.new .edge (aMI l V S O L J I G u ps r f))
 |[.sl .int l,.fn 87 [.ref [.str V,.str S,.int .i64 O,.int .i64 L,.int .i64 J,.int .i64 I,.sl .rect G,.sl .rect u,.sl .pc ps] 0,.ref [.int .i64 r] 0],.fn 88 [.ref [.int .i64 f] 0]]=>some ([aMu l V S O L J I G u ps r f],.new .edge (aMH l V S O L J I G u ps r f))
 |_=>none
def bEh:Cfg UU:=nP.add 83 aUO
theorem bIC:aW bEh:=cV bHe mixed func83 XW XW fun xs cs r h hc=>by
 unfold aUO at h;split at h
 ·rename_i l Z V S O L J I G ps u f;cases h;obtain⟨F,hF⟩:=bL8 l Z V S O L J I G ps u f hc;exact⟨XW,aB4,F,true,⟨by rw[bRt];exact hF _ rfl⟩⟩
 ·rename_i l Z V S O L J I G ps u f;cases h;obtain⟨F,hF⟩:=bL7 l Z V S O L J I G ps u f hc;exact⟨XW,aB3,F,true,⟨by rw[bRs];exact hF _ rfl⟩⟩
 ·cases h
end
end Go.Proofs.YtjjbojomlfgjlaaGreatDoor
namespace Go.Proofs.YtjjbojomlfgjlaaGreatDoor
open Go.Proofs.Tryz
open Go.Shelf Go.RowKit Go.Lib Go.Sort
theorem bKJ {w:World} {os:Array Obj} {base:Nat} {e:TypeId} {u:Value} {n:Nat} {cs:List Value} (h:w.ownsRow base e 1 u n cs):(grow w os).ownsRow base e 1 u n cs:=by
 refine⟨h.1,?_⟩;rcases h.2 with G|⟨g,f,cur,J,I,r,rest⟩
 ·exact .inl G
 ·exact .inr ⟨g,f,cur,J,I,by rw[heap_grow_old _ _ (JQ.1 r).1];exact r,rest⟩
theorem bVd {B:Nat} {w0 w:World} {os:Array Obj} (h:Below B w0 w) (r:B<=w.heap.size):Below B w0 (grow w os):=
 ⟨h.os,h.tape,h.output,by have:=h.size;rw[size_grow];omega,fun k f=>by rw[heap_grow_old _ _ XY];exact h.block k f⟩
theorem aDb (x y:Int):ltOf Lib.compareInt x y=decide (x<y):=by
 unfold ltOf Lib.compareInt
 by_cases f:x<y
 ·simp[f]
 ·by_cases r:y<x<;>simp[f,r]
theorem bFa:SWO (ltOf Lib.compareInt) where
 irrefl x:=by rw[aDb];simp
 trans x y z h1 h2:=by rw[aDb] at*;simp at*;omega
 ntrans x y z h1 h2:=by rw[aDb] at*;simp at*;omega
theorem bF9 (x y:Int) (r:ltOf Lib.compareInt x y=false) (f:ltOf Lib.compareInt y x=false):x=y:=by rw[aDb] at*;simp at*;omega
theorem bFb:(fun x y:Int=>!ltOf Lib.compareInt y x)=fun x y=>decide (x<=y):=by
 funext x y;rw[aDb]
 by_cases h:x<=y
 ·have f:¬y<x:=XY;simp[h,f]
 ·have f:y<x:=XY;simp[h,f]
theorem bFc (blk off size:Nat) (w:World):CmpReads prog 148 #[] (Value.int .i64) Lib.compareInt blk off size w:=fun _ _ _ _ x y=>by
 refine(cmp_Compare_int x y _).mono ?_
 rintro e w' ⟨rfl,rfl⟩
 exact⟨rfl,0,rfl⟩
set_option maxHeartbeats 2000000 in
theorem bFu (p:Option Addr) (c:Nat) (w:World):
  Calls prog 82 #[.slice p 0 c] w fun e w'=>e=.returned (.slice p 0 c)/\w'=w:=by
 have f:=fun q c W=>slices_SortFunc_none (α:=Int) q c (.func (.func 148) #[] #[]) W
 have r:=fun q c W=>slices_Compact_int_empty q c W
 go_enter func82,ntmps82
 go_wp2_with (first
  | (go_at_call 147;refine(f _ _ _).mono ?_;rintro e w' ⟨rfl,rfl⟩)
  | (go_at_call 149;refine(r _ _ _).mono ?_;rintro e w' ⟨rfl,rfl⟩))
 go_ret
 exact⟨rfl,rfl⟩
set_option maxHeartbeats 2000000 in
theorem bFt (g cap:Nat) (l:zzI) (w:World) (hl:l.length<=2000000) (L:Holds (Value.int .i64) w g 0 l.toArray) (Z:g<w.heap.size) (V:l.length<=cap):
  Calls prog 82 #[.slice (some ⟨g,0,none⟩) l.length cap] w fun e w'=>e=.returned (.slice (some ⟨g,0,none⟩) (eT l).length cap)/\
   ∃G u q,w'=putRow (Value.int .i64) (Sort.ahead (grow (putRow (Value.int .i64) (Sort.ahead w G) g 0 (l.mergeSort fun x y=>decide (x<=y)).toArray) u) q) g 0 (eT l++List.replicate (l.length-(eT l).length) 0).toArray:=by
 have eg:∀r w,(callFunc 148 r).run prog w=.ok (.enter 148 r) w:=fun r w=>Go.Vm.kQ (fn:=f148) func148 XW rfl r w
 have J:Calls prog 147 #[.slice (some ⟨g,0,none⟩) l.length cap,.func (.func 148) #[] #[]] w fun e w'=>e=.returned (.tuple #[])/\∃n u,w'=grow (putRow (Value.int .i64) (Sort.ahead w n) g 0 (l.mergeSort fun x y=>decide (x<=y)).toArray) u:=by
  have:=slices_SortFunc_total (Value.int .i64) (fun _=>rfl) Lib.compareInt bFa 148 #[] g 0 cap l.toArray w eg (bFc g 0 _ w).lays L Z (by simp;omega) bF9;rw[bFb] at this;simpa[sortWorld] using this
 have f:(l.mergeSort fun x y=>decide (x<=y)).length=l.length:=List.length_mergeSort ..;have I:∀(G:Nat) (u:Array Obj),Calls prog 149 #[.slice (some ⟨g,0,none⟩) l.length cap] (grow (putRow (Value.int .i64) (Sort.ahead w G) g 0 (l.mergeSort fun x y=>decide (x<=y)).toArray) u) fun e w'=>e=.returned (.slice (some ⟨g,0,none⟩) (eT l).length cap)/\∃q,w'=putRow (Value.int .i64) (Sort.ahead (grow (putRow (Value.int .i64) (Sort.ahead w G) g 0 (l.mergeSort fun x y=>decide (x<=y)).toArray) u) q) g 0 (eT l++List.replicate (l.length-(eT l).length) 0).toArray:=fun G u=>by
  generalize hW:grow (putRow (Value.int .i64) (Sort.ahead w G) g 0 (l.mergeSort fun x y=>decide (x<=y)).toArray) u=W;have hH:Holds (Value.int .i64) W g 0 (l.mergeSort fun x y=>decide (x<=y)).toArray:=by
   rw[<- hW];refine holds_grow _ _ _ _ _ _ (by simpa using Z) ?_;exact holds_putRow _ _ _ _ l.toArray _ L XU
  have:=slices_Compact_int g 0 cap (l.mergeSort fun x y=>decide (x<=y)) W hH (by rw[f];omega) (by rw[f];exact V);rw[f] at this;exact this
 generalize O:eT l=sc at I ⊢;generalize S:(l.mergeSort fun x y=>decide (x<=y))=ms at J I ⊢;clear O S f L V;generalize hn:l.length=n at J I ⊢;clear hl hn
 go_enter func82,ntmps82
 go_wp2_with (first
  | (go_at_call 147;refine J.mono ?_;rintro e w2 ⟨rfl,G,u,rfl⟩)
  | (go_at_call 149;refine(I _ _).mono ?_;rintro e w3 ⟨rfl,q,rfl⟩))
 go_ret
 exact⟨rfl,G,u,q,rfl⟩
end Go.Proofs.YtjjbojomlfgjlaaGreatDoor
namespace Go.Proofs.YtjjbojomlfgjlaaGreatDoor
open Go.Proofs.Tryz
open Go.Vm Go.RowKit
set_option linter.unusedVariables false
noncomputable section
def aP5:vJ UU
 |[.osl 0 g],.row .int f l=>cond (Nat.beq g f) (some ([l.length<=2000000],.osl 0 (g+1),.row .int (g+1) (eT l))) none
 |_,_=>none
open Go.Sort in
theorem bSQ {C:Cfg UU} (hP:C.P=prog) (hE:C.E=EE) (w0:World):vI C 82 aP5 w0:=by
 refine⟨fun S w=>by rw[hP];exact kQ (fn:=f82) func82 XW rfl S w,fun st ρ w S k0 xs ob ob' cs r hb hst hdom hsep hob hsz hrel nE hm hc kH hpr hown=>?_⟩;unfold aP5 at hm;split at hm
 ·rename_i g g' l;have hm2:=cM hm;clear hm;obtain⟨hg,hm⟩:=hm2;obtain rfl:=QZ hg;cases hm;obtain rfl:0=k0:=by cases hown;rfl
  have h2:l.length<=2000000:=hc;rw[hE] at hob hrel ⊢;obtain⟨u,cells,hu,hup,hro,hcs⟩:=hob;have e0:=hrel 0 XU;obtain⟨al⟩:=S
  match al,hsz with
  |[x],_=>
   simp at e0;obtain rfl:x=u:=by
    cases e0 with
    |osl _ _ u' J _=>
     rw[hu] at J;cases J;rfl
    |oslOld _ _ g2 u' v J hlt=>
     rw[hu] at J;cases J;omega
   rw[hP];have hbase:w0.heap.size<=w.heap.size:=hb.size
   let ρ2:Own:=fun nm=>if nm=.ob 0 then none else ρ nm
   have fin:∀(w':World) (I:Value) (cs':List Value),w'.ownsRow w0.heap.size (UU.ety .int) (UU.size .int) I (eT l).length ((eT l).map (Value.int .i64))->(∀a,I≠ .pointer a)->(∀b,blk I=some b->blk x=some b)->Go.RowKit.Below w0.heap.size w w'->
     (∀b,b<w.heap.size->blk x≠some b->w'.heap[b]?=w.heap[b]?)->∃v ρ',Ending.returned I=.returned v/\(((aC.osl 0 (g+1):aC UU).nS=true->Rel EE w' cW (fun _=>False) (.osl 0 (g+1)) v)/\(uJ 0 (.osl 0 (g+1):aC UU) (.row .int (g+1) (eT l))=true->Rel EE w' ρ' (fun _=>False) (.osl 0 (g+1)) v))/\
   gE EE w' ρ' (fun b=>(st b\/w.heap.size<=b\/∃nm g u,ρ nm=some (g,u)/\blk u=some b)/\b<w'.heap.size/\∀nm g u,ρ' nm=some (g,u)->blk u≠some b) w0.heap.size 0 (.row .int (g+1) (eT l))/\
   (∀nm g' u,ρ' nm=some (g',u)->nm.id=0/\((bK.row .int (g+1) (eT l):bK UU).simple=true->nm=.ob 0))/\Chg (fun _=>False) (fun i=>i=0) w0.heap.size ρ ρ' w w':=by
    intro w' I cs' q1 qp q2 q3 q4;have er:dU ρ (.ob 0) (g+1) I (.ob 0)=some (g+1,I):=by simp[dU]
    refine⟨I,dU ρ (.ob 0) (g+1) I,rfl,⟨(fun h=>by cases h),fun _=>.osl 0 (g+1) I er qp⟩,⟨I,_,er,qp,q1,fun i hi k hk=>?_⟩,fun nm q u hr=>?_,?_⟩
    ·have mS:k=0:=by
      have:k<1:=hk;omega
     subst mS;show Rel EE w' _ _ (.int .i64 (eT l)[i]) _;have:((eT l).map (Value.int .i64)).getD (i*UU.size .int+0) undef=.int .i64 (eT l)[i]:=by
      show ((eT l).map (Value.int .i64)).getD (i*1+0) undef=_;simp[hi]
     rw[this];exact .int _ _
    ·by_cases V:nm=.ob 0
     ·subst V;exact⟨rfl,fun _=>rfl⟩
     ·have hr':ρ nm=some (q,u):=by
       unfold dU at hr;rwa [JK V] at hr
      have:=(hdom nm q u hr').2 rfl;exact absurd this V
    ·have f:∀(nm:Name) q u,ρ nm=some (q,u)->nm=.ob 0/\(q,u)=(g,x):=fun nm q u hr=>by
      have e:=(hdom nm q u hr).2 rfl;subst e;rw[hu] at hr;cases hr;exact⟨rfl,rfl⟩
     refine⟨fun nm V=>?_,fun nm q u V hr=>?_,q3,fun b hb L=>q4 b hb (L (.ob 0) _ _ rfl hu),fun nm q u k V h Z=>?_,fun nm nm' q q' u u' k V hn' h h' L Z=>?_⟩
     ·unfold dU;rw[JK (fun e=>V (by rw[e];rfl))]
     ·obtain⟨rfl,e⟩:=f nm q u hr;cases e;exact .inr ⟨hup,_,_,er,XY⟩
     ·by_cases lE:nm=.ob 0
      ·subst lE;rw[er] at h;cases h;exact .inl ⟨.ob 0,_,_,rfl,hu,q2 k Z⟩
      ·unfold dU at h;rw[JK lE] at h;exact absurd (f _ _ _ h).1 lE
     ·exfalso;have z:∀(nm:Name) q u,dU ρ (.ob 0) (g+1) I nm=some (q,u)->nm=.ob 0:=fun nm q u h=>by
       refine Classical.byContradiction fun lE=>?_
       unfold dU at h;rw[JK lE] at h;exact lE (f _ _ _ h).1
      exact L ((z _ _ _ h).trans (z _ _ _ h').symm)
   rcases hro.2 with ⟨rfl,V⟩|⟨b,cap,cur,rfl,q1,q2,q3,q4,q5,q6⟩
   ·have rO:l=[]:=List.eq_nil_of_length_eq_zero V;subst rO;refine(bFu none 0 w).mono ?_
    rintro e w' ⟨rfl,rfl⟩
    have e3:eT ([]:zzI)=[]:=List.eq_nil_of_length_eq_zero (Nat.le_zero.1 (aBi []));refine fin w' _ [] ?_ (fun a e=>by cases e) (fun b hb=>hb) (Go.RowKit.Below.refl _ _) (fun b hb _=>rfl);rw[e3];exact JE _ _ _ _
   ·have Z:b<w.heap.size:=(JQ.1 q2).1;have O:UU.size .int=1:=rfl;rw[O,Nat.mul_one] at q6;have hcl:cells.length=l.length:=by rw[hro.1,O,Nat.mul_one]
    have G:cells=l.map (Value.int .i64):=by
     refine List.ext_getElem (by simp[hcl]) fun i h1 h2=>?_
     have hi:i<l.length:=XY;have:=hcs i hi 0 (by show 0<1;omega);rw[O,Nat.mul_one,JL] at this;have h9:Rel EE w ρ st (.int .i64 l[i]) (cells.getD i undef):=this;rw[QG,QL h1,Option.getD_some] at h9;generalize hcv:cells[i]=cv at h9;cases h9;simp
    obtain⟨hH0,hcp⟩:Holds (Value.int .i64) w b 0 l.toArray/\l.length<=cap:=by
     refine⟨?_,q3⟩;intro j hj;have hj':j<l.length:=by simpa using hj
     refine⟨?_,by simp[World.frozen?,q2]⟩;have h6:(cur.toList.take l.length)[j]?=some (.int .i64 l[j]):=by
      rw[q6,G];simp[hj']
     rw[JH,JV hj'] at h6;rw[JW,cell_of_row w b j cur _ (0,0) q2,<- Array.getElem?_toList,h6];simp[hj']
    refine(bFt b cap l w h2 hH0 Z hcp).mono ?_
    rintro e w' ⟨rfl,n1,os,q,rfl⟩
    have hle:=aBi l;have hro':w.ownsRow w0.heap.size 3 1 (.slice (some ⟨b,0,none⟩) l.length cap) l.length (l.map (Value.int .i64)):=by
     rw[<- G];exact hro
    have s1:=Go.Lib.ownsRow_putRow (q:=n1) (k:=l.length) (ys:=l.mergeSort fun x y=>decide (x<=y)) hro' (List.length_mergeSort ..) (JX _);have s2:=bKJ (os:=os) s1;have s3:=Go.Lib.ownsRow_putRow (q:=q) (k:=(eT l).length) (ys:=eT l++List.replicate (l.length-(eT l).length) 0) s2 (by simp;omega) hle;rw[List.take_left] at s3;refine fin _ _ [] s3 (fun a e=>by cases e) (fun b' hb'=>hb') ?_ (fun b' hb' L=>?_)
    ·exact Go.Lib.below_putRow (bVd (Go.Lib.below_putRow (Go.RowKit.Below.refl _ _) q1) (by simp;omega)) q1
    ·have hne':b≠b':=fun e=>L (by rw[e];rfl)
     simp only[putRow,mapBlock,Sort.ahead];rw[Array.getElem?_modify,JK hne'];rw[heap_grow_old _ _ (by simpa using hb')];rw[Array.getElem?_modify,JK hne']
 ·cases hm
def sD:Cfg UU:=bEh.vD 82 aP5
theorem bGp:aW sD:=bIC.aDn fun w0 _=>bSQ rfl rfl w0
def aJP (f:FuncId):Option (Func×Code):=cond (Nat.beq f 159) (some (f159,bo f159)) (cond (Nat.beq f 93) (some (f93,bo f93)) (cond (Nat.beq f 192) (some (f192,bo f192)) none))
theorem aPa {α:Type} {b:Bool} {x y:Option α} {z:α} (h:cond b x y=some z):(b=true/\x=some z)\/y=some z:=by
 cases b
 ·exact .inr h
 ·exact .inl ⟨rfl,h⟩
theorem aXy (f:FuncId) (fn:Func) (c:Code) (h:aJP f=some (fn,c)):prog.funcs[f]?=some fn/\fn.body=some c/\∀(args:Array Value) (w:World),(callFunc f args).run prog w=.ok (.enter f args) w:=by
 unfold aJP at h;have one:∀{k:Nat} {r:Func},prog.funcs[k]?=some r->r.body=some (bo r)->(∀args w,(callFunc k args).run prog w=.ok (.enter k args) w)->Nat.beq f k=true->some (r,bo r)=some (fn,c)->
   prog.funcs[f]?=some fn/\fn.body=some c/\∀(args:Array Value) (w:World),(callFunc f args).run prog w=.ok (.enter f args) w:=fun I G u hb he=>by
  obtain rfl:=QZ hb;cases he;exact⟨I,G,u⟩
 rcases aPa h with ⟨hb,h⟩|h
 ·exact one func159 XW (kQ (fn:=f159) func159 XW rfl) hb h
 rcases aPa h with ⟨hb,h⟩|h
 ·exact one func93 XW (kQ (fn:=f93) func93 XW rfl) hb h
 rcases aPa h with ⟨hb,h⟩|h
 ·exact one func192 XW (kQ (fn:=f192) func192 XW rfl) hb h
 ·cases h
def jL (C:Cfg UU) (r:C.P=prog:=by rfl):Cfg UU:={C with inl:=aJP,inlOK:=fun f fn c h=>by rw[r];exact aXy f fn c h,dep:=2}
theorem bWL {C:Cfg UU} (G:C.P=prog) (O:aW C) (u:C.P.follows .mixedOrders=true) {f:FuncId} {m:Model UU} {fn:Func} {c:Code} (V:C.P.funcs[f]?=some fn) (S:(fn.name== "runtime.NumGoroutine")=false)
  (hb:fn.body=some c) (hx:∀xs J r,m xs=some (J,r)->eQ J->(Nat.ble xs.length fn.ntmps&&Nat.ble fn.ntmps 1000000)=true/\∃M fuel Z,sA (exec (jL C G) fn.ntmps M fuel 0 c (dD xs) (bJ (jL C G) Z fn fun L=>L=r))):aW (C.add f m):=by
 have I:aW (jL C G):=O;have:=aW.aCv (C:=jL C G) I u V S hb hx;exact this
def gK (C:Cfg UU) (r:C.P=prog:=by rfl):Cfg UU:={C with inl:=aJP,inlOK:=fun f fn c h=>by rw[r];exact aXy f fn c h,dep:=4}
theorem bC6 {C:Cfg UU} (G:C.P=prog) (O:aW C) (u:C.P.follows .mixedOrders=true) {f:FuncId} {m:Model UU} {fn:Func} {c:Code} (V:C.P.funcs[f]?=some fn) (S:(fn.name== "runtime.NumGoroutine")=false)
  (hb:fn.body=some c) (hx:∀xs J r,m xs=some (J,r)->eQ J->(Nat.ble xs.length fn.ntmps&&Nat.ble fn.ntmps 1000000)=true/\∃M fuel Z,sA (exec (gK C G).eO fn.ntmps M fuel 0 c (dD xs) (bJ (gK C G).eO Z fn fun L=>L=r))):aW (C.add f m):=by
 have I:aW (gK C G):=O;have:=aW.aPk (C:=gK C G) I u V S hb hx;exact this
set_option maxRecDepth 100000
def aFT (F:Nat):=cY (bM rY F 0 sD) sD f37.ntmps rY F
def aHd (F:Nat):=dO (bM rY F 0 sD) sD f37.ntmps rY F
abbrev bDI:=List Pce->Int->Int->ByteArray->ByteArray->Int->Int->Int->Int->List aA->List aA->List Pce->zzI->zzI->Prop
def aJH (k:ASt UU->Prop):bDI:=(fun u r f O S V Z aD aE aF J L G I=>k ⟨tmL [(1,.ptr 1 0),(3,.osl 81 0),(4,.osl 82 0),(15,.sl .pc u),(16,.int .i64 r),(17,.int .i64 f)],obL [(81,.row .int 0 G),(82,.row .int 0 I),(1,.cells [.str O,.str S,.int .i64 V,.int .i64 Z,.int .i64 aD,.int .i64 aE,.sl .rect aF,.sl .rect J,.sl .pc L])]⟩)
abbrev bDH:=List Pce->Int->Int->List aA->Int->Int->ByteArray->ByteArray->Int->Int->Int->Int->List aA->List aA->List Pce->zzI->zzI->Prop
def aOX (k:ASt UU->Prop):bDH:=(fun J I G u r f Z aI aH aG aD aE aF S V L O=>k ⟨tmL [(1,.ptr 1 0),(3,.osl 81 0),(4,.osl 82 0),(15,.sl .pc J),(16,.int .i64 I),(17,.int .i64 G),(22,.sl .rect u),(23,.int .i64 r),(24,.int .i64 f)],obL [(81,.row .int 0 L),(82,.row .int 0 O),(1,.cells [.str Z,.str aI,.int .i64 aH,.int .i64 aG,.int .i64 aD,.int .i64 aE,.sl .rect aF,.sl .rect S,.sl .pc V])]⟩)
abbrev bDG:=Int->Int->ByteArray->ByteArray->Int->Int->Int->Int->List aA->List aA->List Pce->zzI->zzI->List Edg->Prop
def aOW (k:ASt UU->Prop):bDG:=(fun r f O S V Z aD aE aF J L I G u=>k ⟨tmL [(1,.ptr 1 0),(3,.osl 81 0),(4,.osl 82 1),(9,.osl 83 0),(54,.osl 82 1),(55,.int .i64 r),(56,.int .i64 f)],obL [(81,.row .int 0 G),(83,.row .edge 0 u),(1,.cells [.str O,.str S,.int .i64 V,.int .i64 Z,.int .i64 aD,.int .i64 aE,.sl .rect aF,.sl .rect J,.sl .pc L]),(82,.row .int 1 I)]⟩)
abbrev bDF:=Int->Int->ByteArray->ByteArray->Int->Int->Int->Int->List aA->List aA->List Pce->zzI->List Edg->zzI->Prop
def aOV (k:ASt UU->Prop):bDF:=(fun r f O S V Z aD aE aF J L G I u=>k ⟨tmL [(1,.ptr 1 0),(4,.osl 81 0),(9,.osl 82 0),(67,.osl 83 0),(68,.int .i64 r),(69,.int .i64 f)],obL [(81,.row .int 0 G),(82,.row .edge 0 I),(83,.row .int 0 u),(1,.cells [.str O,.str S,.int .i64 V,.int .i64 Z,.int .i64 aD,.int .i64 aE,.sl .rect aF,.sl .rect J,.sl .pc L])]⟩)
def aKC:=(cL (cB (cS (cF (cS (cS (bo f37)))))))
def bU9:=(cL (cB (cS (cS (cB (cF (cS (cS aKC))))))))
def bU8:=(cL (cB (cS (cF (cS4 (cS (bo f37)))))))
def bU7:=(cL (cB (cS (cF (cS4 (cS (cS (bo f37))))))))
def aFp (F:Nat) (K:zK) (n r:Nat):bDI:=aJH fun s=>iter (aFT F 0 aKC) (rY 0 0) n r s K
def aKr (F:Nat) (K:zK) (n r:Nat):bDH:=aOX fun s=>iter (aFT F 2 bU9) (rY 0 2) n r s K
def aKq (F:Nat) (K:zK) (n r:Nat):bDG:=aOW fun s=>iter (aFT F 4 bU8) (rY 0 4) n r s K
def aKp (F:Nat) (K:zK) (n r:Nat):bDF:=aOV fun s=>iter (aFT F 6 bU7) (rY 0 6) n r s K
def aXJ (F:Nat) (Post:aC UU->Prop):zK:=bU 0 (aHd F 0 (cS (cS (cS (bo f37)))) (bJ sD false f37 Post))
def aXI (F n r:Nat) (K:zK):zK:=bU 2 (bU 1 (aHd F 0 (cS (cS (cS aKC))) (kN (aFT F 0 aKC) (rY 0 0) n r K)))
def aXH (F:Nat) (Post:aC UU->Prop):zK:=bU 4 (aHd F 0 (cS4 (cS (cS (bo f37)))) (bJ sD false f37 Post))
def aXG (F:Nat) (Post:aC UU->Prop):zK:=bU 6 (aHd F 0 (cS4 (cS (cS (cS (bo f37))))) (bJ sD false f37 Post))
theorem aVL (F:Nat) (K:zK):∀n r,aKr F K n r=aGa F (aOX (K (.exit 2))) n
 |0,_=>XW
 |n+1,r=>QY (b:=(fun L J I G u f aJ aI aH aG aD aE aF V Z O S=>aZe (aKr F K n (r+1)) (aOX (K (.exit 2))) L J I G u f aJ aI aH aG aD aE aF V Z O S)) XW (by rewrite[aVL F K n (r+1)];kernel_rfl)
theorem bM7 (F n r:Nat) (K:zK):aKr F (aXI F n r K) F 0=aNY F (aFp F K n (r+1)) (aJH (K (.exit 0))):=
 (aVL F _ F 0).trans XW
theorem aVJ (F:Nat) (K:zK):∀n r,aKp F K n r=aG9 F (aOV (K (.exit 6))) n
 |0,_=>XW
 |n+1,r=>QY (b:=(fun u f S V Z aG aD aE aF L O I J G=>aZc (aKp F K n (r+1)) (aOV (K (.exit 6))) u f S V Z aG aD aE aF L O I J G)) XW (by rewrite[aVJ F K n (r+1)];kernel_rfl)
theorem bM5 (F:Nat) (Post:aC UU->Prop):aKp F (aXG F Post) F 0=aIV F (fun f=>Post (.sl .edge f)):=
 (aVJ F _ F 0).trans XW
theorem aVK (F:Nat) (K:zK):∀n r,aKq F K n r=aDR F (aOW (K (.exit 4))) n
 |0,_=>XW
 |n+1,r=>QY (b:=(fun u f S V Z aG aD aE aF L O J I G=>aZd (aKq F K n (r+1)) (aOW (K (.exit 4))) u f S V Z aG aD aE aF L O J I G)) XW (by rewrite[aVK F K n (r+1)];kernel_rfl)
theorem bM6 (F:Nat) (Post:aC UU->Prop):aKq F (aXH F Post) F 0=aNX F (fun f=>Post (.sl .edge f)):=
 (aVK F _ F 0).trans (QY (b:=aDR F (fun u r S V Z aG aD aE aF L O J I G=>aZh (fun f=>Post (.sl .edge f)) u r S V Z aG aD aE aF L O J I G (aKp F (aXG F Post) F 0)) F) XW (by rewrite[bM5 F Post];kernel_rfl))
theorem aVM (F:Nat) (K:zK):∀n r,aFp F K n r=xF F (aJH (K (.exit 0))) n
 |0,_=>XW
 |n+1,r=>QY (b:=(fun G u f S V Z aG aD aE aF L O I J=>aZf (aFp F K n (r+1)) (aJH (K (.exit 0))) G u f S V Z aG aD aE aF L O I J (aKr F (aXI F n r K) F 0))) XW (by rewrite[bM7 F n r K,aVM F K n (r+1)];kernel_rfl)
theorem bM8 (F:Nat) (Post:aC UU->Prop):aFp F (aXJ F Post) F 0=aIW F (fun f=>Post (.sl .edge f)):=
 (aVM F _ F 0).trans (QY (b:=xF F (fun G u r S V Z aG aD aE aF L O I J=>aZi (fun f=>Post (.sl .edge f)) G u r S V Z aG aD aE aF L O I J (aKq F (aXH F Post) F 0)) F) XW (by rewrite[bM6 F Post];kernel_rfl))
theorem bRW (F:Nat) (Post:aC UU->Prop) (S O:ByteArray) (L J I G:Int) (u r:List aA) (f:List Pce):exec sD f37.ntmps rY F 0 (bo f37) (dD [.agg [.str S,.str O,.int .i64 L,.int .i64 J,.int .i64 I,.int .i64 G,.sl .rect u,.sl .rect r,.sl .pc f]]) (bJ sD false f37 Post)=aQY F S O L J I G u r f (fun V=>Post (.sl .edge V)):=
 QY (b:=aZg S O L J I G u r f (fun V=>Post (.sl .edge V)) (aFp F (aXJ F Post) F 0)) XW (by rewrite[bM8 F Post];kernel_rfl)
def aSk:Model UU
 |[.agg [.str S,.str O,.int .i64 L,.int .i64 J,.int .i64 I,.int .i64 G,.sl .rect u,.sl .rect r,.sl .pc f]]=>some ([aHj S O L J I G u r f],.sl .edge (aHM S O L J I G u r f))
 |_=>none
def bDn:Cfg UU:=sD.add 37 aSk
theorem bGZ:aW bDn:=cV bGp mixed func37 XW XW fun xs cs r h Z=>by
 unfold aSk at h;split at h
 ·rename_i V S O L J I G u f;cases h;obtain⟨F,hF⟩:=bLB V S O L J I G u f Z;exact⟨XW,rY,F,false,⟨by rw[bRW];exact hF _ rfl⟩⟩
 ·cases h
set_option maxRecDepth 100000
def aUI:Model UU
 |[.agg [.str S,.str O,.int .i64 L,.int .i64 J,.int .i64 I,.int .i64 G,.sl .rect u,.sl .rect r,.sl .pc f]]=>some ([rI S O L J I G u r f],.tup [.sl .edge ((dK S O L J I G u r f).1),.int .i64 ((dK S O L J I G u r f).2)])
 |_=>none
def wW:Cfg UU:=bDn.add 12 aUI
theorem bHs:aW wW:=cV bGZ mixed func12 XW XW fun xs cs r h hc=>by
 unfold aUI at h;split at h
 ·rename_i V S O L J I G u f;cases h;refine⟨XW,M0,0,false,⟨kF (fun Q:(List Edg)->Int->Prop=>((aHn V S O L J I G u f)/\cond ((jK V S O L J I G u f) !=0) (Q ([]) (jK V S O L J I G u f)) (((aHj V S O L J I G u f)/\Q (aHM V S O L J I G u f) 0)))) (fun Q=>Q ((dK V S O L J I G u f).1) ((dK V S O L J I G u f).2)) (fun r0 r1=>(.tup [.sl .edge r0,.int .i64 r1]:aC UU)=.tup [.sl .edge ((dK V S O L J I G u f).1),.int .i64 ((dK V S O L J I G u f).2)]) XW (fun Q h=>?_) rfl⟩⟩
  try dsimp only at h ⊢
  unfold dK at h;have hp:rI V S O L J I G u f:=hc;unfold rI at hp;obtain⟨hJ,hp⟩:=hp;refine⟨hJ,?_⟩;cases Z:((jK V S O L J I G u f) !=0)
  ·try simp only[Z,QJ] at h hp ⊢
   have uW:=hp;refine⟨uW,?_⟩;exact h
  ·try simp only[Z,QX] at h hp ⊢
   exact h
 ·cases h
def bSf (F:Nat):=cY (bM aBG F 0 wW.eO) wW.eO f38.ntmps aBG F
def bIu (F:Nat):=dO (bM aBG F 0 wW.eO) wW.eO f38.ntmps aBG F
abbrev bDE:=List Pce->Int->Int->List Bool->List Bool->zzI->List Bool->zzB->Prop
def aOU (k:ASt UU->Prop):bDE:=(fun u r f G I J L O=>k ⟨tmL [(4,.ptr 4 0),(6,.ptr 6 0),(22,.sl .pc u),(23,.int .i64 r),(24,.int .i64 f)],obL [(39,.row .bool 0 G),(40,.row .bool 0 I),(41,.row .int 0 J),(42,.row .bool 0 L),(43,.deep .bools 0 0 O),(4,.cells [.nils,.nils,.nils,.nils,.nils]),(6,.cells [.osl 39 0,.osl 43 0,.osl 40 0,.osl 41 0,.osl 42 0])]⟩)
def bU6:=(cL (cB (cS (cF (cS (cS (cS (bo f38))))))))
def aKo (F:Nat) (K:zK) (n r:Nat):bDE:=aOU fun s=>iter (bSf F 0 bU6) (aBG 0 0) n r s K
def aXF (F:Nat) (Post:aC UU->Prop):zK:=bU 0 (bIu F 0 (cS4 (bo f38)) (bJ wW.eO false f38 Post))
theorem aVI (F:Nat) (K:zK):∀n r,aKo F K n r=aG8 F (aOU (K (.exit 0))) n
 |0,_=>XW
 |n+1,r=>QY (b:=(fun G u f I J L O S=>aZa (aKo F K n (r+1)) (aOU (K (.exit 0))) G u f I J L O S)) XW (by rewrite[aVI F K n (r+1)];kernel_rfl)
theorem bM4 (F:Nat) (Post:aC UU->Prop):aKo F (aXF F Post) F 0=aNW F (fun f G r I u=>Post (.agg [.sl .bool f,.sl .bools G,.sl .bool r,.sl .int I,.sl .bool u])):=
 (aVI F _ F 0).trans XW
theorem bRV (F:Nat) (Post:aC UU->Prop) (S O:ByteArray) (L J I G:Int) (u r:List aA) (f:List Pce) (a1:Int):exec wW.eO f38.ntmps aBG F 0 (bo f38) (dD [.agg [.str S,.str O,.int .i64 L,.int .i64 J,.int .i64 I,.int .i64 G,.sl .rect u,.sl .rect r,.sl .pc f],.int .i64 a1]) (bJ wW.eO false f38 Post)=aQX F S O L J I G u r f a1 (fun V eK Z eJ eL=>Post (.agg [.sl .bool V,.sl .bools eK,.sl .bool Z,.sl .int eJ,.sl .bool eL])):=
 QY (b:=aZb S O L J I G u r f a1 (fun V eK Z eJ eL=>Post (.agg [.sl .bool V,.sl .bools eK,.sl .bool Z,.sl .int eJ,.sl .bool eL])) (aKo F (aXF F Post) F 0)) XW (by rewrite[bM4 F Post];kernel_rfl)
def aSj:Model UU
 |[.agg [.str S,.str O,.int .i64 L,.int .i64 J,.int .i64 I,.int .i64 G,.sl .rect u,.sl .rect r,.sl .pc f],.int .i64 V]=>some ([aDv S O L J I G u r f V],.agg [.sl .bool ((jR S O L J I G u r f V).1),.sl .bools ((jR S O L J I G u r f V).2.1),.sl .bool ((jR S O L J I G u r f V).2.2.1),.sl .int ((jR S O L J I G u r f V).2.2.2.1),.sl .bool ((jR S O L J I G u r f V).2.2.2.2)])
 |_=>none
def bDm:Cfg UU:=wW.add 38 aSj
theorem bGY:aW bDm:=(bHs.aPk) mixed (c:=bo f38) func38 XW XW fun xs cs r h Z=>by
 unfold aSj at h;split at h
 ·rename_i V S O L J I G u f a1;cases h;obtain⟨F,hF⟩:=bLA V S O L J I G u f a1 Z;exact⟨XW,aBG,F,false,⟨by rw[bRV];exact hF _ rfl⟩⟩
 ·cases h
set_option maxRecDepth 100000
def aUF:Model UU
 |[.agg [.str S,.str O,.int .i64 L,.int .i64 J,.int .i64 I,.int .i64 G,.sl .rect u,.sl .rect r,.sl .pc f]]=>some ([aEA S O L J I G u r f],.tup [.agg [.sl .bool ((kE S O L J I G u r f).1),.sl .bools ((kE S O L J I G u r f).2.1),.sl .bool ((kE S O L J I G u r f).2.2.1),.sl .int ((kE S O L J I G u r f).2.2.2.1),.sl .bool ((kE S O L J I G u r f).2.2.2.2.1)],.int .i64 ((kE S O L J I G u r f).2.2.2.2.2)])
 |_=>none
def wT:Cfg UU:=bDm.add 13 aUF
theorem bHp:aW wT:=cV bGY mixed func13 XW XW fun xs cs r h hc=>by
 unfold aUF at h;split at h
 ·rename_i V S O L J I G u f;cases h;refine⟨XW,M0,0,false,⟨kF (fun Q:(List Bool)->(zzB)->(List Bool)->(zzI)->(List Bool)->Int->Prop=>((rI V S O L J I G u f)/\cond (((dK V S O L J I G u f).2) !=0) (Q ([]) ([]) ([]) ([]) ([]) ((dK V S O L J I G u f).2)) (((aDv V S O L J I G u f (((dK V S O L J I G u f).1).length:Int))/\Q ((jR V S O L J I G u f (((dK V S O L J I G u f).1).length:Int)).1) ((jR V S O L J I G u f (((dK V S O L J I G u f).1).length:Int)).2.1) ((jR V S O L J I G u f (((dK V S O L J I G u f).1).length:Int)).2.2.1) ((jR V S O L J I G u f (((dK V S O L J I G u f).1).length:Int)).2.2.2.1) ((jR V S O L J I G u f (((dK V S O L J I G u f).1).length:Int)).2.2.2.2) 0)))) (fun Q=>Q ((kE V S O L J I G u f).1) ((kE V S O L J I G u f).2.1) ((kE V S O L J I G u f).2.2.1) ((kE V S O L J I G u f).2.2.2.1) ((kE V S O L J I G u f).2.2.2.2.1) ((kE V S O L J I G u f).2.2.2.2.2)) (fun eN eK eM eJ eL r1=>(.tup [.agg [.sl .bool eN,.sl .bools eK,.sl .bool eM,.sl .int eJ,.sl .bool eL],.int .i64 r1]:aC UU)=.tup [.agg [.sl .bool ((kE V S O L J I G u f).1),.sl .bools ((kE V S O L J I G u f).2.1),.sl .bool ((kE V S O L J I G u f).2.2.1),.sl .int ((kE V S O L J I G u f).2.2.2.1),.sl .bool ((kE V S O L J I G u f).2.2.2.2.1)],.int .i64 ((kE V S O L J I G u f).2.2.2.2.2)]) XW (fun Q h=>?_) rfl⟩⟩
  try dsimp only at h ⊢
  unfold kE at h;have hp:aEA V S O L J I G u f:=hc;unfold aEA at hp;obtain⟨hJ,hp⟩:=hp;refine⟨hJ,?_⟩;cases Z:(((dK V S O L J I G u f).2) !=0)
  ·try simp only[Z,QJ] at h hp ⊢
   have uW:=hp;refine⟨uW,?_⟩;exact h
  ·try simp only[Z,QX] at h hp ⊢
   exact h
 ·cases h
set_option maxRecDepth 100000
def bS9 (F:Nat):=cY (bM aBA F 0 wT) wT f89.ntmps aBA F
def bIo (F:Nat):=dO (bM aBA F 0 wT) wT f89.ntmps aBA F
abbrev bCs:=Bool->List Pce->Int->Int->List Bool->zzB->List Bool->zzI->List Bool->Prop
def aE4 (k:ASt UU->Prop):bCs:=(fun G u r f O S L J I=>k ⟨tmL [(3,.ptr 3 0),(6,.bool G),(47,.sl .pc u),(48,.int .i64 r),(49,.int .i64 f)],obL [(3,.cells [.sl .bool O,.sl .bools S,.sl .bool L,.sl .int J,.sl .bool I])]⟩)
def bUQ:=(cL (cB (cS (cF (cS (cS (cS (bo f89))))))))
def aK9 (F:Nat) (K:zK) (n r:Nat):bCs:=aE4 fun s=>iter (bS9 F 0 bUQ) (aBA 0 0) n r s K
def aWm (F:Nat) (Post:aC UU->Prop):zK:=bU 0 (bIo F 0 (cS4 (bo f89)) (bJ wT false f89 Post))
theorem aUo (F:Nat) (K:zK):∀n r,aK9 F K n r=aGZ F (aE4 (K .ret)) (aE4 (K (.exit 0))) n
 |0,_=>XW
 |n+1,r=>QY (b:=(fun I G u f S V O L J=>aZC (aK9 F K n (r+1)) (aE4 (K .ret)) (aE4 (K (.exit 0))) I G u f S V O L J)) XW (by rewrite[aUo F K n (r+1)];kernel_rfl)
theorem bML (F:Nat) (Post:aC UU->Prop):aK9 F (aWm F Post) F 0=aNQ F (fun f=>Post (.bool f)):=
 (aUo F _ F 0).trans XW
theorem bRI (F:Nat) (Post:aC UU->Prop) (G:List Bool) (I:zzB) (u:List Bool) (f:zzI) (r:List Bool) (z0 z1:ByteArray) (z2 Z V S:Int) (O L:List aA) (J:List Pce) (a2:Int):exec wT f89.ntmps aBA F 0 (bo f89) (dD [.agg [.sl .bool G,.sl .bools I,.sl .bool u,.sl .int f,.sl .bool r],.agg [.str z0,.str z1,.int .i64 z2,.int .i64 Z,.int .i64 V,.int .i64 S,.sl .rect O,.sl .rect L,.sl .pc J],.int .i64 a2]) (bJ wT false f89 Post)=aQN F G I u f r z0 z1 z2 Z V S O L J a2 (fun r0=>Post (.bool r0)):=
 QY (b:=aZD G I u f r z0 z1 z2 Z V S O L J a2 (fun r0=>Post (.bool r0)) (aK9 F (aWm F Post) F 0)) XW (by rewrite[bML F Post];kernel_rfl)
def aS7:Model UU
 |[.agg [.sl .bool G,.sl .bools I,.sl .bool u,.sl .int f,.sl .bool r],.agg [.str z0,.str z1,.int .i64 z2,.int .i64 Z,.int .i64 V,.int .i64 S,.sl .rect O,.sl .rect L,.sl .pc J],.int .i64 a2]=>some ([aMi G I u f r z0 z1 z2 Z V S O L J a2],.bool (aHK G I u f r z0 z1 z2 Z V S O L J a2))
 |_=>none
def vP:Cfg UU:=wT.add 89 aS7
theorem bGM:aW vP:=cV bHp mixed func89 XW XW fun xs cs r h hc=>by
 unfold aS7 at h;split at h
 ·rename_i I J G f u z0 z1 z2 z3 Z V S O L a2;cases h;obtain⟨F,hF⟩:=bKo I J G f u z0 z1 z2 z3 Z V S O L a2 hc;exact⟨XW,aBA,F,false,⟨by rw[bRI];exact hF _ rfl⟩⟩
 ·cases h
def bSb (F:Nat):=cY (bM aBC F 0 vP) vP f95.ntmps aBC F
def bIq (F:Nat):=dO (bM aBC F 0 vP) vP f95.ntmps aBC F
abbrev bCu:=Int->Bool->List Edg->Int->Int->List Bool->zzB->List Bool->zzI->List Bool->Prop
def aE7 (k:ASt UU->Prop):bCu:=(fun I G u r f S V O L J=>k ⟨tmL [(2,.int .i64 I),(3,.ptr 3 0),(6,.bool G),(9,.sl .edge u),(10,.int .i64 r),(11,.int .i64 f)],obL [(3,.cells [.sl .bool S,.sl .bools V,.sl .bool O,.sl .int L,.sl .bool J])]⟩)
def bUU:=(cL (cB (cS (cF (cS (bo f95))))))
def aKd (F:Nat) (K:zK) (n r:Nat):bCu:=aE7 fun s=>iter (bSb F 0 bUU) (aBC 0 0) n r s K
def aWq (F:Nat) (Post:aC UU->Prop):zK:=bU 0 (bIq F 0 (cS (cS (bo f95))) (bJ vP false f95 Post))
theorem aUs (F:Nat) (K:zK):∀n r,aKd F K n r=aG1 F (aE7 (K .ret)) (aE7 (K (.exit 0))) n
 |0,_=>XW
 |n+1,r=>QY (b:=(fun J I G u f V Z S O L=>aZJ (aKd F K n (r+1)) (aE7 (K .ret)) (aE7 (K (.exit 0))) J I G u f V Z S O L)) XW (by rewrite[aUs F K n (r+1)];kernel_rfl)
theorem bMP (F:Nat) (Post:aC UU->Prop):aKd F (aWq F Post) F 0=aIP F (fun f=>Post (.bool f)):=
 (aUs F _ F 0).trans XW
theorem bRL (F:Nat) (Post:aC UU->Prop) (G:List Bool) (I:zzB) (u:List Bool) (f:zzI) (r:List Bool) (O:List Edg) (L:Int):exec vP f95.ntmps aBC F 0 (bo f95) (dD [.agg [.sl .bool G,.sl .bools I,.sl .bool u,.sl .int f,.sl .bool r],.sl .edge O,.int .i64 L]) (bJ vP false f95 Post)=aQP F G I u f r O L (fun J=>Post (.bool J)):=
 QY (b:=aZK G I u f r O L (fun J=>Post (.bool J)) (aKd F (aWq F Post) F 0)) XW (by rewrite[bMP F Post];kernel_rfl)
def aSa:Model UU
 |[.agg [.sl .bool G,.sl .bools I,.sl .bool u,.sl .int f,.sl .bool r],.sl .edge L,.int .i64 J]=>some ([aDr G I u f r L J],.bool (aBl G I u f r L J))
 |_=>none
def vQ:Cfg UU:=vP.add 95 aSa
theorem bGP:aW vQ:=cV bGM mixed func95 XW XW fun xs V r h L=>by
 unfold aSa at h;split at h
 ·rename_i I J G f u S O;cases h;obtain⟨F,hF⟩:=bKr I J G f u S O L;exact⟨XW,aBC,F,false,⟨by rw[bRL];exact hF _ rfl⟩⟩
 ·cases h
def bTB (F:Nat):=cY (bM aB2 F 0 vQ) vQ f81.ntmps aB2 F
def bJQ (F:Nat):=dO (bM aB2 F 0 vQ) vQ f81.ntmps aB2 F
abbrev bD3:=List Bool->Bool->Int->Int->Int->Prop
def aEz (k:ASt UU->Prop):bD3:=(fun I G u r f=>k ⟨tmL [(0,.sl .bool I),(1,.bool G),(4,.int .i64 u),(7,.int .i64 r),(8,.int .i64 f)],obL []⟩)
def bVK:=(cL (cB (cS (cF (cS (bo f81))))))
def aL1 (F:Nat) (K:zK) (n r:Nat):bD3:=aEz fun s=>iter (bTB F 0 bVK) (aB2 0 0) n r s K
def aXo (F:Nat) (Post:aC UU->Prop):zK:=bU 0 (bJQ F 0 (cS (cS (bo f81))) (bJ vQ false f81 Post))
theorem aVs (F:Nat) (K:zK):∀n r,aL1 F K n r=aHB F (aEz (K .ret)) (aEz (K (.exit 0))) n
 |0,_=>XW
 |n+1,r=>QY (b:=(fun J I G u f=>bAu (aL1 F K n (r+1)) (aEz (K .ret)) (aEz (K (.exit 0))) J I G u f)) XW (by rewrite[aVs F K n (r+1)];kernel_rfl)
theorem bNN (F:Nat) (Post:aC UU->Prop):aL1 F (aXo F Post) F 0=aIi F (fun f=>Post (.int .i64 f)):=
 (aVs F _ F 0).trans XW
theorem bRq (F:Nat) (Post:aC UU->Prop) (u:List Bool) (r:Bool):exec vQ f81.ntmps aB2 F 0 (bo f81) (dD [.sl .bool u,.bool r]) (bJ vQ false f81 Post)=aQo F u r (fun f=>Post (.int .i64 f)):=
 QY (b:=bAv u r (fun f=>Post (.int .i64 f)) (aL1 F (aXo F Post) F 0)) XW (by rewrite[bNN F Post];kernel_rfl)
def aTl:Model UU
 |[.sl .bool r,.bool f]=>some ([aHs r f],.int .i64 (aHX r f))
 |_=>none
def wN:Cfg UU:=vQ.add 81 aTl
theorem bH4:aW wN:=cV bGP mixed func81 XW XW fun xs I r h f=>by
 unfold aTl at h;split at h
 ·rename_i G u;cases h;obtain⟨F,hF⟩:=bL5 G u f;exact⟨XW,aB2,F,false,⟨by rw[bRq];exact hF _ rfl⟩⟩
 ·cases h
def bSg (F:Nat):=cY (bM aBH F 0 wN) wN f91.ntmps aBH F
def bIv (F:Nat):=dO (bM aBH F 0 wN) wN f91.ntmps aBH F
abbrev bDJ:=List aA->Int->Int->Int->Int->Int->Int->Prop
def aOY (k:ASt UU->Prop):bDJ:=(fun u r f J L I G=>k ⟨tmL [(3,.ptr 3 0),(9,.sl .rect u),(10,.int .i64 r),(11,.int .i64 f)],obL [(3,.cells [.int .i64 J,.int .i64 L,.int .i64 I,.int .i64 G])]⟩)
def bUa:=(cL (cB (cS (cF (cS (cS (bo f91)))))))
def aKs (F:Nat) (K:zK) (n r:Nat):bDJ:=aOY fun s=>iter (bSg F 0 bUa) (aBH 0 0) n r s K
def aXK (F:Nat) (Post:aC UU->Prop):zK:=bU 0 (bIv F 0 (cS (cS (cS (bo f91)))) (bJ wN false f91 Post))
theorem aVN (F:Nat) (K:zK):∀n r,aKs F K n r=aGb F (aOY (K (.exit 0))) n
 |0,_=>XW
 |n+1,r=>QY (b:=(fun G u f L O J I=>aZj (aKs F K n (r+1)) (aOY (K (.exit 0))) G u f L O J I)) XW (by rewrite[aVN F K n (r+1)];kernel_rfl)
theorem bM9 (F:Nat) (Post:aC UU->Prop):aKs F (aXK F Post) F 0=aIX F (fun f=>Post (.bool f)):=
 (aVN F _ F 0).trans XW
theorem bRX (F:Nat) (Post:aC UU->Prop) (L J:ByteArray) (I G:Int) (O u r:List aA):exec wN f91.ntmps aBH F 0 (bo f91) (dD [.agg [.str L,.str J,.int .i64 I,.int .i64 G,.sl .rect O,.sl .rect u,.sl .rect r]]) (bJ wN false f91 Post)=aQZ F L J I G O u r (fun f=>Post (.bool f)):=
 QY (b:=aZk L J I G O u r (fun f=>Post (.bool f)) (aKs F (aXK F Post) F 0)) XW (by rewrite[bM9 F Post];kernel_rfl)
def aSl:Model UU
 |[.agg [.str J,.str I,.int .i64 G,.int .i64 u,.sl .rect L,.sl .rect r,.sl .rect f]]=>some ([aDw J I G u L r f],.bool (aHN J I G u L r f))
 |_=>none
def bDo:Cfg UU:=wN.add 91 aSl
theorem bG0:aW bDo:=cV bH4 mixed func91 XW XW fun xs V r h S=>by
 unfold aSl at h;split at h
 ·rename_i L J I G O u f;cases h;obtain⟨F,hF⟩:=bLC L J I G O u f S;exact⟨XW,aBH,F,false,⟨by rw[bRX];exact hF _ rfl⟩⟩
 ·cases h
def aTm:Model UU
 |[.agg [.int .i64 O,.int .i64 L,.int .i64 J,.int .i64 I],.ref [.int .i64 G,.int .i64 u,.int .i64 r,.int .i64 f] 0]=>some ([],.bool (aMD O L J I G u r f))
 |_=>none
def wO:Cfg UU:=bDo.add 187 aTm
theorem bH5:aW wO:=tin bG0 mixed func187 XW XW false fun xs f r h=>by
 unfold aTm at h;split at h
 ·cases h;exact⟨XW,XW⟩
 ·cases h
def bSy (F:Nat):=cY (bM aBZ F 0 wO) wO f166.ntmps aBZ F
def bJN (F:Nat):=dO (bM aBZ F 0 wO) wO f166.ntmps aBZ F
abbrev bD1:=List aA->Int->Int->Int->Int->Int->Int->Int->Prop
def aEw (k:ASt UU->Prop):bD1:=(fun G I J L O u r f=>k ⟨tmL [(0,.sl .rect G),(1,.fn 187 [.ref [.int .i64 I,.int .i64 J,.int .i64 L,.int .i64 O] 0]),(4,.int .i64 u),(7,.int .i64 r),(8,.int .i64 f)],obL []⟩)
def bVH:=(cL (cB (cS (cF (cS (bo f166))))))
def aLY (F:Nat) (K:zK) (n r:Nat):bD1:=aEw fun s=>iter (bSy F 0 bVH) (aBZ 0 0) n r s K
def aXl (F:Nat) (Post:aC UU->Prop):zK:=bU 0 (bJN F 0 (cS (cS (bo f166))) (bJ wO false f166 Post))
theorem aVp (F:Nat) (K:zK):∀n r,aLY F K n r=aGz F (aEw (K .ret)) (aEw (K (.exit 0))) n
 |0,_=>XW
 |n+1,r=>QY (b:=(fun I J L O S G u f=>bAo (aLY F K n (r+1)) (aEw (K .ret)) (aEw (K (.exit 0))) I J L O S G u f)) XW (by rewrite[aVp F K n (r+1)];kernel_rfl)
theorem bNK (F:Nat) (Post:aC UU->Prop):aLY F (aXl F Post) F 0=aIg F (fun f=>Post (.int .i64 f)):=
 (aVp F _ F 0).trans XW
theorem bRn (F:Nat) (Post:aC UU->Prop) (l:List aA) (G u r f:Int):exec wO f166.ntmps aBZ F 0 (bo f166) (dD [.sl .rect l,.fn 187 [.ref [.int .i64 G,.int .i64 u,.int .i64 r,.int .i64 f] 0]]) (bJ wO false f166 Post)=aQl F l G u r f (fun I=>Post (.int .i64 I)):=
 QY (b:=bAp l G u r f (fun I=>Post (.int .i64 I)) (aLY F (aXl F Post) F 0)) XW (by rewrite[bNK F Post];kernel_rfl)
def aTi:Model UU
 |[.sl .rect l,.fn 187 [.ref [.int .i64 G,.int .i64 u,.int .i64 r,.int .i64 f] 0]]=>some ([aHp l G u r f],.int .i64 (aHU l G u r f))
 |_=>none
def bEW:Cfg UU:=wO.add 166 aTi
theorem bH1:aW bEW:=cV bH5 mixed func166 XW XW fun xs L r h J=>by
 unfold aTi at h;split at h
 ·rename_i l I G u f;cases h;obtain⟨F,hF⟩:=bL2 l I G u f J;exact⟨XW,aBZ,F,false,⟨by rw[bRn];exact hF _ rfl⟩⟩
 ·cases h
set_option maxRecDepth 100000
def aUK:Model UU
 |[.sl .bool r,.bool f]=>some ([yE r f],.bool (pO r f))
 |_=>none
def bEd:Cfg UU:=bEW.add 36 aUK
theorem bHu:aW bEd:=cV bH1 mixed func36 XW XW fun xs L r h I=>by
 unfold aUK at h;split at h
 ·rename_i u f;cases h;refine⟨XW,M0,0,false,⟨kF (fun Q:Bool->Prop=>((aHs u f)/\Q (decide (0<=(aHX u f))))) (fun Q=>Q (pO u f)) (fun G=>(.bool G:aC UU)=.bool (pO u f)) XW (fun Q h=>?_) rfl⟩⟩
  try dsimp only at h ⊢
  unfold pO at h;have hp:yE u f:=I;unfold yE at hp;have J:=hp;refine⟨J,?_⟩;exact h
 ·cases h
def aUE:Model UU
 |[.agg [.sl .bool L,.sl .bools O,.sl .bool J,.sl .int G,.sl .bool I],.sl .edge Z,.agg [.int .i64 S,.int .i64 u,.int .i64 V,.int .i64 r,.int .i64 f]]=>some ([yD L O J G I Z S u V r f],.bool (sM L O J G I Z S u V r f))
 |_=>none
def bEb:Cfg UU:=bEd.add 90 aUE
theorem bHo:aW bEb:=cV bHu mixed func90 XW XW fun xs cs r h hc=>by
 unfold aUE at h;split at h
 ·rename_i O f G L J Z u I qm V S;cases h;refine⟨XW,M0,0,false,⟨kF (fun Q:Bool->Prop=>((0<=u/\u<J.length)/\cond (J.getD u.toNat default) (Q false) (cond (decide (0<=I)) (((0<=u/\u<f.length)/\((0<=I/\I<(f.getD u.toNat default).length)/\Q (!((f.getD u.toNat default).getD I.toNat default))))) ((((0<=u/\u<G.length)/\(((!(G.getD u.toNat default))=true->((0<=u/\u<f.length)/\yE (f.getD u.toNat default) false))/\(((!(G.getD u.toNat default))&&(!(pO (f.getD u.toNat default) false)))=true->aDr O f G L J Z u)))/\Q (((!(G.getD u.toNat default))&&(!(pO (f.getD u.toNat default) false)))&&(!(aBl O f G L J Z u)))))))) (fun Q=>Q (sM O f G L J Z u I qm V S)) (fun r0=>(.bool r0:aC UU)=.bool (sM O f G L J Z u I qm V S)) XW (fun Q h=>?_) rfl⟩⟩
  try dsimp only at h ⊢
  unfold sM at h;have hp:yD O f G L J Z u I qm V S:=hc;unfold yD at hp;obtain⟨hJ,hp⟩:=hp;refine⟨hJ,?_⟩;cases cQ:((J.getD u.toNat default))
  ·try simp only[cQ,QJ] at h hp ⊢
   cases dE:(decide (0<=I))
   ·try simp only[dE,QJ] at h hp ⊢
    obtain⟨aOr,aOq,bOv⟩:=hp;refine⟨⟨aOr,aOq,bOv⟩,?_⟩;exact h
   ·try simp only[dE,QX] at h hp ⊢
    obtain⟨aOp,hp⟩:=hp;refine⟨aOp,?_⟩;have aFH:=hp;refine⟨aFH,?_⟩;exact h
  ·try simp only[cQ,QX] at h hp ⊢
   exact h
 ·cases h
def aUL:Model UU
 |[.sl .rect l,.fn 187 [.ref [.int .i64 G,.int .i64 u,.int .i64 r,.int .i64 f] 0]]=>some ([aHw l G u r f],.bool (aBw l G u r f))
 |_=>none
def wX:Cfg UU:=bEb.add 115 aUL
theorem bHw:aW wX:=cV bHo mixed func115 XW XW fun xs S r h L=>by
 unfold aUL at h;split at h
 ·rename_i l I G u f;cases h;refine⟨XW,M0,0,false,⟨kF (fun Q:Bool->Prop=>((aHp l I G u f)/\Q (decide (0<=(aHU l I G u f))))) (fun Q=>Q (aBw l I G u f)) (fun J=>(.bool J:aC UU)=.bool (aBw l I G u f)) XW (fun Q h=>?_) rfl⟩⟩
  try dsimp only at h ⊢
  unfold aBw at h;have hp:aHw l I G u f:=L;unfold aHw at hp;have O:=hp;refine⟨O,?_⟩;exact h
 ·cases h
def bS2 (F:Nat):=cY (bM aAt F 0 wX) wX f152.ntmps aAt F
def bIh (F:Nat):=dO (bM aAt F 0 wX) wX f152.ntmps aAt F
abbrev bCa:=List aA->Bool->Int->Int->List aA->Prop
def aET (k:ASt UU->Prop):bCa:=(fun G u r f I=>k ⟨tmL [(0,.sl .rect G),(4,.bool u),(49,.osl 60 0),(50,.int .i64 r),(51,.int .i64 f)],obL [(60,.row .rect 0 I)]⟩)
def bTu:=(cL (cB (cS (cF (cS (cS (bo f152)))))))
def aKN (F:Nat) (K:zK) (n r:Nat):bCa:=aET fun s=>iter (bS2 F 0 bTu) (aAt 0 0) n r s K
def aWQ (F:Nat) (Post:aC UU->Prop):zK:=bU 0 (bIh F 0 (cS (cS (cS (bo f152)))) (bJ wX false f152 Post))
theorem aUS (F:Nat) (K:zK):∀n r,aKN F K n r=aGK F (aET (K .ret)) (aET (K (.exit 0))) n
 |0,_=>XW
 |n+1,r=>QY (b:=(fun I G u f J=>aYN (aKN F K n (r+1)) (aET (K .ret)) (aET (K (.exit 0))) I G u f J)) XW (by rewrite[aUS F K n (r+1)];kernel_rfl)
theorem bLf (F:Nat) (Post:aC UU->Prop):aKN F (aWQ F Post) F 0=aIC F (fun f=>Post (.bool f)):=
 (aUS F _ F 0).trans XW
theorem bQv (F:Nat) (Post:aC UU->Prop) (G:List aA) (r u:Int):exec wX f152.ntmps aAt F 0 (bo f152) (dD [.sl .rect G,.agg [.int .i64 r,.int .i64 u]]) (bJ wX false f152 Post)=aQB F G r u (fun f=>Post (.bool f)):=
 QY (b:=aYO G r u (fun f=>Post (.bool f)) (aKN F (aWQ F Post) F 0)) XW (by rewrite[bLf F Post];kernel_rfl)
def aSU:Model UU
 |[.sl .rect u,.agg [.int .i64 f,.int .i64 r]]=>some ([aHf u f r],.bool (j9 u f r))
 |_=>none
def tJ:Cfg UU:=wX.add 152 aSU
theorem bFz:aW tJ:=cV bHw mixed func152 XW XW fun xs J r h f=>by
 unfold aSU at h;split at h
 ·rename_i I u G;cases h;obtain⟨F,hF⟩:=bKb I u G f;exact⟨XW,aAt,F,false,⟨by rw[bQv];exact hF _ rfl⟩⟩
 ·cases h
set_option maxRecDepth 100000
def bB5 (F:Nat):=cY (bM zM F 0 tJ) tJ f92.ntmps zM F
def aR3 (F:Nat):=dO (bM zM F 0 tJ) tJ f92.ntmps zM F
abbrev bCm:=List Edg->Bool->List Pce->Int->Int->List Bool->zzB->List Bool->zzI->List Bool->Int->Int->Int->Int->Int->Int->Int->Prop
def aE0 (k:ASt UU->Prop):bCm:=(fun I G u r f V S J L O aX bE bG bH Z aP aT=>k ⟨tmL [(2,.sl .edge I),(4,.ptr 4 0),(7,.ptr 7 0),(8,.bool G),(9,.ptr 9 0),(95,.sl .pc u),(96,.int .i64 r),(97,.int .i64 f)],obL [(4,.cells [.sl .bool V,.sl .bools S,.sl .bool J,.sl .int L,.sl .bool O]),(7,.cells [.int .i64 aX,.int .i64 bE,.int .i64 bG,.int .i64 bH,.int .i64 Z]),(9,.cells [.int .i64 aP,.int .i64 aT])]⟩)
abbrev bCl:=Bool->List Edg->Int->Int->List Bool->zzB->List Bool->zzI->List Bool->Int->Int->Int->Int->Int->Int->Int->Prop
def aEZ (k:ASt UU->Prop):bCl:=(fun G u r f S O I J L aX bE bG Z V aP aT=>k ⟨tmL [(4,.ptr 4 0),(7,.ptr 7 0),(8,.bool G),(9,.ptr 9 0),(106,.sl .edge u),(107,.int .i64 r),(108,.int .i64 f)],obL [(4,.cells [.sl .bool S,.sl .bools O,.sl .bool I,.sl .int J,.sl .bool L]),(7,.cells [.int .i64 aX,.int .i64 bE,.int .i64 bG,.int .i64 Z,.int .i64 V]),(9,.cells [.int .i64 aP,.int .i64 aT])]⟩)
def bUJ:=(cL (cB (cS (cF (cS4 (bo f92))))))
def bUI:=(cL (cB (cS (cF (cS4 (cS (bo f92)))))))
def aK2 (F:Nat) (K:zK) (n r:Nat):bCm:=aE0 fun s=>iter (bB5 F 0 bUJ) (zM 0 0) n r s K
def aK1 (F:Nat) (K:zK) (n r:Nat):bCl:=aEZ fun s=>iter (bB5 F 2 bUI) (zM 0 2) n r s K
def aWa (F:Nat) (Post:aC UU->Prop):zK:=bU 0 (aR3 F 0 (cS4 (cS (bo f92))) (bJ tJ false f92 Post))
def aW9 (F:Nat) (Post:aC UU->Prop):zK:=bU 2 (aR3 F 0 (cS4 (cS (cS (bo f92)))) (bJ tJ false f92 Post))
theorem aUb (F:Nat) (K:zK):∀n r,aK1 F K n r=aGU F (aEZ (K .ret)) (aEZ (K (.exit 2))) n
 |0,_=>XW
 |n+1,r=>QY (b:=(fun I G u f V S J L O aX bE bG bH Z aP aT=>aYk (aK1 F K n (r+1)) (aEZ (K .ret)) (aEZ (K (.exit 2))) I G u f V S J L O aX bE bG bH Z aP aT)) XW (by rewrite[aUb F K n (r+1)];kernel_rfl)
theorem bLy (F:Nat) (Post:aC UU->Prop):aK1 F (aW9 F Post) F 0=aIM F (fun f=>Post (.bool f)):=
 (aUb F _ F 0).trans XW
theorem aUc (F:Nat) (K:zK):∀n r,aK2 F K n r=aDI F (aE0 (K .ret)) (aE0 (K (.exit 0))) n
 |0,_=>XW
 |n+1,r=>QY (b:=(fun J I G u f Z V L O S aX bE bG bH bW aP aT=>aYl (aK2 F K n (r+1)) (aE0 (K .ret)) (aE0 (K (.exit 0))) J I G u f Z V L O S aX bE bG bH bW aP aT)) XW (by rewrite[aUc F K n (r+1)];kernel_rfl)
theorem bLz (F:Nat) (Post:aC UU->Prop):aK2 F (aWa F Post) F 0=aNI F (fun G=>Post (.bool G)):=
 (aUc F _ F 0).trans (QY (b:=aDI F (fun J I u r f Z V L O S aX bE bG bH bW aP aT=>aYo (fun G=>Post (.bool G)) J I u r f Z V L O S aX bE bG bH bW aP aT) (fun J I u r f Z V L O S aX bE bG bH bW aP aT=>aYn (fun G=>Post (.bool G)) J I u r f Z V L O S aX bE bG bH bW aP aT (aK1 F (aW9 F Post) F 0)) F) XW (by rewrite[bLy F Post];kernel_rfl))
theorem bRE (F:Nat) (Post:aC UU->Prop) (I:List Bool) (J:zzB) (u:List Bool) (f:zzI) (r:List Bool) (z0 z1:ByteArray) (z2 z3 Z V:Int) (S O:List aA) (L:List Pce) (a2:List Edg) (qb qn G qu qv:Int):exec tJ f92.ntmps zM F 0 (bo f92) (dD [.agg [.sl .bool I,.sl .bools J,.sl .bool u,.sl .int f,.sl .bool r],.agg [.str z0,.str z1,.int .i64 z2,.int .i64 z3,.int .i64 Z,.int .i64 V,.sl .rect S,.sl .rect O,.sl .pc L],.sl .edge a2,.agg [.int .i64 qb,.int .i64 qn,.int .i64 G,.int .i64 qu,.int .i64 qv]]) (bJ tJ false f92 Post)=aQK F I J u f r z0 z1 z2 z3 Z V S O L a2 qb qn G qu qv (fun r0=>Post (.bool r0)):=
 QY (b:=aYm I J u f r z0 z1 z2 z3 Z V S O L a2 qb qn G qu qv (fun r0=>Post (.bool r0)) (aK2 F (aWa F Post) F 0)) XW (by rewrite[bLz F Post];kernel_rfl)
def aS3:Model UU
 |[.agg [.sl .bool I,.sl .bools J,.sl .bool u,.sl .int f,.sl .bool r],.agg [.str z0,.str z1,.int .i64 z2,.int .i64 z3,.int .i64 Z,.int .i64 V,.sl .rect S,.sl .rect O,.sl .pc L],.sl .edge a2,.agg [.int .i64 qb,.int .i64 qn,.int .i64 G,.int .i64 qu,.int .i64 qv]]=>some ([aDq I J u f r z0 z1 z2 z3 Z V S O L a2 qb qn G qu qv],.bool (aD6 I J u f r z0 z1 z2 z3 Z V S O L a2 qb qn G qu qv))
 |_=>none
def bDg:Cfg UU:=tJ.add 92 aS3
theorem bGI:aW bDg:=cV bFz mixed func92 XW XW fun xs cs r h hc=>by
 unfold aS3 at h;split at h
 ·rename_i J L G f u z0 z1 z2 z3 z4 Z V S O a2 qb qn I qu qv;cases h;obtain⟨F,hF⟩:=bKk J L G f u z0 z1 z2 z3 z4 Z V S O a2 qb qn I qu qv hc;exact⟨XW,zM,F,false,⟨by rw[bRE];exact hF _ rfl⟩⟩
 ·cases h
end
end Go.Proofs.YtjjbojomlfgjlaaGreatDoor
namespace Go.Proofs.YtjjbojomlfgjlaaGreatDoor
open Go.Proofs.Tryz
open Go.Vm Go.RowKit Go.Lib
set_option linter.unusedVariables false
noncomputable section
set_option maxHeartbeats 2000000 in
theorem bBp (L:Addr) (n c:Nat) (f:Nat->Value) (w:World) (hbig:n*1<=140737488355328) (V:∀j,j<n*1->w.cell? (L.add j)=some (f j)) (Z:∀j,j<n*1->(f j).oneCell'=true):
  Calls prog 154 #[.slice (some L) n c] w fun e w'=>∃I,e=.returned I/\w'.ownsRow w.heap.size 4 1 I n ((List.range (n*1)).map f)/\(∀a,I≠ .pointer a)/\Below w.heap.size w w':=by
 have w6:∀(w:World) (a:Option Addr) (n c n' S:Nat),(binOp .eql 43 (.slice a n c) (.slice none n' S)).run prog w=.ok (.bool a.isNone) w:=fun w a n c n' S=>Lib.run_eql_slice_nil w _ _ a n c n' S underlying43
 obtain⟨i0,hi,qA,mO,qS⟩:=info_parts (P:=prog) (e:=4) (z:=.bool false) (size:=1) (bytes:=1) XW;have A:Aside ((∀j,j<n*1->w.cell? (L.add j)=some (f j))/\∀j,j<n*1->(f j).oneCell'=true):=⟨V,Z⟩;clear V Z
 go_enter func154,ntmps154
 go_wp2_with (at_builtin;refine wpList_append_own _ rfl _ _ 43 rfl w.heap.size 4 i0 (.bool false) 1 1 underlying43 hi qA mO qS rfl (by decide) _ _ _ rfl (World.ownsRow_made w #[] 0 (JX _) (Nat.zero_le _) rfl) L n c ((List.range (n*1)).map f) rfl ?u7 ?u6 ?u4 ?s8 ?s7 ?s6 ?_)
 case u7=>simp
 case u6=>
  intro j u O;have J:j<n*1:=by
   have:=(QA.1 O).1;simpa using this
  refine Lib.cell?_alloc_some _ ?_;rw[A.out.1 j J];rw[KM,XK J] at O;exact O
 case u4=>
  intro u hu;obtain⟨x,hx,rfl⟩:=KY.1 hu;exact A.out.2 x (JD.1 hx)
 case s8=>unfold maxLen;omega
 case s7=>omega
 case s6=>simp
 intro I w1 r G hnil
 go_wp2
 go_ret
 refine⟨I,rfl,by simpa using r,?_,?_⟩
 ·intro a e;subst e;rcases r.2 with ⟨h,_⟩|⟨_,_,_,h,_⟩<;>cases h
 ·exact((Below.refl _ w).alloc (JX _) _).grown G XU (by intro k hk;simp[Value.ownBlock] at hk;omega)
set_option maxHeartbeats 2000000 in
theorem bTa (w:World):
  Calls prog 154 #[.slice none 0 0] w fun e w'=>e=.returned (.slice none 0 0)/\w'=w:=by
 have r:∀(w:World) (a:Option Addr) (n c n' f:Nat),(binOp .eql 43 (.slice a n c) (.slice none n' f)).run prog w=.ok (.bool a.isNone) w:=fun w a n c n' f=>Lib.run_eql_slice_nil w _ _ a n c n' f underlying43
 go_enter func154,ntmps154
 go_wp2
 go_ret
 exact⟨rfl,rfl⟩
def aNo:Model UU
 |[.sl .bool xs]=>some ([xs.length<=2000000],.new .bool xs)
 |_=>none
theorem bIJ {C:Cfg UU} (hE:C.E=EE) (hs:aW C) (hP:C.P=prog):aW (C.add 154 aNo):=by
 refine hs.put ⟨fun J w=>by rw[hP];exact kQ (fn:=f154) func154 XW rfl J w,?_⟩;intro N w J xs cs r hinv hN L hm Z;unfold aNo at hm;split at hm
 ·rename_i l;cases hm;have hc':l.length<=2000000:=Z;obtain⟨a,rfl,ha⟩:=aCs L;rw[hP];rw[hE] at ha ⊢;cases ha with
  |lJ=>
   refine(bTa w).mono ?_
   rintro e w' ⟨rfl,rfl⟩
   refine⟨_,rfl,qU (cs:=[]) (Below.refl _ _) (JE _ _ _ _) (by intro a e;cases e) (fun i h=>absurd h XU),Below.refl _ _⟩
  |sle _ ad=>
   refine(bBp ad 0 0 (fun _=>undef) w XY (fun j I=>absurd I XY) (fun j I=>absurd I XY)).mono ?_
   rintro e w' ⟨v',rfl,h1,h2,S⟩
   exact⟨_,rfl,qU S h1 h2 (fun i h=>absurd h XU),S⟩
  |sl _ _ b o cap f hb hcap Z hl=>
   have V:∀j,j<l.length*1->∃i k,∃(hi:i<l.length) (O:k<(EE.enc .bool l[i]).length),j=i*UU.size .bool+k:=fun j I=>by
    have hi:j / 1<l.length:=XY;refine⟨j / 1,j % 1,hi,by rw[EE.enc_len];exact Nat.mod_lt _ (by decide),?_⟩;show j=j / 1*1+j % 1;omega
   refine(bBp ⟨b,o,none⟩ l.length cap f w XY (fun j I=>by rw[Addr.rX];exact Z j I) (fun j I=>?_)).mono ?_
   ·obtain⟨i,k,hi,O,rfl⟩:=V j I;have G:=EE.enc_flat _ _ _ (QN O);exact(hl i hi k O).sS G.2 (fun nm g u h=>by cases h) (fun id g h=>by rw[h] at G;cases G.1) (fun id g i off sz h=>by rw[h] at G;cases G.1) (fun id i g h=>by rw[h] at G;cases G.1) (fun id i g j off sz h=>by rw[h] at G;cases G.1)
   ·rintro e w' ⟨v',rfl,h1,h2,S⟩
    refine⟨_,rfl,qU S h1 h2 (fun i hi k O=>?_),S⟩;have hk':k<1:=by
     have:=O;rw[EE.enc_len] at this;exact this
    rw[show i*UU.size .bool+k=i*1+k from rfl,aIo _ _ _ (by
     have:i*1+1<=l.length*1:=by
      have:=JY 1 (show i+1<=l.length from hi);omega
     omega)]
    exact hl i hi k O
 ·cases hm
set_option maxHeartbeats 2000000 in
theorem bBo (L:Addr) (n c:Nat) (f:Nat->Value) (w:World) (hbig:n*8<=140737488355328) (V:∀j,j<n*1->w.cell? (L.add j)=some (f j)) (Z:∀j,j<n*1->(f j).oneCell'=true):
  Calls prog 155 #[.slice (some L) n c] w fun e w'=>∃I,e=.returned I/\w'.ownsRow w.heap.size 3 1 I n ((List.range (n*1)).map f)/\(∀a,I≠ .pointer a)/\Below w.heap.size w w':=by
 have w6:∀(w:World) (a:Option Addr) (n c n' S:Nat),(binOp .eql 45 (.slice a n c) (.slice none n' S)).run prog w=.ok (.bool a.isNone) w:=fun w a n c n' S=>Lib.run_eql_slice_nil w _ _ a n c n' S underlying45
 obtain⟨i0,hi,qA,mO,qS⟩:=info_parts (P:=prog) (e:=3) (z:=.int .i64 0) (size:=1) (bytes:=8) XW;have A:Aside ((∀j,j<n*1->w.cell? (L.add j)=some (f j))/\∀j,j<n*1->(f j).oneCell'=true):=⟨V,Z⟩;clear V Z
 go_enter func155,ntmps155
 go_wp2_with (at_builtin;refine wpList_append_own _ rfl _ _ 45 rfl w.heap.size 3 i0 (.int .i64 0) 1 8 underlying45 hi qA mO qS rfl (by decide) _ _ _ rfl (World.ownsRow_made w #[] 0 (JX _) (Nat.zero_le _) rfl) L n c ((List.range (n*1)).map f) rfl ?u7 ?u6 ?u4 ?s8 ?s7 ?s6 ?_)
 case u7=>simp
 case u6=>
  intro j u O;have J:j<n*1:=by
   have:=(QA.1 O).1;simpa using this
  refine Lib.cell?_alloc_some _ ?_;rw[A.out.1 j J];rw[KM,XK J] at O;exact O
 case u4=>
  intro u hu;obtain⟨x,hx,rfl⟩:=KY.1 hu;exact A.out.2 x (JD.1 hx)
 case s8=>unfold maxLen;omega
 case s7=>omega
 case s6=>simp
 intro I w1 r G hnil
 go_wp2
 go_ret
 refine⟨I,rfl,by simpa using r,?_,?_⟩
 ·intro a e;subst e;rcases r.2 with ⟨h,_⟩|⟨_,_,_,h,_⟩<;>cases h
 ·exact((Below.refl _ w).alloc (JX _) _).grown G XU (by intro k hk;simp[Value.ownBlock] at hk;omega)
set_option maxHeartbeats 2000000 in
theorem bT9 (w:World):
  Calls prog 155 #[.slice none 0 0] w fun e w'=>e=.returned (.slice none 0 0)/\w'=w:=by
 have r:∀(w:World) (a:Option Addr) (n c n' f:Nat),(binOp .eql 45 (.slice a n c) (.slice none n' f)).run prog w=.ok (.bool a.isNone) w:=fun w a n c n' f=>Lib.run_eql_slice_nil w _ _ a n c n' f underlying45
 go_enter func155,ntmps155
 go_wp2
 go_ret
 exact⟨rfl,rfl⟩
def aNn:Model UU
 |[.sl .int xs]=>some ([xs.length<=2000000],.new .int xs)
 |_=>none
theorem bII {C:Cfg UU} (hE:C.E=EE) (hs:aW C) (hP:C.P=prog):aW (C.add 155 aNn):=by
 refine hs.put ⟨fun J w=>by rw[hP];exact kQ (fn:=f155) func155 XW rfl J w,?_⟩;intro N w J xs cs r hinv hN L hm Z;unfold aNn at hm;split at hm
 ·rename_i l;cases hm;have hc':l.length<=2000000:=Z;obtain⟨a,rfl,ha⟩:=aCs L;rw[hP];rw[hE] at ha ⊢;cases ha with
  |lJ=>
   refine(bT9 w).mono ?_
   rintro e w' ⟨rfl,rfl⟩
   refine⟨_,rfl,qU (cs:=[]) (Below.refl _ _) (JE _ _ _ _) (by intro a e;cases e) (fun i h=>absurd h XU),Below.refl _ _⟩
  |sle _ ad=>
   refine(bBo ad 0 0 (fun _=>undef) w XY (fun j I=>absurd I XY) (fun j I=>absurd I XY)).mono ?_
   rintro e w' ⟨v',rfl,h1,h2,S⟩
   exact⟨_,rfl,qU S h1 h2 (fun i h=>absurd h XU),S⟩
  |sl _ _ b o cap f hb hcap Z hl=>
   have V:∀j,j<l.length*1->∃i k,∃(hi:i<l.length) (O:k<(EE.enc .int l[i]).length),j=i*UU.size .int+k:=fun j I=>by
    have hi:j / 1<l.length:=XY;refine⟨j / 1,j % 1,hi,by rw[EE.enc_len];exact Nat.mod_lt _ (by decide),?_⟩;show j=j / 1*1+j % 1;omega
   refine(bBo ⟨b,o,none⟩ l.length cap f w XY (fun j I=>by rw[Addr.rX];exact Z j I) (fun j I=>?_)).mono ?_
   ·obtain⟨i,k,hi,O,rfl⟩:=V j I;have G:=EE.enc_flat _ _ _ (QN O);exact(hl i hi k O).sS G.2 (fun nm g u h=>by cases h) (fun id g h=>by rw[h] at G;cases G.1) (fun id g i off sz h=>by rw[h] at G;cases G.1) (fun id i g h=>by rw[h] at G;cases G.1) (fun id i g j off sz h=>by rw[h] at G;cases G.1)
   ·rintro e w' ⟨v',rfl,h1,h2,S⟩
    refine⟨_,rfl,qU S h1 h2 (fun i hi k O=>?_),S⟩;have hk':k<1:=by
     have:=O;rw[EE.enc_len] at this;exact this
    rw[show i*UU.size .int+k=i*1+k from rfl,aIo _ _ _ (by
     have:i*1+1<=l.length*1:=by
      have:=JY 1 (show i+1<=l.length from hi);omega
     omega)]
    exact hl i hi k O
 ·cases hm
def bEg:Cfg UU:=bDg.add 154 aNo
theorem bHz:aW bEg:=bIJ rfl bGI rfl
def nA:Cfg UU:=bEg.add 155 aNn
theorem bIA:aW nA:=bII rfl bHz rfl
end
end Go.Proofs.YtjjbojomlfgjlaaGreatDoor
namespace Go.Proofs.YtjjbojomlfgjlaaGreatDoor
open Go.Proofs.Tryz
open Go.Vm Go.RowKit
set_option linter.unusedVariables false
set_option maxRecDepth 100000
noncomputable section
def bB7 (F:Nat):=cY (bM pF F 4 (gK nA).eO) (gK nA).eO f40.ntmps pF F
def aM3 (F:Nat):=dO (bM pF F 4 (gK nA).eO) (gK nA).eO f40.ntmps pF F
abbrev bCy:=zzB->Int->Int->List Edg->ByteArray->ByteArray->Int->Int->Int->Int->List aA->List aA->List Pce->Int->Int->Int->Int->Int->List Bool->List Bool->zzI->List Bool->zzB->Prop
def aOQ (k:ASt UU->Prop):bCy:=(fun u r f G bX bY cD cC bZ V Z hU gG aX bE bG bH bW S O L J I=>k ⟨tmL [(2,.ptr 109002 0),(3,.ptr 109003 0),(20,.sl .bools u),(21,.int .i64 r),(22,.int .i64 f),(1000001,.sl .edge G),(1000004,.ptr 4 0),(1000007,.ptr 7 0),(1000008,.ptr 8 0)],obL [(109035,.row .bool 0 S),(109036,.row .bool 0 O),(109037,.row .int 0 L),(109038,.row .bool 0 J),(109039,.deep .bools 0 0 I),(4,.cells [.str bX,.str bY,.int .i64 cD,.int .i64 cC,.int .i64 bZ,.int .i64 V,.sl .rect Z,.sl .rect hU,.sl .pc gG]),(7,.cells [.int .i64 aX,.int .i64 bE,.int .i64 bG,.int .i64 bH,.int .i64 bW]),(8,.cells [.nils,.nils,.nils,.nils,.nils]),(109002,.cells [.nils,.nils,.nils,.nils,.nils]),(109003,.cells [.osl 109035 0,.osl 109039 0,.osl 109036 0,.osl 109037 0,.osl 109038 0])]⟩)
abbrev bCx:=List Edg->Int->Int->List Bool->zzB->List Bool->zzI->List Bool->Prop
def aOP (k:ASt UU->Prop):bCx:=(fun u r f I G O L J=>k ⟨tmL [(1,.sl .edge u),(8,.ptr 8 0),(10,.ptr 10 0),(151,.int .i64 r),(152,.int .i64 f)],obL [(181,.row .bool 0 I),(182,.deep .bools 0 0 G),(183,.row .bool 0 O),(184,.row .int 0 L),(185,.row .bool 0 J),(8,.cells [.nils,.nils,.nils,.nils,.nils]),(10,.cells [.osl 181 0,.osl 182 0,.osl 183 0,.osl 184 0,.osl 185 0])]⟩)
abbrev bCw:=List Edg->List Edg->Int->Int->ByteArray->ByteArray->Int->Int->Int->Int->List aA->List aA->List Pce->Int->Int->Int->Int->Int->List Bool->zzB->List Bool->zzI->List Bool->Prop
def aOO (k:ASt UU->Prop):bCw:=(fun G u r f bX bY cD cC bZ I J L O aX bE bG bH bW V S fR fU Z=>k ⟨tmL [(1,.sl .edge G),(4,.ptr 4 0),(7,.ptr 7 0),(8,.ptr 8 0),(10,.ptr 10 0),(133,.sl .edge u),(134,.int .i64 r),(135,.int .i64 f)],obL [(181,.row .bool 0 V),(182,.deep .bools 0 0 S),(183,.row .bool 0 fR),(184,.row .int 0 fU),(185,.row .bool 0 Z),(4,.cells [.str bX,.str bY,.int .i64 cD,.int .i64 cC,.int .i64 bZ,.int .i64 I,.sl .rect J,.sl .rect L,.sl .pc O]),(7,.cells [.int .i64 aX,.int .i64 bE,.int .i64 bG,.int .i64 bH,.int .i64 bW]),(8,.cells [.nils,.nils,.nils,.nils,.nils]),(10,.cells [.osl 181 0,.osl 182 0,.osl 183 0,.osl 184 0,.osl 185 0])]⟩)
def bU1:=(cL (cB (cS (cF (cS (cS (bo f93)))))))
def bU0:=(cL (cB (cS (cF (cS4 (bo f40))))))
def bUZ:=(cL (cB (cS (cS (cE (cS (cF (cS (cS (cS (bo f40)))))))))))
def aKj (F:Nat) (K:zK) (n r:Nat):bCy:=aOQ fun s=>iter (cY (bM pF F 3 ((gK nA).eO.at 109000)) ((gK nA).eO.at 109000) f93.ntmps pF F 0 bU1) (pF 109000 0) n r s K
def aFm (F:Nat) (K:zK) (n r:Nat):bCx:=aOP fun s=>iter (bB7 F 3 bU0) (pF 0 3) n r s K
def aKi (F:Nat) (K:zK) (n r:Nat):bCw:=aOO fun s=>iter (bB7 F 1 bUZ) (pF 0 1) n r s K
def aWy (F:Nat) (Post:aC UU->Prop):zK:=bU 0 (dO (bM pF F 3 ((gK nA).eO.at 109000)) ((gK nA).eO.at 109000) f93.ntmps pF F 0 (cS (cS (cS (bo f93)))) (aOf (bM pF F 4 (gK nA).eO) (gK nA).eO f40.ntmps (cR (cF (cS (cS (bo f40))))) 4 2 f93 (some 108) (fun f=>(aM3 F 0 (cS (cS (cS (bo f40)))) (bJ (gK nA).eO false f40 Post)) .normal f)))
def aOd (F:Nat) (Post:aC UU->Prop):zK:=bU 3 (aM3 F 0 (cS4 (cS (bo f40))) (bJ (gK nA).eO false f40 Post))
def aWx (F:Nat) (Post:aC UU->Prop):zK:=bU 1 (aM3 F 0 (cS4 (bo f40)) (bJ (gK nA).eO false f40 Post))
theorem aVA (F:Nat) (K:zK):∀n r,aFm F K n r=aG4 F (aOP (K (.exit 3))) n
 |0,_=>XW
 |n+1,r=>QY (b:=(fun G u f J I S O L=>aZW (aFm F K n (r+1)) (aOP (K (.exit 3))) G u f J I S O L)) XW (by rewrite[aVA F K n (r+1)];kernel_rfl)
theorem aRt (F:Nat) (Post:aC UU->Prop):aFm F (aOd F Post) F 0=aEK F (fun r I u J G f=>Post (.tup [.agg [.sl .bool r,.sl .bools I,.sl .bool u,.sl .int J,.sl .bool G],.int .i64 f])):=
 (aVA F _ F 0).trans XW
theorem aUz (F:Nat) (K:zK):∀n r,aKi F K n r=aDO F (aOO (K (.exit 1))) n
 |0,_=>XW
 |n+1,r=>QY (b:=(fun I G u f bX bY cD cC bZ J L O S aX bE bG bH bW Z V fR fU gC=>aZV (aKi F K n (r+1)) (aOO (K (.exit 1))) I G u f bX bY cD cC bZ J L O S aX bE bG bH bW Z V fR fU gC)) XW (by rewrite[aUz F K n (r+1)];kernel_rfl)
theorem bMW (F:Nat) (Post:aC UU->Prop):aKi F (aWx F Post) F 0=aIR F (fun I O J S L G=>Post (.tup [.agg [.sl .bool I,.sl .bools O,.sl .bool J,.sl .int S,.sl .bool L],.int .i64 G])):=
 (aUz F _ F 0).trans (QY (b:=aDO F (fun V u r f bX bY cD cC bZ Z iA hU gG aX bE bG bH bW gD gF fR fU gC=>aZZ (fun I O J S L G=>Post (.tup [.agg [.sl .bool I,.sl .bools O,.sl .bool J,.sl .int S,.sl .bool L],.int .i64 G])) V u r f bX bY cD cC bZ Z iA hU gG aX bE bG bH bW gD gF fR fU gC (aFm F (aOd F Post) F 0)) F) XW (by rewrite[aRt F Post];kernel_rfl))
theorem aVB (F:Nat) (K:zK):∀n r,aKj F K n r=aDP F (aOQ (K (.exit 0))) n
 |0,_=>XW
 |n+1,r=>QY (b:=(fun G u f I bX bY cD cC bZ Z iA hU gG aX bE bG bH bW V S O L J=>aZX (aKj F K n (r+1)) (aOQ (K (.exit 0))) G u f I bX bY cD cC bZ Z iA hU gG aX bE bG bH bW V S O L J)) XW (by rewrite[aVB F K n (r+1)];kernel_rfl)
theorem bMX (F:Nat) (Post:aC UU->Prop):aKj F (aWy F Post) F 0=aEL F (fun r I u J G f=>Post (.tup [.agg [.sl .bool r,.sl .bools I,.sl .bool u,.sl .int J,.sl .bool G],.int .i64 f])):=
 (aVB F _ F 0).trans (QY (b:=aDP F (fun S O L V bX bY cD cC bZ iB iA hU gG aX bE bG bH bW qbo qbp qbq qbr Z=>aZ0 (fun r I u J G f=>Post (.tup [.agg [.sl .bool r,.sl .bools I,.sl .bool u,.sl .int J,.sl .bool G],.int .i64 f])) S O L V bX bY cD cC bZ iB iA hU gG aX bE bG bH bW qbo qbp qbq qbr Z (aFm F (aOd F Post) F 0) (aKi F (aWx F Post) F 0)) F) XW (by rewrite[aRt F Post,bMW F Post];kernel_rfl))
theorem bRQ (F:Nat) (Post:aC UU->Prop) (Z V:ByteArray) (S O L J:Int) (I G:List aA) (u:List Pce) (a1:List Edg) (r:List Bool) (qo:zzB) (qt:List Bool) (qm:zzI) (qq:List Bool) (qb qn f qu qv:Int):exec (gK nA).eO f40.ntmps pF F 0 (bo f40) (dD [.agg [.str Z,.str V,.int .i64 S,.int .i64 O,.int .i64 L,.int .i64 J,.sl .rect I,.sl .rect G,.sl .pc u],.sl .edge a1,.agg [.sl .bool r,.sl .bools qo,.sl .bool qt,.sl .int qm,.sl .bool qq],.agg [.int .i64 qb,.int .i64 qn,.int .i64 f,.int .i64 qu,.int .i64 qv]]) (bJ (gK nA).eO false f40 Post)=aQT F Z V S O L J I G u a1 r qo qt qm qq qb qn f qu qv (fun eN eK eM eJ eL r1=>Post (.tup [.agg [.sl .bool eN,.sl .bools eK,.sl .bool eM,.sl .int eJ,.sl .bool eL],.int .i64 r1])):=
 QY (b:=aZY Z V S O L J I G u a1 r qo qt qm qq qb qn f qu qv (fun eN eK eM eJ eL r1=>Post (.tup [.agg [.sl .bool eN,.sl .bools eK,.sl .bool eM,.sl .int eJ,.sl .bool eL],.int .i64 r1])) (aKj F (aWy F Post) F 0)) XW (by rewrite[bMX F Post];kernel_rfl)
def aSe:Model UU
 |[.agg [.str Z,.str V,.int .i64 S,.int .i64 O,.int .i64 L,.int .i64 J,.sl .rect I,.sl .rect G,.sl .pc u],.sl .edge a1,.agg [.sl .bool r,.sl .bools qo,.sl .bool qt,.sl .int qm,.sl .bool qq],.agg [.int .i64 qb,.int .i64 qn,.int .i64 f,.int .i64 qu,.int .i64 qv]]=>some ([aDs Z V S O L J I G u a1 r qo qt qm qq qb qn f qu qv],.tup [.agg [.sl .bool ((jJ Z V S O L J I G u a1 r qo qt qm qq qb qn f qu qv).1),.sl .bools ((jJ Z V S O L J I G u a1 r qo qt qm qq qb qn f qu qv).2.1),.sl .bool ((jJ Z V S O L J I G u a1 r qo qt qm qq qb qn f qu qv).2.2.1),.sl .int ((jJ Z V S O L J I G u a1 r qo qt qm qq qb qn f qu qv).2.2.2.1),.sl .bool ((jJ Z V S O L J I G u a1 r qo qt qm qq qb qn f qu qv).2.2.2.2.1)],.int .i64 ((jJ Z V S O L J I G u a1 r qo qt qm qq qb qn f qu qv).2.2.2.2.2)])
 |_=>none
def bDk:Cfg UU:=nA.add 40 aSe
theorem bGT:aW bDk:=(bC6 rfl bIA) mixed (c:=bo f40) func40 XW XW fun xs cs r h hc=>by
 unfold aSe at h;split at h
 ·rename_i y0 Z V S O L J I G a1 u qo qt qm qq qb qn f qu qv;cases h;obtain⟨F,hF⟩:=bKv y0 Z V S O L J I G a1 u qo qt qm qq qb qn f qu qv hc;exact⟨XW,pF,F,false,⟨by rw[bRQ];exact hF _ rfl⟩⟩
 ·cases h
set_option maxRecDepth 100000
def aUJ:Model UU
 |[.agg [.str y0,.str y1,.int .i64 y2,.int .i64 y3,.int .i64 y4,.int .i64 Z,.sl .rect V,.sl .rect S,.sl .pc O],.agg [.sl .bool qy,.sl .bools L,.sl .bool J,.sl .int I,.sl .bool G],.agg [.int .i64 qz,.int .i64 u,.int .i64 qm,.int .i64 r,.int .i64 f]]=>some ([aCT y0 y1 y2 y3 y4 Z V S O qy L J I G qz u qm r f],.tup [.agg [.sl .bool ((jY y0 y1 y2 y3 y4 Z V S O qy L J I G qz u qm r f).1),.sl .bools ((jY y0 y1 y2 y3 y4 Z V S O qy L J I G qz u qm r f).2.1),.sl .bool ((jY y0 y1 y2 y3 y4 Z V S O qy L J I G qz u qm r f).2.2.1),.sl .int ((jY y0 y1 y2 y3 y4 Z V S O qy L J I G qz u qm r f).2.2.2.1),.sl .bool ((jY y0 y1 y2 y3 y4 Z V S O qy L J I G qz u qm r f).2.2.2.2.1)],.int .i64 ((jY y0 y1 y2 y3 y4 Z V S O qy L J I G qz u qm r f).2.2.2.2.2)])
 |_=>none
def bEc:Cfg UU:=bDk.add 17 aUJ
theorem bHt:aW bEc:=cV bGT mixed func17 XW XW fun xs cs r h hc=>by
 unfold aUJ at h;split at h
 ·rename_i y0 y1 y2 y3 y4 y5 Z V S qy O L J I qz G qm u f;cases h;refine⟨XW,M0,0,false,⟨kF (fun Q:(List Bool)->(zzB)->(List Bool)->(zzI)->(List Bool)->Int->Prop=>((rI y0 y1 y2 y3 y4 y5 Z V S)/\cond (((dK y0 y1 y2 y3 y4 y5 Z V S).2) !=0) (Q ([]) ([]) ([]) ([]) ([]) ((dK y0 y1 y2 y3 y4 y5 Z V S).2)) (((aDs y0 y1 y2 y3 y4 y5 Z V S ((dK y0 y1 y2 y3 y4 y5 Z V S).1) qy O L J I qz G qm u f)/\Q ((jJ y0 y1 y2 y3 y4 y5 Z V S ((dK y0 y1 y2 y3 y4 y5 Z V S).1) qy O L J I qz G qm u f).1) ((jJ y0 y1 y2 y3 y4 y5 Z V S ((dK y0 y1 y2 y3 y4 y5 Z V S).1) qy O L J I qz G qm u f).2.1) ((jJ y0 y1 y2 y3 y4 y5 Z V S ((dK y0 y1 y2 y3 y4 y5 Z V S).1) qy O L J I qz G qm u f).2.2.1) ((jJ y0 y1 y2 y3 y4 y5 Z V S ((dK y0 y1 y2 y3 y4 y5 Z V S).1) qy O L J I qz G qm u f).2.2.2.1) ((jJ y0 y1 y2 y3 y4 y5 Z V S ((dK y0 y1 y2 y3 y4 y5 Z V S).1) qy O L J I qz G qm u f).2.2.2.2.1) ((jJ y0 y1 y2 y3 y4 y5 Z V S ((dK y0 y1 y2 y3 y4 y5 Z V S).1) qy O L J I qz G qm u f).2.2.2.2.2))))) (fun Q=>Q ((jY y0 y1 y2 y3 y4 y5 Z V S qy O L J I qz G qm u f).1) ((jY y0 y1 y2 y3 y4 y5 Z V S qy O L J I qz G qm u f).2.1) ((jY y0 y1 y2 y3 y4 y5 Z V S qy O L J I qz G qm u f).2.2.1) ((jY y0 y1 y2 y3 y4 y5 Z V S qy O L J I qz G qm u f).2.2.2.1) ((jY y0 y1 y2 y3 y4 y5 Z V S qy O L J I qz G qm u f).2.2.2.2.1) ((jY y0 y1 y2 y3 y4 y5 Z V S qy O L J I qz G qm u f).2.2.2.2.2)) (fun eN eK eM eJ eL r1=>(.tup [.agg [.sl .bool eN,.sl .bools eK,.sl .bool eM,.sl .int eJ,.sl .bool eL],.int .i64 r1]:aC UU)=.tup [.agg [.sl .bool ((jY y0 y1 y2 y3 y4 y5 Z V S qy O L J I qz G qm u f).1),.sl .bools ((jY y0 y1 y2 y3 y4 y5 Z V S qy O L J I qz G qm u f).2.1),.sl .bool ((jY y0 y1 y2 y3 y4 y5 Z V S qy O L J I qz G qm u f).2.2.1),.sl .int ((jY y0 y1 y2 y3 y4 y5 Z V S qy O L J I qz G qm u f).2.2.2.1),.sl .bool ((jY y0 y1 y2 y3 y4 y5 Z V S qy O L J I qz G qm u f).2.2.2.2.1)],.int .i64 ((jY y0 y1 y2 y3 y4 y5 Z V S qy O L J I qz G qm u f).2.2.2.2.2)]) XW (fun Q h=>?_) rfl⟩⟩
  try dsimp only at h ⊢
  unfold jY at h;have hp:aCT y0 y1 y2 y3 y4 y5 Z V S qy O L J I qz G qm u f:=hc;unfold aCT at hp;obtain⟨hJ,hp⟩:=hp;refine⟨hJ,?_⟩;cases cQ:(((dK y0 y1 y2 y3 y4 y5 Z V S).2) !=0)
  ·try simp only[cQ,QJ] at h hp ⊢
   have uW:=hp;refine⟨uW,?_⟩;exact h
  ·try simp only[cQ,QX] at h hp ⊢
   exact h
 ·cases h
def aUG:Model UU
 |[.agg [.sl .bool G,.sl .bools I,.sl .bool u,.sl .int f,.sl .bool r]]=>some ([],.tup [])
 |_=>none
def wU:Cfg UU:=bEc.add 80 aUG
theorem bHq:aW wU:=tin bHt mixed func80 XW XW false fun xs f r h=>by
 unfold aUG at h;split at h
 ·cases h;exact⟨XW,XW⟩
 ·cases h
def bSx (F:Nat):=cY (bM aBY F 0 wU) wU f79.ntmps aBY F
def bJM (F:Nat):=dO (bM aBY F 0 wU) wU f79.ntmps aBY F
abbrev bD0:=Int->Int->List Edg->List Itm->Int->Int->ByteArray->ByteArray->Int->Int->Int->Int->List aA->List aA->List Pce->List Bool->zzB->List Bool->zzI->List Bool->Prop
def aEv (k:ASt UU->Prop):bD0:=(fun J I G u r f bQ bP bR bS dH fX fW fV fP L O S V Z=>k ⟨tmL [(2,.fn 80 []),(3,.ptr 3 0),(6,.ptr 6 0),(7,.int .i64 J),(8,.int .i64 I),(9,.sl .edge G),(11,.ptr 11 0),(33,.sl .item u),(34,.int .i64 r),(35,.int .i64 f)],obL [(3,.cells [.str bQ,.str bP,.int .i64 bR,.int .i64 bS,.int .i64 dH,.int .i64 fX,.sl .rect fW,.sl .rect fV,.sl .pc fP]),(6,.cells [.nils,.nils,.nils,.nils,.nils]),(11,.cells [.sl .bool L,.sl .bools O,.sl .bool S,.sl .int V,.sl .bool Z])]⟩)
def bVG:=(cL (cB (cS (cF (cS4 (cS (bo f79)))))))
def aLX (F:Nat) (K:zK) (n r:Nat):bD0:=aEv fun s=>iter (bSx F 0 bVG) (aBY 0 0) n r s K
def aXk (F:Nat) (Post:aC UU->Prop):zK:=bU 0 (bJM F 0 (cS4 (cS (cS (bo f79)))) (bJ wU false f79 Post))
theorem aVo (F:Nat) (K:zK):∀n r,aLX F K n r=aGy F (aEv (K .ret)) (aEv (K (.exit 0))) n
 |0,_=>XW
 |n+1,r=>QY (b:=(fun L J I G u f bQ bP bR bS dH fX fW fV fP O S V Z gQ=>bAm (aLX F K n (r+1)) (aEv (K .ret)) (aEv (K (.exit 0))) L J I G u f bQ bP bR bS dH fX fW fV fP O S V Z gQ)) XW (by rewrite[aVo F K n (r+1)];kernel_rfl)
theorem bNJ (F:Nat) (Post:aC UU->Prop):aLX F (aXk F Post) F 0=aNb F (fun u J G L I r f=>Post (.tup [.agg [.sl .bool u,.sl .bools J,.sl .bool G,.sl .int L,.sl .bool I],.int .i64 r,.int .i64 f])):=
 (aVo F _ F 0).trans XW
theorem bRm (F:Nat) (Post:aC UU->Prop) (c0 c1:ByteArray) (c2 c3 c4 Z:Int) (V S:List aA) (ps:List Pce) (f:List Itm):exec wU f79.ntmps aBY F 0 (bo f79) (dD [.agg [.str c0,.str c1,.int .i64 c2,.int .i64 c3,.int .i64 c4,.int .i64 Z,.sl .rect V,.sl .rect S,.sl .pc ps],.sl .item f,.fn 80 []]) (bJ wU false f79 Post)=aQk F c0 c1 c2 c3 c4 Z V S ps f (fun G L I O J u r=>Post (.tup [.agg [.sl .bool G,.sl .bools L,.sl .bool I,.sl .int O,.sl .bool J],.int .i64 u,.int .i64 r])):=
 QY (b:=bAn c0 c1 c2 c3 c4 Z V S ps f (fun G L I O J u r=>Post (.tup [.agg [.sl .bool G,.sl .bools L,.sl .bool I,.sl .int O,.sl .bool J],.int .i64 u,.int .i64 r])) (aLX F (aXk F Post) F 0)) XW (by rewrite[bNJ F Post];kernel_rfl)
def aTK:Model UU
 |[.agg [.str S,.str O,.int .i64 L,.int .i64 J,.int .i64 I,.int .i64 G,.sl .rect u,.sl .rect r,.sl .pc ps],.sl .item f,.fn 80 []]=>some ([aCO S O L J I G u r ps f],.tup [.agg [.sl .bool ((eU S O L J I G u r ps f).1),.sl .bools ((eU S O L J I G u r ps f).2.1),.sl .bool ((eU S O L J I G u r ps f).2.2.1),.sl .int ((eU S O L J I G u r ps f).2.2.2.1),.sl .bool ((eU S O L J I G u r ps f).2.2.2.2.1)],.int .i64 ((eU S O L J I G u r ps f).2.2.2.2.2.1),.int .i64 ((eU S O L J I G u r ps f).2.2.2.2.2.2)])
 |_=>none
def bDw:Cfg UU:=wU.add 79 aTK
theorem bGq:aW bDw:=cV bHq mixed func79 XW XW fun xs cs r h u=>by
 unfold aTK at h;split at h
 ·rename_i Z V S O L J I G ps f;cases h;obtain⟨F,hF⟩:=bL1 Z V S O L J I G ps f u;exact⟨XW,aBY,F,false,⟨by rw[bRm];exact hF _ rfl⟩⟩
 ·cases h
set_option maxRecDepth 100000
def aUH:Model UU
 |[.agg [.str S,.str O,.int .i64 L,.int .i64 J,.int .i64 I,.int .i64 G,.sl .rect u,.sl .rect r,.sl .pc f],.sl .item V]=>some ([aHv S O L J I G u r f V],.tup [.agg [.sl .bool ((jX S O L J I G u r f V).1),.sl .bools ((jX S O L J I G u r f V).2.1),.sl .bool ((jX S O L J I G u r f V).2.2.1),.sl .int ((jX S O L J I G u r f V).2.2.2.1),.sl .bool ((jX S O L J I G u r f V).2.2.2.2.1)],.int .i64 ((jX S O L J I G u r f V).2.2.2.2.2.1),.int .i64 ((jX S O L J I G u r f V).2.2.2.2.2.2)])
 |_=>none
def wV:Cfg UU:=bDw.add 35 aUH
theorem bHr:aW wV:=cV bGq mixed func35 XW XW fun xs cs r h hc=>by
 unfold aUH at h;split at h
 ·rename_i V S O L J I G u f Z;cases h;refine⟨XW,M0,0,false,⟨kF (fun Q:(List Bool)->(zzB)->(List Bool)->(zzI)->(List Bool)->Int->Int->Prop=>((aCO V S O L J I G u f Z)/\Q ((eU V S O L J I G u f Z).1) ((eU V S O L J I G u f Z).2.1) ((eU V S O L J I G u f Z).2.2.1) ((eU V S O L J I G u f Z).2.2.2.1) ((eU V S O L J I G u f Z).2.2.2.2.1) ((eU V S O L J I G u f Z).2.2.2.2.2.1) ((eU V S O L J I G u f Z).2.2.2.2.2.2))) (fun Q=>Q ((jX V S O L J I G u f Z).1) ((jX V S O L J I G u f Z).2.1) ((jX V S O L J I G u f Z).2.2.1) ((jX V S O L J I G u f Z).2.2.2.1) ((jX V S O L J I G u f Z).2.2.2.2.1) ((jX V S O L J I G u f Z).2.2.2.2.2.1) ((jX V S O L J I G u f Z).2.2.2.2.2.2)) (fun eN eK eM eJ eL r1 r2=>(.tup [.agg [.sl .bool eN,.sl .bools eK,.sl .bool eM,.sl .int eJ,.sl .bool eL],.int .i64 r1,.int .i64 r2]:aC UU)=.tup [.agg [.sl .bool ((jX V S O L J I G u f Z).1),.sl .bools ((jX V S O L J I G u f Z).2.1),.sl .bool ((jX V S O L J I G u f Z).2.2.1),.sl .int ((jX V S O L J I G u f Z).2.2.2.1),.sl .bool ((jX V S O L J I G u f Z).2.2.2.2.1)],.int .i64 ((jX V S O L J I G u f Z).2.2.2.2.2.1),.int .i64 ((jX V S O L J I G u f Z).2.2.2.2.2.2)]) XW (fun Q h=>?_) rfl⟩⟩
  try dsimp only at h ⊢
  unfold jX at h;have hp:aHv V S O L J I G u f Z:=hc;unfold aHv at hp;have hJ:=hp;refine⟨hJ,?_⟩;exact h
 ·cases h
def bSe (F:Nat):=cY (bM aBF F 0 wV) wV f11.ntmps aBF F
def bIt (F:Nat):=dO (bM aBF F 0 wV) wV f11.ntmps aBF F
abbrev bDB:=Int->zzB->Int->Int->Prop
def aE9 (k:ASt UU->Prop):bDB:=(fun G u r f=>k ⟨tmL [(4,.int .i64 G),(24,.sl .bools u),(25,.int .i64 r),(26,.int .i64 f)],obL []⟩)
def bU4:=(cL (cB (cS (cF (cS4 (bo f11))))))
def aKm (F:Nat) (K:zK) (n r:Nat):bDB:=aE9 fun s=>iter (bSe F 0 bU4) (aBF 0 0) n r s K
def aXC (F:Nat) (Post:aC UU->Prop):zK:=bU 0 (bIt F 0 (cS4 (cS (bo f11))) (bJ wV false f11 Post))
theorem aVF (F:Nat) (K:zK):∀n r,aKm F K n r=aG7 F (aE9 (K .ret)) (aE9 (K (.exit 0))) n
 |0,_=>XW
 |n+1,r=>QY (b:=(fun I G u f=>aZ6 (aKm F K n (r+1)) (aE9 (K .ret)) (aE9 (K (.exit 0))) I G u f)) XW (by rewrite[aVF F K n (r+1)];kernel_rfl)
theorem bM1 (F:Nat) (Post:aC UU->Prop):aKm F (aXC F Post) F 0=aIU F (fun f=>Post (.int .i64 f)):=
 (aVF F _ F 0).trans XW
theorem bRT (F:Nat) (Post:aC UU->Prop) (S O:ByteArray) (L J I G:Int) (u r:List aA) (f:List Pce) (Z:List Itm):exec wV f11.ntmps aBF F 0 (bo f11) (dD [.agg [.str S,.str O,.int .i64 L,.int .i64 J,.int .i64 I,.int .i64 G,.sl .rect u,.sl .rect r,.sl .pc f],.sl .item Z]) (bJ wV false f11 Post)=aQW F S O L J I G u r f Z (fun V=>Post (.int .i64 V)):=
 QY (b:=aZ7 S O L J I G u r f Z (fun V=>Post (.int .i64 V)) (aKm F (aXC F Post) F 0)) XW (by rewrite[bM1 F Post];kernel_rfl)
def aSh:Model UU
 |[.agg [.str S,.str O,.int .i64 L,.int .i64 J,.int .i64 I,.int .i64 G,.sl .rect u,.sl .rect r,.sl .pc f],.sl .item V]=>some ([aDu S O L J I G u r f V],.int .i64 (lQ S O L J I G u r f V))
 |_=>none
def tP:Cfg UU:=wV.add 11 aSh
theorem bGW:aW tP:=cV bHr mixed func11 XW XW fun xs cs r h Z=>by
 unfold aSh at h;split at h
 ·rename_i V S O L J I G u f a1;cases h;obtain⟨F,hF⟩:=bKy V S O L J I G u f a1 Z;exact⟨XW,aBF,F,false,⟨by rw[bRT];exact hF _ rfl⟩⟩
 ·cases h
set_option maxRecDepth 100000
def aCj (F:Nat):=cY (bM qY F 0 tP) tP Tryz.f5.ntmps qY F
def aDm (F:Nat):=dO (bM qY F 0 tP) tP Tryz.f5.ntmps qY F
abbrev bCr:=List Itm->List Edg->List Pce->Int->Int->ByteArray->ByteArray->Int->Int->Int->Int->List aA->List aA->List Pce->List Bool->zzB->List Bool->zzI->List Bool->List Opn->Prop
def aJD (k:ASt UU->Prop):bCr:=(fun I G u r f aR aQ aV aU bB bA Z bC V aP aT J L O S=>k ⟨tmL [(1,.sl .item I),(2,.ptr 2 0),(7,.sl .edge G),(9,.ptr 9 0),(11,.osl 157 0),(12,.nils),(41,.sl .pc u),(42,.int .i64 r),(43,.int .i64 f)],obL [(157,.row .op 0 S),(2,.cells [.str aR,.str aQ,.int .i64 aV,.int .i64 aU,.int .i64 bB,.int .i64 bA,.sl .rect Z,.sl .rect bC,.sl .pc V]),(9,.cells [.sl .bool aP,.sl .bools aT,.sl .bool J,.sl .int L,.sl .bool O])]⟩)
abbrev bCq:=List Itm->List Edg->List Pce->Int->Int->List aA->Int->Int->ByteArray->ByteArray->Int->Int->Int->Int->List aA->List aA->List Pce->List Bool->zzB->List Bool->zzI->List Bool->List Opn->Prop
def aOI (k:ASt UU->Prop):bCq:=(fun O L J I G u r f aR aQ aV aU bB bA bD bC bI aP aT S V Z dM=>k ⟨tmL [(1,.sl .item O),(2,.ptr 2 0),(7,.sl .edge L),(9,.ptr 9 0),(11,.osl 157 0),(12,.nils),(41,.sl .pc J),(42,.int .i64 I),(43,.int .i64 G),(48,.sl .rect u),(49,.int .i64 r),(50,.int .i64 f)],obL [(157,.row .op 0 dM),(2,.cells [.str aR,.str aQ,.int .i64 aV,.int .i64 aU,.int .i64 bB,.int .i64 bA,.sl .rect bD,.sl .rect bC,.sl .pc bI]),(9,.cells [.sl .bool aP,.sl .bools aT,.sl .bool S,.sl .int V,.sl .bool Z])]⟩)
abbrev bCp:=List Edg->List Itm->Int->Int->ByteArray->ByteArray->Int->Int->Int->Int->List aA->List aA->List Pce->List Bool->zzB->List Bool->zzI->List Bool->List Opn->List Opn->Prop
def aJC (k:ASt UU->Prop):bCp:=(fun G u r f aR aQ aV aU bB bA Z bC V aP aT J L O S I=>k ⟨tmL [(2,.ptr 2 0),(7,.sl .edge G),(9,.ptr 9 0),(11,.osl 157 0),(12,.osl 158 0),(68,.sl .item u),(69,.int .i64 r),(70,.int .i64 f)],obL [(157,.row .op 0 S),(158,.row .op 0 I),(2,.cells [.str aR,.str aQ,.int .i64 aV,.int .i64 aU,.int .i64 bB,.int .i64 bA,.sl .rect Z,.sl .rect bC,.sl .pc V]),(9,.cells [.sl .bool aP,.sl .bools aT,.sl .bool J,.sl .int L,.sl .bool O])]⟩)
abbrev bCo:=List Edg->Int->List Itm->Int->Int->List Edg->Int->Int->ByteArray->ByteArray->Int->Int->Int->Int->List aA->List aA->List Pce->List Bool->zzB->List Bool->zzI->List Bool->Int->Int->Int->Int->Int->List Opn->List Opn->Prop
def aOH (k:ASt UU->Prop):bCo:=(fun O L J I G u r f aR aQ aV aU bB bA bD bC bI aP aT dS dR dQ mC S V Z nI dM gZ=>k ⟨tmL [(2,.ptr 2 0),(7,.sl .edge O),(9,.ptr 9 0),(11,.osl 157 0),(12,.osl 158 0),(18,.ptr 18 0),(19,.int .i64 L),(68,.sl .item J),(69,.int .i64 I),(70,.int .i64 G),(103,.sl .edge u),(104,.int .i64 r),(105,.int .i64 f)],obL [(157,.row .op 0 dM),(158,.row .op 0 gZ),(2,.cells [.str aR,.str aQ,.int .i64 aV,.int .i64 aU,.int .i64 bB,.int .i64 bA,.sl .rect bD,.sl .rect bC,.sl .pc bI]),(9,.cells [.sl .bool aP,.sl .bools aT,.sl .bool dS,.sl .int dR,.sl .bool dQ]),(18,.cells [.int .i64 mC,.int .i64 S,.int .i64 V,.int .i64 Z,.int .i64 nI])]⟩)
def aJx:=(cL (cB (cS (cF (cS4 (cS (bo Tryz.f5)))))))
def bUP:=(cL (cB (cS (cS (cB (cF (cS (cS aJx))))))))
def aFZ:=(cL (cB (cS (cF (cS4 (cS (cS (bo Tryz.f5))))))))
def bUO:=(cL (cB (cS (cS (cE (cS (cF (cS (cS (cB (cF (cS (cS aFZ)))))))))))))
def aFj (F:Nat) (K:zK) (n r:Nat):bCr:=aJD fun s=>iter (aCj F 0 aJx) (qY 0 0) n r s K
def aK8 (F:Nat) (K:zK) (n r:Nat):bCq:=aOI fun s=>iter (aCj F 2 bUP) (qY 0 2) n r s K
def aFi (F:Nat) (K:zK) (n r:Nat):bCp:=aJC fun s=>iter (aCj F 4 aFZ) (qY 0 4) n r s K
def aK7 (F:Nat) (K:zK) (n r:Nat):bCo:=aOH fun s=>iter (aCj F 6 bUO) (qY 0 6) n r s K
def aWl (F:Nat) (Post:aC UU->Prop):zK:=bU 0 (aDm F 0 (cS4 (cS (cS (bo Tryz.f5)))) (bJ tP false Tryz.f5 Post))
def aWk (F n r:Nat) (K:zK):zK:=bU 2 (bU 1 (aDm F 0 (cS (cS (cS aJx))) (kN (aCj F 0 aJx) (qY 0 0) n r K)))
def aWj (F:Nat) (Post:aC UU->Prop):zK:=bU 4 (aDm F 0 (cS4 (cS (cS (cS (bo Tryz.f5))))) (bJ tP false Tryz.f5 Post))
def aWi (F n r:Nat) (K:zK):zK:=bU 6 (aDm F 5 (cS (cS (cS (cB (cF (cS (cS aFZ))))))) (bU 5 (aDm F 4 (cS (cS (cS aFZ))) (kN (aCj F 4 aFZ) (qY 0 4) n r K))))
theorem aUm (F:Nat) (K:zK):∀n r,aK8 F K n r=aGY F (aOI (K (.exit 2))) n
 |0,_=>XW
 |n+1,r=>QY (b:=(fun S O L J I G u f aR aQ aV aU bB bA bD bC bI aP aT V Z dQ dM=>aYy (aK8 F K n (r+1)) (aOI (K (.exit 2))) S O L J I G u f aR aQ aV aU bB bA bD bC bI aP aT V Z dQ dM)) XW (by rewrite[aUm F K n (r+1)];kernel_rfl)
theorem bMJ (F n r:Nat) (K:zK):aK8 F (aWk F n r K) F 0=aNO F (aFj F K n (r+1)) (aJD (K (.exit 0))):=
 (aUm F _ F 0).trans XW
theorem aUk (F:Nat) (K:zK):∀n r,aK7 F K n r=aGX F (aOH (K (.exit 6))) n
 |0,_=>XW
 |n+1,r=>QY (b:=(fun S O L J I G u f aR aQ aV aU bB bA bD bC bI aP aT dS dR dQ mC V Z nJ nI dM gZ=>aYw (aK7 F K n (r+1)) (aOH (K (.exit 6))) S O L J I G u f aR aQ aV aU bB bA bD bC bI aP aT dS dR dQ mC V Z nJ nI dM gZ)) XW (by rewrite[aUk F K n (r+1)];kernel_rfl)
theorem bMH (F n r:Nat) (K:zK):aK7 F (aWi F n r K) F 0=aNN F (aFi F K n (r+1)) (aJC (K (.exit 4))):=
 (aUk F _ F 0).trans XW
theorem aUl (F:Nat) (K:zK):∀n r,aFi F K n r=zY F (aJC (K (.exit 4))) n
 |0,_=>XW
 |n+1,r=>QY (b:=(fun I G u f aR aQ aV aU bB bA bD bC Z aP aT L O S V J=>aYx (aFi F K n (r+1)) (aJC (K (.exit 4))) I G u f aR aQ aV aU bB bA bD bC Z aP aT L O S V J (aK7 F (aWi F n r K) F 0))) XW (by rewrite[bMH F n r K,aUl F K n (r+1)];kernel_rfl)
theorem bMI (F:Nat) (Post:aC UU->Prop):aFi F (aWj F Post) F 0=aIN F (fun r f=>Post (.tup [.sl .op r,.int .i64 f])):=
 (aUl F _ F 0).trans XW
theorem aUn (F:Nat) (K:zK):∀n r,aFj F K n r=xE F (aJD (K (.exit 0))) n
 |0,_=>XW
 |n+1,r=>QY (b:=(fun J I G u f aR aQ aV aU bB bA bD bC Z aP aT L O S V=>aYz (aFj F K n (r+1)) (aJD (K (.exit 0))) J I G u f aR aQ aV aU bB bA bD bC Z aP aT L O S V (aK8 F (aWk F n r K) F 0))) XW (by rewrite[bMJ F n r K,aUn F K n (r+1)];kernel_rfl)
theorem bMK (F:Nat) (Post:aC UU->Prop):aFj F (aWl F Post) F 0=aNP F (fun r f=>Post (.tup [.sl .op r,.int .i64 f])):=
 (aUn F _ F 0).trans (QY (b:=xE F (fun L J I G u aR aQ aV aU bB bA bD bC bI aP aT O S V Z=>aZB (fun r f=>Post (.tup [.sl .op r,.int .i64 f])) L J I G u aR aQ aV aU bB bA bD bC bI aP aT O S V Z (aFi F (aWj F Post) F 0)) F) XW (by rewrite[bMI F Post];kernel_rfl))
theorem bRH (F:Nat) (Post:aC UU->Prop) (S O:ByteArray) (L J I G:Int) (u r:List aA) (f:List Pce) (a1:List Itm):exec tP Tryz.f5.ntmps qY F 0 (bo Tryz.f5) (dD [.agg [.str S,.str O,.int .i64 L,.int .i64 J,.int .i64 I,.int .i64 G,.sl .rect u,.sl .rect r,.sl .pc f],.sl .item a1]) (bJ tP false Tryz.f5 Post)=aQM F S O L J I G u r f a1 (fun Z V=>Post (.tup [.sl .op Z,.int .i64 V])):=
 QY (b:=aZA S O L J I G u r f a1 (fun Z V=>Post (.tup [.sl .op Z,.int .i64 V])) (aFj F (aWl F Post) F 0)) XW (by rewrite[bMK F Post];kernel_rfl)
def aS6:Model UU
 |[.agg [.str S,.str O,.int .i64 L,.int .i64 J,.int .i64 I,.int .i64 G,.sl .rect u,.sl .rect r,.sl .pc f],.sl .item V]=>some ([aHh S O L J I G u r f V],.tup [.sl .op ((oD S O L J I G u r f V).1),.int .i64 ((oD S O L J I G u r f V).2)])
 |_=>none
def tM:Cfg UU:=tP.add 5 aS6
theorem bGL:aW tM:=cV bGW mixed func5 XW XW fun xs cs r h Z=>by
 unfold aS6 at h;split at h
 ·rename_i V S O L J I G u f a1;cases h;obtain⟨F,hF⟩:=bKn V S O L J I G u f a1 Z;exact⟨XW,qY,F,false,⟨by rw[bRH];exact hF _ rfl⟩⟩
 ·cases h
set_option maxRecDepth 100000
def bB4 (F:Nat):=cY (bM zL F 0 tM) tM f193.ntmps zL F
def aR2 (F:Nat):=dO (bM zL F 0 tM) tM f193.ntmps zL F
def aOB (k:ASt UU->Prop):Int->Int->zzI->Prop:=(fun r f u=>k ⟨tmL [(0,.osl 58 0),(1,.int .i64 r),(5,.int .i64 f)],obL [(58,.row .int 0 u)]⟩)
abbrev bCg:=Int->Int->Int->zzI->Prop
def aOA (k:ASt UU->Prop):bCg:=(fun u r f G=>k ⟨tmL [(0,.osl 58 0),(1,.int .i64 u),(5,.int .i64 r),(6,.int .i64 f)],obL [(58,.row .int 0 G)]⟩)
def bUA:=(cL (cB (cF (cS (cS (bo f193))))))
def bTz:=(cL (cB (cS (cF (cS4 (cS (bo f193)))))))
def aKT (F:Nat) (K:zK) (n r:Nat):Int->Int->zzI->Prop:=aOB fun s=>iter (bB4 F 0 bUA) (zL 0 0) n r s K
def aKS (F:Nat) (K:zK) (n r:Nat):bCg:=aOA fun s=>iter (bB4 F 2 bTz) (zL 0 2) n r s K
def aWY (F:Nat) (Post:(t:Knd)->List (UU.T t)->Prop):zK:=bU 0 (aR2 F 0 (cS (cS (cS (bo f193)))) (aCz tM f193 Post))
def aWX (F:Nat) (Post:(t:Knd)->List (UU.T t)->Prop):zK:=bU 2 (aR2 F 0 (cS4 (cS (cS (bo f193)))) (aCz tM f193 Post))
theorem aUZ (F:Nat) (K:zK):∀n r,aKS F K n r=aGO F (aOA (K (.exit 2))) n
 |0,_=>XW
 |n+1,r=>QY (b:=(fun G u f I=>aYZ (aKS F K n (r+1)) (aOA (K (.exit 2))) G u f I)) XW (by rewrite[aUZ F K n (r+1)];kernel_rfl)
theorem bLm (F:Nat) (Post:(t:Knd)->List (UU.T t)->Prop):aKS F (aWX F Post) F 0=aEJ F (fun f=>Post .int f):=
 (aUZ F _ F 0).trans XW
theorem aU0 (F:Nat) (K:zK):∀n r,aKT F K n r=aDF F (aOB (K (.exit 0))) n
 |0,_=>XW
 |n+1,r=>QY (b:=(fun u f G=>aY0 (aKT F K n (r+1)) (aOB (K (.exit 0))) u f G)) XW (by rewrite[aU0 F K n (r+1)];kernel_rfl)
theorem bLn (F:Nat) (Post:(t:Knd)->List (UU.T t)->Prop):aKT F (aWY F Post) F 0=aIG F (fun f=>Post .int f):=
 (aU0 F _ F 0).trans (QY (b:=aDF F (fun u r G=>aFL (fun f=>Post .int f) u r G (aKS F (aWX F Post) F 0)) F) XW (by rewrite[bLm F Post];kernel_rfl))
theorem bQz (F:Nat) (Post:(t:Knd)->List (UU.T t)->Prop) (l:zzI) (r:Int):exec tM f193.ntmps zL F 0 (bo f193) (aAP [.osl 0 0,.int .i64 r] 0 (.row .int 0 l)) (aCz tM f193 Post)=aQF F l r (fun f=>Post .int f):=
 QY (b:=aY1 l r (fun f=>Post .int f) (aKT F (aWY F Post) F 0)) XW (by rewrite[bLn F Post];kernel_rfl)
def aSY:vJ UU
 |[.osl 0 g,.int .i64 r],.row .int f l=>cond (Nat.beq g f) (some ([oP l r],.osl 0 (f+1),.row .int (f+1) (sG l r))) none
 |_,_=>none
def vN:Cfg UU:=tM.vD 193 aSY
theorem bGD:aW vN:=bGL.bC7 mixed (c:=bo f193) func193 XW XW fun xs ob L r I k h G ho=>by
 unfold aSY at h;split at h
 ·rename_i g f J l;obtain⟨u,h⟩:=cM h;obtain rfl:=QZ u;cases h;cases ho;obtain⟨F,hF⟩:=bKf l f G;refine⟨.int,g,l,sG l f,[.osl 0 0,.int .i64 f],rfl,rfl,rfl,rfl,rfl,fun i x hi hx=>?_,XW,zL,F,by rw[bQz];exact hF _ rfl⟩
  match i,hi with
  |0,hi=>exact absurd rfl hi
  |1,hi=>cases hx;rfl
  |_+2,hi=>cases hx
 ·cases h
set_option maxRecDepth 100000
def bSk (F:Nat):=cY (bM aBL F 0 vN) vN f158.ntmps aBL F
def bIz (F:Nat):=dO (bM aBL F 0 vN) vN f158.ntmps aBL F
abbrev bDL:=List aA->Int->zzI->zzI->Prop
def aOZ (k:ASt UU->Prop):bDL:=(fun r f u G=>k ⟨tmL [(0,.sl .rect r),(4,.osl 55 0),(5,.osl 56 0),(6,.int .i64 f)],obL [(55,.row .int 0 u),(56,.row .int 0 G)]⟩)
def bUe:=(cL (cB (cS (cF (cS (cS (bo f158)))))))
def aKw (F:Nat) (K:zK) (n r:Nat):bDL:=aOZ fun s=>iter (bSk F 0 bUe) (aBL 0 0) n r s K
def aXO (F:Nat) (Post:aC UU->Prop):zK:=bU 0 (bIz F 0 (cS (cS (cS (bo f158)))) (bJ vN true f158 Post))
theorem aVR (F:Nat) (K:zK):∀n r,aKw F K n r=aGf F (aOZ (K (.exit 0))) n
 |0,_=>XW
 |n+1,r=>QY (b:=(fun u f G I=>aZr (aKw F K n (r+1)) (aOZ (K (.exit 0))) u f G I)) XW (by rewrite[aVR F K n (r+1)];kernel_rfl)
theorem bMd (F:Nat) (Post:aC UU->Prop):aKw F (aXO F Post) F 0=aI0 F (fun r f=>Post (.tup [.new .int r,.new .int f])):=
 (aVR F _ F 0).trans XW
theorem bR1 (F:Nat) (Post:aC UU->Prop) (u:List aA):exec vN f158.ntmps aBL F 0 (bo f158) (dD [.sl .rect u]) (bJ vN true f158 Post)=aQ3 F u (fun r f=>Post (.tup [.new .int r,.new .int f])):=
 QY (b:=aZs u (fun r f=>Post (.tup [.new .int r,.new .int f])) (aKw F (aXO F Post) F 0)) XW (by rewrite[bMd F Post];kernel_rfl)
def aSp:Model UU
 |[.sl .rect f]=>some ([aHl f],.tup [.new .int ((iW f).1),.new .int ((iW f).2)])
 |_=>none
def vX:Cfg UU:=vN.add 158 aSp
theorem bG4:aW vX:=cV bGD mixed func158 XW XW fun xs G r h f=>by
 unfold aSp at h;split at h
 ·rename_i u;cases h;obtain⟨F,hF⟩:=bLG u f;exact⟨XW,aBL,F,true,⟨by rw[bR1];exact hF _ rfl⟩⟩
 ·cases h
set_option maxRecDepth 100000
def bS4 (F:Nat):=cY (bM aAv F 0 vX) vX f232.ntmps aAv F
def bIj (F:Nat):=dO (bM aAv F 0 vX) vX f232.ntmps aAv F
abbrev bCb:=List aA->Int->Int->Bool->Int->Prop
def aEV (k:ASt UU->Prop):bCb:=(fun I G u r f=>k ⟨tmL [(0,.sl .rect I),(1,.int .i64 G),(2,.int .i64 u),(6,.bool r),(7,.int .i64 f)],obL []⟩)
def bTw:=(cL (cB (cS (cF (cS (bo f232))))))
def aKP (F:Nat) (K:zK) (n r:Nat):bCb:=aEV fun s=>iter (bS4 F 0 bTw) (aAv 0 0) n r s K
def aWS (F:Nat) (Post:aC UU->Prop):zK:=bU 0 (bIj F 0 (cS (cS (bo f232))) (bJ vX false f232 Post))
theorem aUU (F:Nat) (K:zK):∀n r,aKP F K n r=aGL F (aEV (K .ret)) (aEV (K (.exit 0))) n
 |0,_=>XW
 |n+1,r=>QY (b:=(fun J I G u f=>aYR (aKP F K n (r+1)) (aEV (K .ret)) (aEV (K (.exit 0))) J I G u f)) XW (by rewrite[aUU F K n (r+1)];kernel_rfl)
theorem bLh (F:Nat) (Post:aC UU->Prop):aKP F (aWS F Post) F 0=aID F (fun f=>Post (.bool f)):=
 (aUU F _ F 0).trans XW
theorem bQx (F:Nat) (Post:aC UU->Prop) (G:List aA) (u r:Int):exec vX f232.ntmps aAv F 0 (bo f232) (dD [.sl .rect G,.int .i64 u,.int .i64 r]) (bJ vX false f232 Post)=aQD F G u r (fun f=>Post (.bool f)):=
 QY (b:=aYS G u r (fun f=>Post (.bool f)) (aKP F (aWS F Post) F 0)) XW (by rewrite[bLh F Post];kernel_rfl)
def aSW:Model UU
 |[.sl .rect u,.int .i64 r,.int .i64 f]=>some ([aMd u r f],.bool (aHH u r f))
 |_=>none
def vL:Cfg UU:=vX.add 232 aSW
theorem bGB:aW vL:=cV bG4 mixed func232 XW XW fun xs J r h f=>by
 unfold aSW at h;split at h
 ·rename_i I G u;cases h;obtain⟨F,hF⟩:=bKd I G u f;exact⟨XW,aAv,F,false,⟨by rw[bQx];exact hF _ rfl⟩⟩
 ·cases h
set_option maxRecDepth 100000
def bSp (F:Nat):=cY (bM aBQ F 0 vL) vL f194.ntmps aBQ F
def bJE (F:Nat):=dO (bM aBQ F 0 vL) vL f194.ntmps aBQ F
abbrev bDS:=List (List aA)->Int->Int->Int->Int->Prop
def aEj (k:ASt UU->Prop):bDS:=(fun I G u r f=>k ⟨tmL [(0,.sl .rects I),(1,.int .i64 G),(2,.int .i64 u),(6,.int .i64 r),(7,.int .i64 f)],obL []⟩)
def bUo:=(cL (cB (cS (cF (cS (bo f194))))))
def aLF (F:Nat) (K:zK) (n r:Nat):bDS:=aEj fun s=>iter (bSp F 0 bUo) (aBQ 0 0) n r s K
def aXY (F:Nat) (Post:aC UU->Prop):zK:=bU 0 (bJE F 0 (cS (cS (bo f194))) (bJ vL false f194 Post))
theorem aV2 (F:Nat) (K:zK):∀n r,aLF F K n r=aGl F (aEj (K .ret)) (aEj (K (.exit 0))) n
 |0,_=>XW
 |n+1,r=>QY (b:=(fun J I G u f=>bAK (aLF F K n (r+1)) (aEj (K .ret)) (aEj (K (.exit 0))) J I G u f)) XW (by rewrite[aV2 F K n (r+1)];kernel_rfl)
theorem bMn (F:Nat) (Post:aC UU->Prop):aLF F (aXY F Post) F 0=aI5 F (fun f=>Post (.int .i64 f)):=
 (aV2 F _ F 0).trans XW
theorem bR9 (F:Nat) (Post:aC UU->Prop) (G:List (List aA)) (u r:Int):exec vL f194.ntmps aBQ F 0 (bo f194) (dD [.sl .rects G,.int .i64 u,.int .i64 r]) (bJ vL false f194 Post)=aQa F G u r (fun f=>Post (.int .i64 f)):=
 QY (b:=bAL G u r (fun f=>Post (.int .i64 f)) (aLF F (aXY F Post) F 0)) XW (by rewrite[bMn F Post];kernel_rfl)
def aSx:Model UU
 |[.sl .rects u,.int .i64 r,.int .i64 f]=>some ([aMq u r f],.int .i64 (aHQ u r f))
 |_=>none
def aLj:Cfg UU:=vL.add 194 aSx
theorem bGb:aW aLj:=cV bGB mixed func194 XW XW fun xs J r h f=>by
 unfold aSx at h;split at h
 ·rename_i I G u;cases h;obtain⟨F,hF⟩:=bLO I G u f;exact⟨XW,aBQ,F,false,⟨by rw[bR9];exact hF _ rfl⟩⟩
 ·cases h
set_option maxRecDepth 100000
theorem bR3 (F:Nat) (Post:(t:Knd)->List (UU.T t)->Prop) (l:List Lin) (r f J u I G:Int):exec aLj f160.ntmps bDc F 0 (bo f160) (aAP [.osl 0 0,.agg [.int .i64 r,.int .i64 f,.int .i64 J,.int .i64 u,.int .i64 I,.int .i64 G]] 0 (.row .lin 0 l)) (aCz aLj f160 Post)=aQ5 F l r f J u I G (fun L=>Post .lin L):=
 by kernel_rfl
def aSr:vJ UU
 |[.osl 0 g,.agg [.int .i64 r,.int .i64 f,.int .i64 J,.int .i64 u,.int .i64 I,.int .i64 G]],.row .lin L l=>cond (Nat.beq g L) (some ([aCL l r f J u I G],.osl 0 (L+1),.row .lin (L+1) (aBn l r f J u I G))) none
 |_,_=>none
def jV:Cfg UU:=aLj.vD 160 aSr
theorem bG6:aW jV:=bGb.bC7 mixed (c:=bo f160) func160 XW XW fun xs ob cs r V k h S ho=>by
 unfold aSr at h;split at h
 ·rename_i g u f L G J I Z l;obtain⟨O,h⟩:=cM h;obtain rfl:=QZ O;cases h;cases ho;obtain⟨F,hF⟩:=bLI l u f L G J I S;refine⟨.lin,g,l,aBn l u f L G J I,[.osl 0 0,.agg [.int .i64 u,.int .i64 f,.int .i64 L,.int .i64 G,.int .i64 J,.int .i64 I]],rfl,rfl,rfl,rfl,rfl,fun i x hi hx=>?_,XW,bDc,F,by rw[bR3];exact hF _ rfl⟩
  match i,hi with
  |0,hi=>exact absurd rfl hi
  |1,hi=>cases hx;rfl
  |_+2,hi=>cases hx
 ·cases h
set_option maxRecDepth 100000
def aAV (F:Nat):=cY (bM jH F 2 (jL jV)) (jL jV) f98.ntmps jH F
def aCF (F:Nat):=dO (bM jH F 2 (jL jV)) (jL jV) f98.ntmps jH F
def aOF (k:ASt UU->Prop):List (List aA)->Int->List aA->Prop:=(fun r f u=>k ⟨tmL [(0,.sl .rects r),(3,.osl 137 0),(4,.int .i64 f)],obL [(137,.row .rect 0 u)]⟩)
abbrev bCj:=List (List aA)->Int->zzI->zzI->zzZ->Prop
def aJB (k:ASt UU->Prop):bCj:=(fun I G u r f=>k ⟨tmL [(0,.sl .rects I),(1,.osl 101728 0),(2,.osl 101729 0),(7,.osl 34076 0),(8,.int .i64 G),(1000005,.osl 101728 0),(1000006,.osl 101729 0)],obL [(34076,.row .ints 0 f),(101728,.row .int 0 u),(101729,.row .int 0 r)]⟩)
abbrev bCi:=List (List aA)->Int->Int->zzI->zzZ->Nat->zzI->zzI->Prop
def aOE (k:ASt UU->Prop):bCi:=(fun L J I r f O G u=>k ⟨tmL [(0,.sl .rects L),(1,.osl 101728 0),(2,.osl 101729 0),(7,.osl 34076 0),(8,.int .i64 J),(9,.int .i64 I),(1000005,.osl 101728 0),(1000006,.osl 101729 0)],obL [(34025,.row .int 0 r),(34076,.rowF .ints 0 f O 34025 0),(101728,.row .int 0 G),(101729,.row .int 0 u)]⟩)
abbrev aLc:=Int->zzI->zzI->zzZ->List Lin->Prop
def aJA (k:ASt UU->Prop):aLc:=(fun f I G u r=>k ⟨tmL [(5,.osl 137 0),(6,.osl 138 0),(7,.osl 139 0),(8,.osl 140 0),(9,.int .i64 f)],obL [(137,.row .int 0 I),(138,.row .int 0 G),(139,.row .ints 0 u),(140,.row .lin 0 r)]⟩)
abbrev aLb:=Int->Int->zzI->zzI->zzZ->List Lin->Prop
def aOD (k:ASt UU->Prop):aLb:=(fun r f J I G u=>k ⟨tmL [(5,.osl 137 0),(6,.osl 138 0),(7,.osl 139 0),(8,.osl 140 0),(9,.int .i64 r),(10,.int .i64 f)],obL [(137,.row .int 0 J),(138,.row .int 0 I),(139,.row .ints 0 G),(140,.row .lin 0 u)]⟩)
def aIz (k:ASt UU->Prop):aLc:=(fun f I G u r=>k ⟨tmL [(5,.osl 137 0),(6,.osl 138 0),(7,.osl 139 0),(8,.osl 140 0),(11,.int .i64 f)],obL [(137,.row .int 0 I),(138,.row .int 0 G),(139,.row .ints 0 u),(140,.row .lin 0 r)]⟩)
def aOC (k:ASt UU->Prop):aLb:=(fun r f J I G u=>k ⟨tmL [(5,.osl 137 0),(6,.osl 138 0),(7,.osl 139 0),(8,.osl 140 0),(11,.int .i64 r),(12,.int .i64 f)],obL [(137,.row .int 0 J),(138,.row .int 0 I),(139,.row .ints 0 G),(140,.row .lin 0 u)]⟩)
def bUG:=(cL (cB (cS (cF (cS (cS (bo f98)))))))
def aJt:=(cL (cB (cS (cF (cS (cS (bo f159)))))))
def bUF:=(cL (cB (cS (cS (cB (cF (cS aJt)))))))
def aJs:=(cL (cB (cS (cF (cS4 (cS (cS (bo f98))))))))
def bUE:=(cL (cB (cS (cB (cF (cS aJs))))))
def aJr:=(cL (cB (cS (cF (cS4 (cS (cS (cS (bo f98)))))))))
def bUD:=(cL (cB (cS (cB (cF (cS aJr))))))
def aKZ (F:Nat) (K:zK) (n r:Nat):List (List aA)->Int->List aA->Prop:=aOF fun s=>iter (aAV F 0 bUG) (jH 0 0) n r s K
def aFe (F:Nat) (K:zK) (n r:Nat):bCj:=aJB fun s=>iter (cY (bM jH F 1 ((jL jV).at 34000)) ((jL jV).at 34000) f159.ntmps jH F 0 aJt) (jH 34000 0) n r s K
def aKY (F:Nat) (K:zK) (n r:Nat):bCi:=aOE fun s=>iter (cY (bM jH F 1 ((jL jV).at 34000)) ((jL jV).at 34000) f159.ntmps jH F 2 bUF) (jH 34000 2) n r s K
def aFd (F:Nat) (K:zK) (n r:Nat):aLc:=aJA fun s=>iter (aAV F 2 aJs) (jH 0 2) n r s K
def aKX (F:Nat) (K:zK) (n r:Nat):aLb:=aOD fun s=>iter (aAV F 4 bUE) (jH 0 4) n r s K
def aFc (F:Nat) (K:zK) (n r:Nat):aLc:=aIz fun s=>iter (aAV F 6 aJr) (jH 0 6) n r s K
def aKW (F:Nat) (K:zK) (n r:Nat):aLb:=aOC fun s=>iter (aAV F 8 bUD) (jH 0 8) n r s K
def aW7 (F:Nat) (Post:aC UU->Prop):zK:=bU 0 (aCF F 0 (cS (cS (cS (bo f98)))) (bJ (jL jV) true f98 Post))
def aW6 (F:Nat) (Post:aC UU->Prop):zK:=bU 0 (dO (bM jH F 1 ((jL jV).at 34000)) ((jL jV).at 34000) f159.ntmps jH F 0 (cS (cS (cS (bo f159)))) (aOf (bM jH F 2 (jL jV)) (jL jV) f98.ntmps (cR (cF (cS4 (bo f98)))) 5 4 f159 (some 33) (fun f=>(aCF F 0 (cS4 (cS (bo f98))) (bJ (jL jV) true f98 Post)) .normal f)))
def aW5 (F n r:Nat) (K:zK):zK:=bU 2 (bU 1 (dO (bM jH F 1 ((jL jV).at 34000)) ((jL jV).at 34000) f159.ntmps jH F 0 (cS (cS aJt)) (kN (cY (bM jH F 1 ((jL jV).at 34000)) ((jL jV).at 34000) f159.ntmps jH F 0 aJt) (jH 34000 0) n r K)))
def aW4 (F:Nat) (Post:aC UU->Prop):zK:=bU 2 (aCF F 0 (cS4 (cS (cS (cS (bo f98))))) (bJ (jL jV) true f98 Post))
def aW3 (F n r:Nat) (K:zK):zK:=bU 4 (bU 3 (aCF F 2 (cS (cS aJs)) (kN (aAV F 2 aJs) (jH 0 2) n r K)))
def aW2 (F:Nat) (Post:aC UU->Prop):zK:=bU 6 (aCF F 0 (cS4 (cS4 (bo f98))) (bJ (jL jV) true f98 Post))
def aW1 (F n r:Nat) (K:zK):zK:=bU 8 (bU 7 (aCF F 6 (cS (cS aJr)) (kN (aAV F 6 aJr) (jH 0 6) n r K)))
theorem aU7 (F:Nat) (K:zK):∀n r,aKY F K n r=aGS F (aOE (K (.exit 2))) n
 |0,_=>XW
 |n+1,r=>QY (b:=(fun O L J u f S I G=>aYb (aKY F K n (r+1)) (aOE (K (.exit 2))) O L J u f S I G)) XW (by rewrite[aU7 F K n (r+1)];kernel_rfl)
theorem bLu (F n r:Nat) (K:zK):aKY F (aW5 F n r K) F 0=aNG F (aFe F K n (r+1)) (aJB (K (.exit 0))):=
 (aU7 F _ F 0).trans XW
theorem aU5 (F:Nat) (K:zK):∀n r,aKX F K n r=aGR F (aOD (K (.exit 4))) n
 |0,_=>XW
 |n+1,r=>QY (b:=(fun u f L J I G=>aY9 (aKX F K n (r+1)) (aOD (K (.exit 4))) u f L J I G)) XW (by rewrite[aU5 F K n (r+1)];kernel_rfl)
theorem bLs (F n r:Nat) (K:zK):aKX F (aW3 F n r K) F 0=aNF F (aFd F K n (r+1)) (aJA (K (.exit 2))):=
 (aU5 F _ F 0).trans XW
theorem aU3 (F:Nat) (K:zK):∀n r,aKW F K n r=aGQ F (aOC (K (.exit 8))) n
 |0,_=>XW
 |n+1,r=>QY (b:=(fun u f L J I G=>aY7 (aKW F K n (r+1)) (aOC (K (.exit 8))) u f L J I G)) XW (by rewrite[aU3 F K n (r+1)];kernel_rfl)
theorem bLq (F n r:Nat) (K:zK):aKW F (aW1 F n r K) F 0=aNE F (aFc F K n (r+1)) (aIz (K (.exit 6))):=
 (aU3 F _ F 0).trans XW
theorem aU4 (F:Nat) (K:zK):∀n r,aFc F K n r=zU F (aIz (K (.exit 6))) n
 |0,_=>XW
 |n+1,r=>QY (b:=(fun f J I G u=>aY8 (aFc F K n (r+1)) (aIz (K (.exit 6))) f J I G u (aKW F (aW1 F n r K) F 0))) XW (by rewrite[bLq F n r K,aU4 F K n (r+1)];kernel_rfl)
theorem bLr (F:Nat) (Post:aC UU->Prop):aFc F (aW2 F Post) F 0=aII F (fun f=>Post (.new .lin f)):=
 (aU4 F _ F 0).trans XW
theorem aU6 (F:Nat) (K:zK):∀n r,aFd F K n r=wZ F (aJA (K (.exit 2))) n
 |0,_=>XW
 |n+1,r=>QY (b:=(fun f J I G u=>aYa (aFd F K n (r+1)) (aJA (K (.exit 2))) f J I G u (aKX F (aW3 F n r K) F 0))) XW (by rewrite[bLs F n r K,aU6 F K n (r+1)];kernel_rfl)
theorem bLt (F:Nat) (Post:aC UU->Prop):aFd F (aW4 F Post) F 0=aIJ F (fun f=>Post (.new .lin f)):=
 (aU6 F _ F 0).trans (QY (b:=wZ F (fun r J I G u=>aYf (fun f=>Post (.new .lin f)) r J I G u (aFc F (aW2 F Post) F 0)) F) XW (by rewrite[bLr F Post];kernel_rfl))
theorem aU8 (F:Nat) (K:zK):∀n r,aFe F K n r=xB F (aJB (K (.exit 0))) n
 |0,_=>XW
 |n+1,r=>QY (b:=(fun J I G u f=>aYc (aFe F K n (r+1)) (aJB (K (.exit 0))) J I G u f (aKY F (aW5 F n r K) F 0))) XW (by rewrite[bLu F n r K,aU8 F K n (r+1)];kernel_rfl)
theorem bLv (F:Nat) (Post:aC UU->Prop):aFe F (aW6 F Post) F 0=aIK F (fun f=>Post (.new .lin f)):=
 (aU8 F _ F 0).trans (QY (b:=xB F (fun J I G u r=>aYg (fun f=>Post (.new .lin f)) J I G u r (aFd F (aW4 F Post) F 0)) F) XW (by rewrite[bLt F Post];kernel_rfl))
theorem aU9 (F:Nat) (K:zK):∀n r,aKZ F K n r=aDH F (aOF (K (.exit 0))) n
 |0,_=>XW
 |n+1,r=>QY (b:=(fun u f G=>aYd (aKZ F K n (r+1)) (aOF (K (.exit 0))) u f G)) XW (by rewrite[aU9 F K n (r+1)];kernel_rfl)
theorem bLw (F:Nat) (Post:aC UU->Prop):aKZ F (aW7 F Post) F 0=aIL F (fun f=>Post (.new .lin f)):=
 (aU9 F _ F 0).trans (QY (b:=aDH F (fun u r G=>aYh (fun f=>Post (.new .lin f)) u r G (aFe F (aW6 F Post) F 0)) F) XW (by rewrite[bLv F Post];kernel_rfl))
theorem bRC (F:Nat) (Post:aC UU->Prop) (r:List (List aA)):exec (jL jV) f98.ntmps jH F 0 (bo f98) (dD [.sl .rects r]) (bJ (jL jV) true f98 Post)=aQI F r (fun f=>Post (.new .lin f)):=
 QY (b:=aYe r (fun f=>Post (.new .lin f)) (aKZ F (aW7 F Post) F 0)) XW (by rewrite[bLw F Post];kernel_rfl)
def aS1:Model UU
 |[.sl .rects f]=>some ([aMf f],.new .lin (aHI f))
 |_=>none
def tL:Cfg UU:=jV.add 98 aS1
theorem bGG:aW tL:=(bWL rfl bG6) mixed (c:=bo f98) func98 XW XW fun xs G r h f=>by
 unfold aS1 at h;split at h
 ·rename_i u;cases h;obtain⟨F,hF⟩:=bKi u f;exact⟨XW,jH,F,true,⟨by rw[bRC];exact hF _ rfl⟩⟩
 ·cases h
end
end Go.Proofs.YtjjbojomlfgjlaaGreatDoor
