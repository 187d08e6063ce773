/- Faces that cross: the contracts of both Clash functions. Conditions: none. -/
import Derived.Test.YtckhagnnipibaaaRRRClash2
namespace Go.Proofs.YtckhagnnipibaaaRRR
open Go.Vm Go.RowKit
set_option linter.unusedVariables false

def mi (a b : Int) : Int := if b < a then b else a
def ma (a b : Int) : Int := if a < b then b else a
/-- Do the faces not cross in axis i, where p, q are the axes of their normals? -/
def offP (a b : Fc) (p q : Int) (i : Nat) : Bool :=
  bif (i : Int) == p then (decide (a.ct 0 i ≤ mi (b.ct 0 i) (b.ct 2 i)) || decide (ma (b.ct 0 i) (b.ct 2 i) ≤ a.ct 0 i))
  else bif (i : Int) == q then (decide (b.ct 0 i ≤ mi (a.ct 0 i) (a.ct 2 i)) || decide (ma (a.ct 0 i) (a.ct 2 i) ≤ b.ct 0 i))
  else decide (mi (ma (a.ct 0 i) (a.ct 2 i)) (ma (b.ct 0 i) (b.ct 2 i)) ≤ ma (mi (a.ct 0 i) (a.ct 2 i)) (mi (b.ct 0 i) (b.ct 2 i)))
def offQ (a b : Fc) (p q : Int) (i : Nat) (R G : Prop) : Prop :=
  cond ((i : Int) == p) (cond (decide (a.ct 0 i ≤ mi (b.ct 0 i) (b.ct 2 i)) || decide (ma (b.ct 0 i) (b.ct 2 i) ≤ a.ct 0 i)) R G)
  (cond ((i : Int) == q) (cond (decide (b.ct 0 i ≤ mi (a.ct 0 i) (a.ct 2 i)) || decide (ma (a.ct 0 i) (a.ct 2 i) ≤ b.ct 0 i)) R G)
  (cond (decide (mi (ma (a.ct 0 i) (a.ct 2 i)) (ma (b.ct 0 i) (b.ct 2 i)) ≤ ma (mi (a.ct 0 i) (a.ct 2 i)) (mi (b.ct 0 i) (b.ct 2 i)))) R G))
theorem offQ_ok {a b : Fc} {p q : Int} {i : Nat} {R G : Prop} (hR : offP a b p q i = true → R) (hG : offP a b p q i = false → G) : offQ a b p q i R G := by
  unfold offQ
  unfold offP at hR hG
  cases h1 : ((i : Int) == p)
  · rw [h1] at hR hG
    cases h2 : ((i : Int) == q)
    · rw [h2] at hR hG
      generalize decide (mi (ma (a.ct 0 i) (a.ct 2 i)) (ma (b.ct 0 i) (b.ct 2 i)) ≤ ma (mi (a.ct 0 i) (a.ct 2 i)) (mi (b.ct 0 i) (b.ct 2 i))) = c at *
      cases c
      · exact hG rfl
      · exact hR rfl
    · rw [h2] at hR hG
      generalize (decide (b.ct 0 i ≤ mi (a.ct 0 i) (a.ct 2 i)) || decide (ma (a.ct 0 i) (a.ct 2 i) ≤ b.ct 0 i)) = c at *
      cases c
      · exact hG rfl
      · exact hR rfl
  · rw [h1] at hR hG
    generalize (decide (a.ct 0 i ≤ mi (b.ct 0 i) (b.ct 2 i)) || decide (ma (b.ct 0 i) (b.ct 2 i) ≤ a.ct 0 i)) = c at *
    cases c
    · exact hG rfl
    · exact hR rfl

def MPc : Nat → Canon U0 := fun _ => ⟨[4, 5, 6, 7, 8, 47], [7, 8], []⟩
def stPc (a b : Fc) (p q : Int) (i : Nat) : ASt U0 :=
  ⟨fun u => cond (Nat.beq u 4) (.bool false) (cond (Nat.beq u 5) (vi p) (cond (Nat.beq u 6) (vi q) (cond (Nat.beq u 7) (.ptr 7 0) (cond (Nat.beq u 8) (.ptr 8 0) (cond (Nat.beq u 47) (vi i) .any))))),
   fun u => cond (Nat.beq u 7) (some (.cells a.cor)) (cond (Nat.beq u 8) (some (.cells b.cor)) none)⟩
noncomputable def lPc : Code := (loopsOf (bo Try.f13)).getD 0 .skip
def ixs (i : Nat) (P : Prop) : Prop := ix 0 4 ∧ (ix i 3 ∧ (ix 2 4 ∧ (ix i 3 ∧ P)))
theorem ixs_ok {i : Nat} (h : ix i 3) {P : Prop} (hp : P) : ixs i P := ⟨ix4 (by decide), h, ix4 (by decide), h, hp⟩
theorem pc0 (a b : Fc) (p q : Int) (F n : Nat) (K : AEx → ASt U0 → Prop) (hR : offP a b p q 0 = true → K .ret (stPc a b p q 0)) (hG : offP a b p q 0 = false → iter (exec CX 119 MPc F 0 lPc) (MPc 0) n (stPc a b p q 1) K) : iter (exec CX 119 MPc F 0 lPc) (MPc 0) (n + 1) (stPc a b p q 0) K :=
  (Done.of (q := ixs 0 (ixs 0 (offQ a b p q 0 (K .ret (stPc a b p q 0)) (iter (exec CX 119 MPc F 0 lPc) (MPc 0) n (stPc a b p q 1) K)))) (by kernel_rfl) (ixs_ok ix0 (ixs_ok ix0 (offQ_ok hR hG)))).out
theorem pc1 (a b : Fc) (p q : Int) (F n : Nat) (K : AEx → ASt U0 → Prop) (hR : offP a b p q 1 = true → K .ret (stPc a b p q 1)) (hG : offP a b p q 1 = false → iter (exec CX 119 MPc F 0 lPc) (MPc 0) n (stPc a b p q 2) K) : iter (exec CX 119 MPc F 0 lPc) (MPc 0) (n + 1) (stPc a b p q 1) K :=
  (Done.of (q := ixs 1 (ixs 1 (offQ a b p q 1 (K .ret (stPc a b p q 1)) (iter (exec CX 119 MPc F 0 lPc) (MPc 0) n (stPc a b p q 2) K)))) (by kernel_rfl) (ixs_ok ix1 (ixs_ok ix1 (offQ_ok hR hG)))).out
theorem pc2 (a b : Fc) (p q : Int) (F n : Nat) (K : AEx → ASt U0 → Prop) (hR : offP a b p q 2 = true → K .ret (stPc a b p q 2)) (hG : offP a b p q 2 = false → iter (exec CX 119 MPc F 0 lPc) (MPc 0) n (stPc a b p q 3) K) : iter (exec CX 119 MPc F 0 lPc) (MPc 0) (n + 1) (stPc a b p q 2) K :=
  (Done.of (q := ixs 2 (ixs 2 (offQ a b p q 2 (K .ret (stPc a b p q 2)) (iter (exec CX 119 MPc F 0 lPc) (MPc 0) n (stPc a b p q 3) K)))) (by kernel_rfl) (ixs_ok ix2 (ixs_ok ix2 (offQ_ok hR hG)))).out
theorem pce (a b : Fc) (p q : Int) (F n : Nat) (K : AEx → ASt U0 → Prop) (h : K (.exit 0) (stPc a b p q 3)) : iter (exec CX 119 MPc F 0 lPc) (MPc 0) (n + 1) (stPc a b p q 3) K :=
  (Done.of (q := K (.exit 0) (stPc a b p q 3)) (by kernel_rfl) h).out
def pcB (a b : Fc) (p q : Int) : Bool := !(offP a b p q 0 || (offP a b p q 1 || offP a b p q 2))
theorem pcl (a b : Fc) (p q : Int) (F : Nat) (K : AEx → ASt U0 → Prop) (hR : pcB a b p q = false → ∀ i, K .ret (stPc a b p q i)) (hG : pcB a b p q = true → K (.exit 0) (stPc a b p q 3)) : iter (exec CX 119 MPc F 0 lPc) (MPc 0) 4 (stPc a b p q 0) K := by
  unfold pcB at hR hG
  refine pc0 a b p q F 3 K (fun h => hR (by rw [h]; rfl) 0) (fun h0 => ?_)
  refine pc1 a b p q F 2 K (fun h => hR (by rw [h0, h]; rfl) 1) (fun h1 => ?_)
  refine pc2 a b p q F 1 K (fun h => hR (by rw [h0, h1, h]; rfl) 2) (fun h2 => ?_)
  exact pce a b p q F 0 K (hG (by rw [h0, h1, h2]; rfl))

/-- The axis of the normal, as the program reckons it. -/
def Fc.fl (f : Fc) : Int := w64 (w64 (3 - f.ua) - f.va)
def clP (a b : Fc) : Bool := !(!a.pl || !b.pl) && (!(a.fl == b.fl) && pcB a b a.fl b.fl)
def mClash (c : Fc → Fc → Bool) : Model U0
  | [.agg l, .agg m] => match fc? l, fc? m with
    | some a, some b => some ([], .bool (c a b))
    | _, _ => none
  | _ => none
noncomputable def CY : Cfg U0 := CX.add 13 (mClash clP)
/-- What comes behind a block; what comes behind the first part of a sequence. -/
def kBlock (id : Nat) (K : AEx → ASt U0 → Prop) : AEx → ASt U0 → Prop := fun e s' => match e with
  | .exit id' => cond (Nat.beq id' id) (K .normal s') (K (.exit id') s')
  | e => K e s'
noncomputable def kSeq (C : Cfg U0) (n : Nat) (M : Nat → Canon U0) (fuel cur : Nat) (y : Code) (K : AEx → ASt U0 → Prop) : AEx → ASt U0 → Prop := fun e s' => match e with
  | .normal => exec C n M fuel cur y s' K
  | e => K e s'
def sndC : Code → Code
  | .seq _ y => y
  | c => c
noncomputable def rPc : Code := sndC (sndC (sndC (sndC (sndC (sndC (bo Try.f13))))))
noncomputable def kPc (r : Bool) : AEx → ASt U0 → Prop := kBlock 0 (kSeq CX 119 MPc 4 0 rPc (AEnds CX Try.f13 fun r' => r' = .bool r))
noncomputable def clQ (a b : Fc) (r : Bool) : Prop :=
  cond (!a.pl || !b.pl) (AVal.bool (U := U0) false = .bool r) (cond (a.fl == b.fl) (AVal.bool (U := U0) false = .bool r) (iter (exec CX 119 MPc 4 0 lPc) (MPc 0) 4 (stPc a b a.fl b.fl 0) (kPc r)))
theorem kPc_ret (a b : Fc) (p q : Int) (i : Nat) (r : Bool) (h : r = false) : kPc r .ret (stPc a b p q i) :=
  (Done.of (q := AVal.bool (U := U0) false = .bool r) (by kernel_rfl) (by rw [h])).out
theorem kPc_exit (a b : Fc) (p q : Int) (r : Bool) (h : r = true) : kPc r (.exit 0) (stPc a b p q 3) :=
  (Done.of (q := AVal.bool (U := U0) true = .bool r) (by kernel_rfl) (by rw [h])).out
theorem cl_ok (a b : Fc) : clQ a b (clP a b) := by
  unfold clQ
  cases hp : (!a.pl || !b.pl)
  case true =>
    unfold clP
    rw [hp]
    rfl
  case false =>
    cases hq : (a.fl == b.fl)
    case true =>
      unfold clP
      rw [hp, hq]
      rfl
    case false =>
      refine pcl a b a.fl b.fl _ _ (fun h i => kPc_ret a b _ _ i _ ?_) (fun h => kPc_exit a b _ _ _ ?_)
      · unfold clP
        rw [hp, hq, h]
        rfl
      · unfold clP
        rw [hp, hq, h]
        rfl
theorem sY : SumOK CY := by
  refine sX.addD mixed (fn := Try.f13) (c := bo Try.f13) Try.func13 (by kernel_rfl) (by kernel_rfl) ?_
  intro xs cs r h hcs
  unfold mClash at h
  split at h
  · split at h
    · rename_i a b h1 h2
      cases h
      rw [fc_spec h1, fc_spec h2]
      exact ⟨by kernel_rfl, MPc, 4, Done.of (q := clQ a b (clP a b)) (by kernel_rfl) (cl_ok a b)⟩
    · cases h
  · cases h
end Go.Proofs.YtckhagnnipibaaaRRR
