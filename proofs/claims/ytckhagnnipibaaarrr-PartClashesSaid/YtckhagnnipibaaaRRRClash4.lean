/- Faces that cross: the reference's Clash. Conditions: none. -/
import Derived.Test.YtckhagnnipibaaaRRRClash3
namespace Go.Proofs.YtckhagnnipibaaaRRR
open Go.Vm Go.RowKit
set_option linter.unusedVariables false

/-- The axis of the normal, as the reference reckons it. -/
def Fc.na (f : Fc) : Int := ax (w64 (w64 (f.u1 * f.v2) - w64 (f.u2 * f.v1))) (w64 (w64 (f.u2 * f.v0) - w64 (f.u0 * f.v2))) (w64 (w64 (f.u0 * f.v1) - w64 (f.u1 * f.v0)))
def off1 (a b : Fc) (t : Nat) : Bool := (a.lo t == a.hi t && !(decide (b.lo t < a.lo t) && decide (a.lo t < b.hi t))) || (b.lo t == b.hi t && !(decide (a.lo t < b.lo t) && decide (b.lo t < a.hi t)))
def off2 (a b : Fc) (t : Nat) : Bool := (decide (a.lo t < a.hi t) && decide (b.lo t < b.hi t)) && (decide (a.hi t ≤ b.lo t) || decide (b.hi t ≤ a.lo t))
def MRc : Nat → Canon U0 := fun _ => ⟨[2, 3, 4, 5], [2, 3], []⟩
def stRc (a b : Fc) (i : Nat) : ASt U0 :=
  ⟨fun u => cond (Nat.beq u 2) (.ptr 2 0) (cond (Nat.beq u 3) (.ptr 3 0) (cond (Nat.beq u 4) (.bool false) (cond (Nat.beq u 5) (vi i) .any))),
   fun u => cond (Nat.beq u 2) (some (.cells a.cells)) (cond (Nat.beq u 3) (some (.cells b.cells)) none)⟩
noncomputable def lRc : Code := (loopsOf (bo Try.f14)).getD 0 .skip
theorem rc0 (a b : Fc) (F n : Nat) (K : AEx → ASt U0 → Prop) (hR : off1 a b 0 = true ∨ off2 a b 0 = true → K .ret (stRc a b 0)) (hG : off1 a b 0 = false → off2 a b 0 = false → iter (exec CY 93 MRc F 0 lRc) (MRc 0) n (stRc a b 1) K) : iter (exec CY 93 MRc F 0 lRc) (MRc 0) (n + 1) (stRc a b 0) K := by
  refine (Done.of (q := cond (off1 a b 0) (K .ret (stRc a b 0)) (cond (off2 a b 0) (K .ret (stRc a b 0)) (iter (exec CY 93 MRc F 0 lRc) (MRc 0) n (stRc a b 1) K))) (by kernel_rfl) ?_).out
  cases h1 : off1 a b 0
  · cases h2 : off2 a b 0
    · exact hG h1 h2
    · exact hR (.inr h2)
  · exact hR (.inl h1)
theorem rc1 (a b : Fc) (F n : Nat) (K : AEx → ASt U0 → Prop) (hR : off1 a b 1 = true ∨ off2 a b 1 = true → K .ret (stRc a b 1)) (hG : off1 a b 1 = false → off2 a b 1 = false → iter (exec CY 93 MRc F 0 lRc) (MRc 0) n (stRc a b 2) K) : iter (exec CY 93 MRc F 0 lRc) (MRc 0) (n + 1) (stRc a b 1) K := by
  refine (Done.of (q := cond (off1 a b 1) (K .ret (stRc a b 1)) (cond (off2 a b 1) (K .ret (stRc a b 1)) (iter (exec CY 93 MRc F 0 lRc) (MRc 0) n (stRc a b 2) K))) (by kernel_rfl) ?_).out
  cases h1 : off1 a b 1
  · cases h2 : off2 a b 1
    · exact hG h1 h2
    · exact hR (.inr h2)
  · exact hR (.inl h1)
theorem rc2 (a b : Fc) (F n : Nat) (K : AEx → ASt U0 → Prop) (hR : off1 a b 2 = true ∨ off2 a b 2 = true → K .ret (stRc a b 2)) (hG : off1 a b 2 = false → off2 a b 2 = false → iter (exec CY 93 MRc F 0 lRc) (MRc 0) n (stRc a b 3) K) : iter (exec CY 93 MRc F 0 lRc) (MRc 0) (n + 1) (stRc a b 2) K := by
  refine (Done.of (q := cond (off1 a b 2) (K .ret (stRc a b 2)) (cond (off2 a b 2) (K .ret (stRc a b 2)) (iter (exec CY 93 MRc F 0 lRc) (MRc 0) n (stRc a b 3) K))) (by kernel_rfl) ?_).out
  cases h1 : off1 a b 2
  · cases h2 : off2 a b 2
    · exact hG h1 h2
    · exact hR (.inr h2)
  · exact hR (.inl h1)
theorem rce (a b : Fc) (F n : Nat) (K : AEx → ASt U0 → Prop) (h : K (.exit 0) (stRc a b 3)) : iter (exec CY 93 MRc F 0 lRc) (MRc 0) (n + 1) (stRc a b 3) K :=
  (Done.of (q := K (.exit 0) (stRc a b 3)) (by kernel_rfl) h).out
def rcB (a b : Fc) : Bool := !((off1 a b 0 || off2 a b 0) || ((off1 a b 1 || off2 a b 1) || (off1 a b 2 || off2 a b 2)))
theorem rcl (a b : Fc) (F : Nat) (K : AEx → ASt U0 → Prop) (hR : rcB a b = false → ∀ i, K .ret (stRc a b i)) (hG : rcB a b = true → K (.exit 0) (stRc a b 3)) : iter (exec CY 93 MRc F 0 lRc) (MRc 0) 4 (stRc a b 0) K := by
  unfold rcB at hR hG
  have or1 : ∀ {x y : Bool}, x = true ∨ y = true → (x || y) = true := fun h => by simpa using h
  refine rc0 a b F 3 K (fun h => hR (by rw [or1 h]; rfl) 0) (fun h0 h0' => ?_)
  refine rc1 a b F 2 K (fun h => hR (by rw [h0, h0', or1 h]; rfl) 1) (fun h1 h1' => ?_)
  refine rc2 a b F 1 K (fun h => hR (by rw [h0, h0', h1, h1', or1 h]; rfl) 2) (fun h2 h2' => ?_)
  exact rce a b F 0 K (hG (by rw [h0, h0', h1, h1', h2, h2']; rfl))
def clR (a b : Fc) : Bool := a.pl && (b.pl && (!(a.na == b.na) && rcB a b))
noncomputable def rRc : Code := sndC (sndC (sndC (bo Try.f14)))
noncomputable def kRc (r : Bool) : AEx → ASt U0 → Prop := kBlock 0 (kSeq CY 93 MRc 4 0 rRc (AEnds CY Try.f14 fun r' => r' = .bool r))
theorem kRc_ret (a b : Fc) (i : Nat) (r : Bool) (h : r = false) : kRc r .ret (stRc a b i) :=
  (Done.of (q := AVal.bool (U := U0) false = .bool r) (by kernel_rfl) (by rw [h])).out
theorem kRc_exit (a b : Fc) (r : Bool) (h : r = true) : kRc r (.exit 0) (stRc a b 3) :=
  (Done.of (q := AVal.bool (U := U0) true = .bool r) (by kernel_rfl) (by rw [h])).out
noncomputable def CZ : Cfg U0 := CY.add 14 (mClash clR)
set_option maxHeartbeats 1000000 in
theorem xZ (a b : Fc) : Done (exec CY 93 MRc 4 0 (bo Try.f14) (initSt [.agg a.cells, .agg b.cells]) (AEnds CY Try.f14 fun r' => r' = .bool (clR a b))) := by
  cases h1 : a.pl
  · have hr : clR a b = false := by unfold clR; rw [h1]; rfl
    rw [hr]
    conv => arg 1; whnf
    rw [h1]
    exact Done.of (q := AVal.bool (U := U0) false = .bool false) (by kernel_rfl) rfl
  · cases h2 : b.pl
    · have hr : clR a b = false := by unfold clR; rw [h1, h2]; rfl
      rw [hr]
      conv => arg 1; whnf
      rw [h1]
      conv => arg 1; whnf
      rw [h2]
      exact Done.of (q := AVal.bool (U := U0) false = .bool false) (by kernel_rfl) rfl
    · conv => arg 1; whnf
      rw [h1]
      conv => arg 1; whnf
      rw [h2]
      refine Done.of (q := cond (a.na == b.na) (AVal.bool (U := U0) false = .bool (clR a b)) (iter (exec CY 93 MRc 4 0 lRc) (MRc 0) 4 (stRc a b 0) (kRc (clR a b)))) (by kernel_rfl) ?_
      cases h3 : (a.na == b.na)
      · refine rcl a b _ _ (fun h i => kRc_ret a b i _ ?_) (fun h => kRc_exit a b _ ?_)
        · unfold clR
          rw [h1, h2, h3, h]
          rfl
        · unfold clR
          rw [h1, h2, h3, h]
          rfl
      · unfold clR
        rw [h1, h2, h3]
        rfl
theorem sZ : SumOK CZ := by
  refine sY.addD mixed (fn := Try.f14) (c := bo Try.f14) Try.func14 (by kernel_rfl) (by kernel_rfl) ?_
  intro xs cs r h hcs
  unfold mClash at h
  split at h
  · split at h
    · rename_i a b h1 h2
      cases h
      rw [fc_spec h1, fc_spec h2]
      exact ⟨by kernel_rfl, MRc, 4, xZ a b⟩
    · cases h
  · cases h
end Go.Proofs.YtckhagnnipibaaaRRR
