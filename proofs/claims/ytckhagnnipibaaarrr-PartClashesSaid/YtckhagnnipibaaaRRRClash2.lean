/- Faces that cross: box, and what both Clash functions reckon. Conditions: none. -/
import Derived.Test.YtckhagnnipibaaaRRRClash
namespace Go.Proofs.YtckhagnnipibaaaRRR
open Go.Vm Go.RowKit
set_option linter.unusedVariables false

def Fc.ot (f : Fc) : Nat → Int
  | 0 => f.o0
  | 1 => f.o1
  | _ => f.o2
def Fc.ut (f : Fc) : Nat → Int
  | 0 => f.u0
  | 1 => f.u1
  | _ => f.u2
def Fc.vt (f : Fc) : Nat → Int
  | 0 => f.v0
  | 1 => f.v1
  | _ => f.v2
/-- Corner k in axis t. -/
def Fc.ct (f : Fc) (k t : Nat) : Int := match k with
  | 0 => f.ot t
  | 1 => al (f.ot t) f.w (f.ut t)
  | 2 => al (al (f.ot t) f.w (f.ut t)) f.h (f.vt t)
  | _ => al (f.ot t) f.h (f.vt t)
def mn (n lo : Int) : Int := bif decide (n < lo) then n else lo
def mx (n hi : Int) : Int := bif decide (hi < n) then n else hi
def Fc.lo (f : Fc) (t : Nat) : Int := mn (f.ct 3 t) (mn (f.ct 2 t) (mn (f.ct 1 t) (f.ct 0 t)))
def Fc.hi (f : Fc) (t : Nat) : Int := mx (f.ct 3 t) (mx (f.ct 2 t) (mx (f.ct 1 t) (f.ct 0 t)))
def mBox : Model U0
  | [.agg l, .int .i64 (.ofNat t)] => match fc? l with
    | some f => cond (Nat.blt t 3) (some ([], .tup [vi (f.lo t), vi (f.hi t)])) none
    | none => none
  | _ => none

def MBx : Nat → Canon U0 := fun _ => ⟨[1, 4, 5, 6, 7, 8, 9], [6], []⟩
def Fc.cor (f : Fc) : List (AVal U0) := [vi (f.ct 0 0), vi (f.ct 0 1), vi (f.ct 0 2), vi (f.ct 1 0), vi (f.ct 1 1), vi (f.ct 1 2), vi (f.ct 2 0), vi (f.ct 2 1), vi (f.ct 2 2), vi (f.ct 3 0), vi (f.ct 3 1), vi (f.ct 3 2)]
def stBx (f : Fc) (t : Nat) (lo hi : Int) (i : Nat) : ASt U0 :=
  ⟨fun u => cond (Nat.beq u 1) (vi t) (cond (Nat.beq u 4) (vi 0) (cond (Nat.beq u 5) (vi 0) (cond (Nat.beq u 6) (.ptr 6 0) (cond (Nat.beq u 7) (vi lo) (cond (Nat.beq u 8) (vi hi) (cond (Nat.beq u 9) (vi i) .any)))))), fun u => cond (Nat.beq u 6) (some (.cells f.cor)) none⟩
noncomputable def lBx : Code := (loopsOf (bo Try.f30)).getD 0 .skip
def bxQ (lo hi n : Int) (G : Int → Int → Prop) : Prop := cond (decide (n < lo)) (cond (decide (hi < n)) (G n n) (G n hi)) (cond (decide (hi < n)) (G lo n) (G lo hi))
theorem bxQ_ok {lo hi n : Int} {G : Int → Int → Prop} (h : G (mn n lo) (mx n hi)) : bxQ lo hi n G := by
  unfold bxQ
  unfold mn mx at h
  cases h1 : decide (n < lo) <;> cases h2 : decide (hi < n) <;> rw [h1, h2] at h <;> exact h
theorem ix4 {i : Nat} (h : i < 4) : ix i 4 := ⟨by omega, by omega⟩
theorem bx01 (f : Fc) (lo hi : Int) (F n : Nat) (K : AEx → ASt U0 → Prop) (h : iter (exec CS 43 MBx F 0 lBx) (MBx 0) n (stBx f 0 (mn (f.ct 1 0) lo) (mx (f.ct 1 0) hi) 2) K) : iter (exec CS 43 MBx F 0 lBx) (MBx 0) (n + 1) (stBx f 0 lo hi 1) K :=
  (Done.of (q := (ix 1 4 ∧ ix 0 3) ∧ bxQ lo hi (f.ct 1 0) fun a b => iter (exec CS 43 MBx F 0 lBx) (MBx 0) n (stBx f 0 a b 2) K) (by kernel_rfl) ⟨⟨ix4 (by decide), ix0⟩, bxQ_ok h⟩).out
theorem bx02 (f : Fc) (lo hi : Int) (F n : Nat) (K : AEx → ASt U0 → Prop) (h : iter (exec CS 43 MBx F 0 lBx) (MBx 0) n (stBx f 0 (mn (f.ct 2 0) lo) (mx (f.ct 2 0) hi) 3) K) : iter (exec CS 43 MBx F 0 lBx) (MBx 0) (n + 1) (stBx f 0 lo hi 2) K :=
  (Done.of (q := (ix 2 4 ∧ ix 0 3) ∧ bxQ lo hi (f.ct 2 0) fun a b => iter (exec CS 43 MBx F 0 lBx) (MBx 0) n (stBx f 0 a b 3) K) (by kernel_rfl) ⟨⟨ix4 (by decide), ix0⟩, bxQ_ok h⟩).out
theorem bx03 (f : Fc) (lo hi : Int) (F n : Nat) (K : AEx → ASt U0 → Prop) (h : iter (exec CS 43 MBx F 0 lBx) (MBx 0) n (stBx f 0 (mn (f.ct 3 0) lo) (mx (f.ct 3 0) hi) 4) K) : iter (exec CS 43 MBx F 0 lBx) (MBx 0) (n + 1) (stBx f 0 lo hi 3) K :=
  (Done.of (q := (ix 3 4 ∧ ix 0 3) ∧ bxQ lo hi (f.ct 3 0) fun a b => iter (exec CS 43 MBx F 0 lBx) (MBx 0) n (stBx f 0 a b 4) K) (by kernel_rfl) ⟨⟨ix4 (by decide), ix0⟩, bxQ_ok h⟩).out
theorem bxe0 (f : Fc) (lo hi : Int) (F n : Nat) (K : AEx → ASt U0 → Prop) (h : K (.exit 0) (stBx f 0 lo hi 4)) : iter (exec CS 43 MBx F 0 lBx) (MBx 0) (n + 1) (stBx f 0 lo hi 4) K :=
  (Done.of (q := K (.exit 0) (stBx f 0 lo hi 4)) (by kernel_rfl) h).out
theorem bxl0 (f : Fc) (F : Nat) (K : AEx → ASt U0 → Prop) (h : K (.exit 0) (stBx f 0 (f.lo 0) (f.hi 0) 4)) : iter (exec CS 43 MBx F 0 lBx) (MBx 0) 4 (stBx f 0 (f.ct 0 0) (f.ct 0 0) 1) K :=
  bx01 f _ _ F 3 K (bx02 f _ _ F 2 K (bx03 f _ _ F 1 K (bxe0 f _ _ F 0 K h)))
theorem bx11 (f : Fc) (lo hi : Int) (F n : Nat) (K : AEx → ASt U0 → Prop) (h : iter (exec CS 43 MBx F 0 lBx) (MBx 0) n (stBx f 1 (mn (f.ct 1 1) lo) (mx (f.ct 1 1) hi) 2) K) : iter (exec CS 43 MBx F 0 lBx) (MBx 0) (n + 1) (stBx f 1 lo hi 1) K :=
  (Done.of (q := (ix 1 4 ∧ ix 1 3) ∧ bxQ lo hi (f.ct 1 1) fun a b => iter (exec CS 43 MBx F 0 lBx) (MBx 0) n (stBx f 1 a b 2) K) (by kernel_rfl) ⟨⟨ix4 (by decide), ix1⟩, bxQ_ok h⟩).out
theorem bx12 (f : Fc) (lo hi : Int) (F n : Nat) (K : AEx → ASt U0 → Prop) (h : iter (exec CS 43 MBx F 0 lBx) (MBx 0) n (stBx f 1 (mn (f.ct 2 1) lo) (mx (f.ct 2 1) hi) 3) K) : iter (exec CS 43 MBx F 0 lBx) (MBx 0) (n + 1) (stBx f 1 lo hi 2) K :=
  (Done.of (q := (ix 2 4 ∧ ix 1 3) ∧ bxQ lo hi (f.ct 2 1) fun a b => iter (exec CS 43 MBx F 0 lBx) (MBx 0) n (stBx f 1 a b 3) K) (by kernel_rfl) ⟨⟨ix4 (by decide), ix1⟩, bxQ_ok h⟩).out
theorem bx13 (f : Fc) (lo hi : Int) (F n : Nat) (K : AEx → ASt U0 → Prop) (h : iter (exec CS 43 MBx F 0 lBx) (MBx 0) n (stBx f 1 (mn (f.ct 3 1) lo) (mx (f.ct 3 1) hi) 4) K) : iter (exec CS 43 MBx F 0 lBx) (MBx 0) (n + 1) (stBx f 1 lo hi 3) K :=
  (Done.of (q := (ix 3 4 ∧ ix 1 3) ∧ bxQ lo hi (f.ct 3 1) fun a b => iter (exec CS 43 MBx F 0 lBx) (MBx 0) n (stBx f 1 a b 4) K) (by kernel_rfl) ⟨⟨ix4 (by decide), ix1⟩, bxQ_ok h⟩).out
theorem bxe1 (f : Fc) (lo hi : Int) (F n : Nat) (K : AEx → ASt U0 → Prop) (h : K (.exit 0) (stBx f 1 lo hi 4)) : iter (exec CS 43 MBx F 0 lBx) (MBx 0) (n + 1) (stBx f 1 lo hi 4) K :=
  (Done.of (q := K (.exit 0) (stBx f 1 lo hi 4)) (by kernel_rfl) h).out
theorem bxl1 (f : Fc) (F : Nat) (K : AEx → ASt U0 → Prop) (h : K (.exit 0) (stBx f 1 (f.lo 1) (f.hi 1) 4)) : iter (exec CS 43 MBx F 0 lBx) (MBx 0) 4 (stBx f 1 (f.ct 0 1) (f.ct 0 1) 1) K :=
  bx11 f _ _ F 3 K (bx12 f _ _ F 2 K (bx13 f _ _ F 1 K (bxe1 f _ _ F 0 K h)))
theorem bx21 (f : Fc) (lo hi : Int) (F n : Nat) (K : AEx → ASt U0 → Prop) (h : iter (exec CS 43 MBx F 0 lBx) (MBx 0) n (stBx f 2 (mn (f.ct 1 2) lo) (mx (f.ct 1 2) hi) 2) K) : iter (exec CS 43 MBx F 0 lBx) (MBx 0) (n + 1) (stBx f 2 lo hi 1) K :=
  (Done.of (q := (ix 1 4 ∧ ix 2 3) ∧ bxQ lo hi (f.ct 1 2) fun a b => iter (exec CS 43 MBx F 0 lBx) (MBx 0) n (stBx f 2 a b 2) K) (by kernel_rfl) ⟨⟨ix4 (by decide), ix2⟩, bxQ_ok h⟩).out
theorem bx22 (f : Fc) (lo hi : Int) (F n : Nat) (K : AEx → ASt U0 → Prop) (h : iter (exec CS 43 MBx F 0 lBx) (MBx 0) n (stBx f 2 (mn (f.ct 2 2) lo) (mx (f.ct 2 2) hi) 3) K) : iter (exec CS 43 MBx F 0 lBx) (MBx 0) (n + 1) (stBx f 2 lo hi 2) K :=
  (Done.of (q := (ix 2 4 ∧ ix 2 3) ∧ bxQ lo hi (f.ct 2 2) fun a b => iter (exec CS 43 MBx F 0 lBx) (MBx 0) n (stBx f 2 a b 3) K) (by kernel_rfl) ⟨⟨ix4 (by decide), ix2⟩, bxQ_ok h⟩).out
theorem bx23 (f : Fc) (lo hi : Int) (F n : Nat) (K : AEx → ASt U0 → Prop) (h : iter (exec CS 43 MBx F 0 lBx) (MBx 0) n (stBx f 2 (mn (f.ct 3 2) lo) (mx (f.ct 3 2) hi) 4) K) : iter (exec CS 43 MBx F 0 lBx) (MBx 0) (n + 1) (stBx f 2 lo hi 3) K :=
  (Done.of (q := (ix 3 4 ∧ ix 2 3) ∧ bxQ lo hi (f.ct 3 2) fun a b => iter (exec CS 43 MBx F 0 lBx) (MBx 0) n (stBx f 2 a b 4) K) (by kernel_rfl) ⟨⟨ix4 (by decide), ix2⟩, bxQ_ok h⟩).out
theorem bxe2 (f : Fc) (lo hi : Int) (F n : Nat) (K : AEx → ASt U0 → Prop) (h : K (.exit 0) (stBx f 2 lo hi 4)) : iter (exec CS 43 MBx F 0 lBx) (MBx 0) (n + 1) (stBx f 2 lo hi 4) K :=
  (Done.of (q := K (.exit 0) (stBx f 2 lo hi 4)) (by kernel_rfl) h).out
theorem bxl2 (f : Fc) (F : Nat) (K : AEx → ASt U0 → Prop) (h : K (.exit 0) (stBx f 2 (f.lo 2) (f.hi 2) 4)) : iter (exec CS 43 MBx F 0 lBx) (MBx 0) 4 (stBx f 2 (f.ct 0 2) (f.ct 0 2) 1) K :=
  bx21 f _ _ F 3 K (bx22 f _ _ F 2 K (bx23 f _ _ F 1 K (bxe2 f _ _ F 0 K h)))

noncomputable def CX : Cfg U0 := CS.add 30 mBox
set_option maxHeartbeats 2000000 in
theorem sX : SumOK CX := by
  refine sS.addD mixed (fn := Try.f30) (c := bo Try.f30) Try.func30 (by kernel_rfl) (by kernel_rfl) ?_
  intro xs cs r h hcs
  unfold mBox at h
  split at h
  · split at h
    · rename_i l t _ f h1
      rw [fc_spec h1]
      match t, h with
      | 0, h =>
        cases h
        refine ⟨by kernel_rfl, MBx, 4, ⟨?_⟩⟩
        conv => whnf
        refine ⟨ix4 (i := 0) (by decide), ?_⟩
        conv => whnf
        refine ⟨ix0, ?_⟩
        conv => whnf
        refine ⟨ix4 (i := 0) (by decide), ?_⟩
        conv => whnf
        refine ⟨ix0, ?_⟩
        conv => whnf
        refine bxl0 f _ _ ?_
        exact back (q := AVal.tup [vi (f.lo 0), vi (f.hi 0)] = .tup [vi (f.lo 0), vi (f.hi 0)]) (by kernel_rfl) rfl
      | 1, h =>
        cases h
        refine ⟨by kernel_rfl, MBx, 4, ⟨?_⟩⟩
        conv => whnf
        refine ⟨ix4 (i := 0) (by decide), ?_⟩
        conv => whnf
        refine ⟨ix1, ?_⟩
        conv => whnf
        refine ⟨ix4 (i := 0) (by decide), ?_⟩
        conv => whnf
        refine ⟨ix1, ?_⟩
        conv => whnf
        refine bxl1 f _ _ ?_
        exact back (q := AVal.tup [vi (f.lo 1), vi (f.hi 1)] = .tup [vi (f.lo 1), vi (f.hi 1)]) (by kernel_rfl) rfl
      | 2, h =>
        cases h
        refine ⟨by kernel_rfl, MBx, 4, ⟨?_⟩⟩
        conv => whnf
        refine ⟨ix4 (i := 0) (by decide), ?_⟩
        conv => whnf
        refine ⟨ix2, ?_⟩
        conv => whnf
        refine ⟨ix4 (i := 0) (by decide), ?_⟩
        conv => whnf
        refine ⟨ix2, ?_⟩
        conv => whnf
        refine bxl2 f _ _ ?_
        exact back (q := AVal.tup [vi (f.lo 2), vi (f.hi 2)] = .tup [vi (f.lo 2), vi (f.hi 2)]) (by kernel_rfl) rfl
      | n + 3, h => cases h
    · cases h
  · cases h
end Go.Proofs.YtckhagnnipibaaaRRR
