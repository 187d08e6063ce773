/- Faces that cross: the contracts of axis, plain, sound, box. Conditions: none. -/
import Derived.Test.YtckhagnnipibaaaRRRCorners
namespace Go.Proofs.YtckhagnnipibaaaRRR
open Go.Vm Go.RowKit
set_option linter.unusedVariables false

def un (x : Int) : Bool := x == 1 || x == -1
/-- A place among n. -/
def ix (i n : Nat) : Prop := 0 ≤ (i : Int) ∧ (i : Int) < (n : Int)
theorem ix0 : ix 0 3 := ⟨by decide, by decide⟩
theorem ix1 : ix 1 3 := ⟨by decide, by decide⟩
theorem ix2 : ix 2 3 := ⟨by decide, by decide⟩
/-- The axis of a unit vector, or -1. -/
def ax (x y z : Int) : Int :=
  bif un x && (y == 0 && z == 0) then 0 else bif un y && (x == 0 && z == 0) then 1 else bif un z && (x == 0 && y == 0) then 2 else -1
def mAxis : Model U0
  | [.agg l] => match ints l with
    | some [x, y, z] => some ([], vi (ax x y z))
    | _ => none
  | _ => none

noncomputable def CC : Cfg U0 := CK.add 27 mId3
theorem sC : SumOK CC := by
  refine sK.addD mixed (fn := Try.f27) (c := bo Try.f27) Try.func27 (by kernel_rfl) (by kernel_rfl) ?_
  intro xs cs r h hcs
  unfold mId3 at h
  split at h
  · split at h
    · rename_i a b c h1
      obtain rfl := ints_spec _ _ h1
      cases h
      exact ⟨by kernel_rfl, M0, 0, Done.of (q := AVal.agg [vi a, vi b, vi c] = .agg [vi a, vi b, vi c]) (by kernel_rfl) rfl⟩
    · cases h
  · cases h

def MAx : Nat → Canon U0 := fun _ => ⟨[1, 2, 7, 8], [1], []⟩
def axQ (x y z : Int) : Prop :=
  ix 0 3 ∧ cond (un x && (y == 0 && (z == 0 && true))) (vi 0 = vi (ax x y z)) (ix 1 3 ∧ cond (un y && (x == 0 && (z == 0 && true))) (vi 1 = vi (ax x y z)) (ix 2 3 ∧ cond (un z && (x == 0 && (y == 0 && true))) (vi 2 = vi (ax x y z)) (vi (-1) = vi (ax x y z))))
theorem ax_ok (x y z : Int) : axQ x y z := by
  unfold axQ ax
  simp only [Bool.and_true]
  refine ⟨ix0, ?_⟩
  cases un x && (y == 0 && z == 0)
  · refine ⟨ix1, ?_⟩
    cases un y && (x == 0 && z == 0)
    · refine ⟨ix2, ?_⟩
      cases un z && (x == 0 && y == 0) <;> rfl
    · rfl
  · rfl
noncomputable def CA : Cfg U0 := CC.add 26 mAxis
theorem sA : SumOK CA := by
  refine sC.addD mixed (fn := Try.f26) (c := bo Try.f26) Try.func26 (by kernel_rfl) (by kernel_rfl) ?_
  intro xs cs r h hcs
  unfold mAxis at h
  split at h
  · split at h
    · rename_i x y z h1
      obtain rfl := ints_spec _ _ h1
      cases h
      exact ⟨by kernel_rfl, MAx, 4, Done.of (q := axQ x y z) (by kernel_rfl) (ax_ok x y z)⟩
    · cases h
  · cases h

def MRa : Nat → Canon U0 := fun _ => ⟨[1, 2, 3, 4], [1], []⟩
def bad (x : Int) : Bool := x != 1 && x != -1
theorem bad_un (x : Int) : un x = !bad x := by
  unfold un bad
  rw [Bool.not_and]
  simp [bne]
def raxQ (x y z : Int) : Prop :=
  (ix 0 3 ∧ cond (x == 0) (ix 1 3 ∧ cond (y == 0) (ix 2 3 ∧ cond (z == 0) (vi (-1) = vi (ax x y z)) ((decide ((0 : Int) ≤ -1) = false → ix 2 3 ∧ ((z != 1) = true → ix 2 3)) ∧ cond (z != 1 && z != -1) (vi (-1) = vi (ax x y z)) (vi (2) = vi (ax x y z)))) ((decide ((0 : Int) ≤ -1) = false → ix 1 3 ∧ ((y != 1) = true → ix 1 3)) ∧ cond (y != 1 && y != -1) (vi (-1) = vi (ax x y z)) (ix 2 3 ∧ cond (z == 0) (vi (1) = vi (ax x y z)) ((decide ((0 : Int) ≤ 1) = false → ix 2 3 ∧ ((z != 1) = true → ix 2 3)) ∧ (vi (-1) = vi (ax x y z)))))) ((decide ((0 : Int) ≤ -1) = false → ix 0 3 ∧ ((x != 1) = true → ix 0 3)) ∧ cond (x != 1 && x != -1) (vi (-1) = vi (ax x y z)) (ix 1 3 ∧ cond (y == 0) (ix 2 3 ∧ cond (z == 0) (vi (0) = vi (ax x y z)) ((decide ((0 : Int) ≤ 0) = false → ix 2 3 ∧ ((z != 1) = true → ix 2 3)) ∧ (vi (-1) = vi (ax x y z)))) ((decide ((0 : Int) ≤ 0) = false → ix 1 3 ∧ ((y != 1) = true → ix 1 3)) ∧ (vi (-1) = vi (ax x y z))))))
theorem rax_ok (x y z : Int) : raxQ x y z := by
  refine ⟨ix0, ?_⟩
  cases hx : (x == 0)
  case true =>
    refine ⟨ix1, ?_⟩
    cases hy : (y == 0)
    case true =>
      refine ⟨ix2, ?_⟩
      cases hz : (z == 0)
      case true =>
        exact congrArg vi (by simp_all [ax, un, cond_eq_ite] <;> (repeat' split) <;> omega)
      case false =>
        refine ⟨fun _ => ⟨ix2, fun _ => ix2⟩, ?_⟩
        cases hbz : (z != 1 && z != -1)
        case true =>
          exact congrArg vi (by simp_all [ax, un, cond_eq_ite] <;> (repeat' split) <;> omega)
        case false =>
          exact congrArg vi (by simp_all [ax, un, cond_eq_ite] <;> (repeat' split) <;> omega)
    case false =>
      refine ⟨fun _ => ⟨ix1, fun _ => ix1⟩, ?_⟩
      cases hby : (y != 1 && y != -1)
      case true =>
        exact congrArg vi (by simp_all [ax, un, cond_eq_ite] <;> (repeat' split) <;> omega)
      case false =>
        refine ⟨ix2, ?_⟩
        cases hz : (z == 0)
        case true =>
          exact congrArg vi (by simp_all [ax, un, cond_eq_ite] <;> (repeat' split) <;> omega)
        case false =>
          refine ⟨fun _ => ⟨ix2, fun _ => ix2⟩, ?_⟩
          exact congrArg vi (by simp_all [ax, un, cond_eq_ite] <;> (repeat' split) <;> omega)
  case false =>
    refine ⟨fun _ => ⟨ix0, fun _ => ix0⟩, ?_⟩
    cases hbx : (x != 1 && x != -1)
    case true =>
      exact congrArg vi (by simp_all [ax, un, cond_eq_ite] <;> (repeat' split) <;> omega)
    case false =>
      refine ⟨ix1, ?_⟩
      cases hy : (y == 0)
      case true =>
        refine ⟨ix2, ?_⟩
        cases hz : (z == 0)
        case true =>
          exact congrArg vi (by simp_all [ax, un, cond_eq_ite] <;> (repeat' split) <;> omega)
        case false =>
          refine ⟨fun _ => ⟨ix2, fun _ => ix2⟩, ?_⟩
          exact congrArg vi (by simp_all [ax, un, cond_eq_ite] <;> (repeat' split) <;> omega)
      case false =>
        refine ⟨fun _ => ⟨ix1, fun _ => ix1⟩, ?_⟩
        exact congrArg vi (by simp_all [ax, un, cond_eq_ite] <;> (repeat' split) <;> omega)
noncomputable def CB : Cfg U0 := CA.add 29 mAxis
theorem sB : SumOK CB := by
  refine sA.addD mixed (fn := Try.f29) (c := bo Try.f29) Try.func29 (by kernel_rfl) (by kernel_rfl) ?_
  intro xs cs r h hcs
  unfold mAxis at h
  split at h
  · split at h
    · rename_i x y z h1
      obtain rfl := ints_spec _ _ h1
      cases h
      exact ⟨by kernel_rfl, MRa, 4, Done.of (q := raxQ x y z) (by kernel_rfl) (rax_ok x y z)⟩
    · cases h
  · cases h

/-! ### plain and sound -/
noncomputable def CF : Cfg U0 := CB.add 32 mWithin
theorem sF : SumOK CF := by
  refine sB.addD mixed (fn := Try.f32) (c := bo Try.f32) Try.func32 (by kernel_rfl) (by kernel_rfl) ?_
  intro xs cs r h hcs
  unfold mWithin at h
  split at h
  · rename_i x a b
    cases h
    exact ⟨by kernel_rfl, M0, 0, Done.of (q := AVal.bool (U := U0) (decide (a ≤ x) && decide (x ≤ b)) = .bool (decide (a ≤ x) && decide (x ≤ b))) (by kernel_rfl) rfl⟩
  · cases h

def Fc.ua (f : Fc) : Int := ax f.u0 f.u1 f.u2
def Fc.va (f : Fc) : Int := ax f.v0 f.v1 f.v2
def inM (n : Int) : Bool := decide (-1048576 ≤ n) && decide (n ≤ 1048576)
def Fc.out (f : Fc) : Bool := decide (f.ua < 0) || decide (f.va < 0) || f.ua == f.va || decide (f.w < 1) || decide (f.h < 1) || decide (1048576 < f.w) || decide (1048576 < f.h)
/-- Does Clash examine a face? -/
def Fc.pl (f : Fc) : Bool := !f.out && (inM f.o0 && (inM f.o1 && inM f.o2))
def mPlain : Model U0
  | [.agg l] => match fc? l with
    | some f => some ([], .bool f.pl)
    | none => none
  | _ => none
def MPl : Nat → Canon U0 := fun _ => ⟨[1, 2, 46, 47], [1], []⟩
def Fc.plQ (f : Fc) : Prop := cond f.out (AVal.bool (U := U0) false = .bool f.pl) (ix 0 3 ∧ cond (!inM f.o0) (AVal.bool (U := U0) false = .bool f.pl) (ix 1 3 ∧ cond (!inM f.o1) (AVal.bool (U := U0) false = .bool f.pl) (ix 2 3 ∧ cond (!inM f.o2) (AVal.bool (U := U0) false = .bool f.pl) (AVal.bool (U := U0) true = .bool f.pl))))
theorem Fc.pl_ok (f : Fc) : f.plQ := by
  unfold Fc.plQ Fc.pl
  cases f.out
  · refine ⟨ix0, ?_⟩
    cases inM f.o0
    · rfl
    · refine ⟨ix1, ?_⟩
      cases inM f.o1
      · rfl
      · refine ⟨ix2, ?_⟩
        cases inM f.o2 <;> rfl
  · rfl
noncomputable def CP : Cfg U0 := CF.add 25 mPlain
theorem sP : SumOK CP := by
  refine sF.addD mixed (fn := Try.f25) (c := bo Try.f25) Try.func25 (by kernel_rfl) (by kernel_rfl) ?_
  intro xs cs r h hcs
  unfold mPlain at h
  split at h
  · split at h
    · rename_i f h1
      cases h
      rw [fc_spec h1]
      exact ⟨by kernel_rfl, MPl, 4, Done.of (q := f.plQ) (by kernel_rfl) f.pl_ok⟩
    · cases h
  · cases h
def Fc.so (f : Fc) : Bool := decide (0 ≤ f.ua) && decide (0 ≤ f.va) && f.ua != f.va && (decide (1 ≤ f.w) && decide (f.w ≤ 1048576)) && (decide (1 ≤ f.h) && decide (f.h ≤ 1048576)) && inM f.o0 && inM f.o1 && inM f.o2
theorem Fc.so_pl (f : Fc) : f.so = f.pl := by
  unfold Fc.so Fc.pl Fc.out
  rw [Bool.eq_iff_iff]
  simp
  constructor
  · intro h
    obtain ⟨⟨⟨⟨⟨⟨⟨h1, h2⟩, h3⟩, h4, h5⟩, h6, h7⟩, h8⟩, h9⟩, h10⟩ := h
    exact ⟨⟨⟨⟨⟨⟨⟨by omega, by omega⟩, by omega⟩, by omega⟩, by omega⟩, by omega⟩, by omega⟩, h8, h9, h10⟩
  · intro h
    obtain ⟨⟨⟨⟨⟨⟨⟨h1, h2⟩, h3⟩, h4⟩, h5⟩, h6⟩, h7⟩, h8, h9, h10⟩ := h
    exact ⟨⟨⟨⟨⟨⟨⟨by omega, by omega⟩, by omega⟩, by omega, by omega⟩, by omega, by omega⟩, h8⟩, h9⟩, h10⟩
noncomputable def CS : Cfg U0 := CP.add 28 mPlain
theorem sS : SumOK CS := by
  refine sP.addD mixed (fn := Try.f28) (c := bo Try.f28) Try.func28 (by kernel_rfl) (by kernel_rfl) ?_
  intro xs cs r h hcs
  unfold mPlain at h
  split at h
  · split at h
    · rename_i f h1
      cases h
      rw [fc_spec h1]
      refine ⟨by kernel_rfl, M0, 0, ?_⟩
      conv => arg 1; whnf
      refine ⟨⟨⟨fun _ => ix0, fun _ => ix1, fun _ => ix2⟩, ?_⟩⟩
      refine back (q := AVal.bool (U := U0) f.so = .bool f.pl) (by kernel_rfl) ?_
      rw [f.so_pl]
    · cases h
  · cases h
end Go.Proofs.YtckhagnnipibaaaRRR
