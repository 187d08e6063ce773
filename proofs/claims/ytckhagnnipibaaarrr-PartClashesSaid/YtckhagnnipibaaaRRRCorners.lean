/- Faces: the contracts of Normal and Corners, and the walks of PartNames and PartCorners. Conditions: none. -/
import Derived.Test.YtckhagnnipibaaaRRRNames
namespace Go.Proofs.YtckhagnnipibaaaRRR
open Go.Vm Go.RowKit
set_option linter.unusedVariables false

def U0 : Univ := { τ := Empty, deq := fun a => a.elim, T := fun a => a.elim, ety := fun a => a.elim, size := fun a => a.elim }
def E0 : Enc U0 := { enc := fun t => Empty.elim t, dec := fun t => Empty.elim t, dflt := fun t => Empty.elim t, enc_len := fun t => Empty.elim t, enc_flat := fun t => Empty.elim t, dec_len := fun t => Empty.elim t, dec_enc := fun t => Empty.elim t, pos := fun t => Empty.elim t }
theorem plain0 : ∀ t, Nat.beq t 25 = true → PlainAt Try.prog t := fun t h => by
  obtain rfl := Nat.eq_of_beq_eq_true h
  exact ⟨by kernel_rfl, by kernel_rfl, by kernel_rfl⟩
theorem plain4 : ∀ t, Nat.beq t 29 = true → PlainAt Try.prog t := fun t h => by
  obtain rfl := Nat.eq_of_beq_eq_true h
  exact ⟨by kernel_rfl, by kernel_rfl, by kernel_rfl⟩
theorem plain1 : ∀ t, (Nat.beq t 25 || Nat.beq t 29) = true → PlainAt Try.prog t := fun t h => by
  rw [Bool.or_eq_true] at h
  exact h.elim (plain0 t) (plain4 t)
noncomputable def C0 : Cfg U0 := { P := Try.prog, E := E0, elt := fun _ => none, sum := fun _ => none, plain := fun t => Nat.beq t 25 || Nat.beq t 29, plainOK := plain1, inv := inv0, invOK := inv0_ok }
theorem s0 : SumOK C0 := fun f m h => by cases h
noncomputable def CN : Cfg U0 := addRVN (addVN C0)
theorem sN : SumOK CN := sRVN (sVN s0 rfl fun _ h => h) rfl

abbrev vi (n : Int) : AVal U0 := .int .i64 n
/-- The numbers of an aggregate of ints. -/
def ints : List (AVal U0) → Option (List Int)
  | [] => some []
  | .int .i64 n :: l => match ints l with
    | some ns => some (n :: ns)
    | none => none
  | _ => none
theorem ints_spec : ∀ (l : List (AVal U0)) (ns : List Int), ints l = some ns → l = ns.map vi := by
  intro l
  induction l with
  | nil =>
    intro ns h
    cases h
    rfl
  | cons x l ih =>
    intro ns h
    unfold ints at h
    split at h
    · rename_i hh
      cases hh
    · rename_i n l' hh
      cases hh
      split at h
      · rename_i ns' hn
        cases h
        rw [ih _ hn]
        rfl
      · cases h
    · cases h

abbrev w64 (n : Int) : Int := IntKind.i64.wrap n
def crs (a b c x y z : Int) : AVal U0 := .agg [vi (w64 (w64 (b * z) - w64 (c * y))), vi (w64 (w64 (c * x) - w64 (a * z))), vi (w64 (w64 (a * y) - w64 (b * x)))]
def al (a n x : Int) : Int := w64 (a + w64 (n * x))
def adds (a b c n x y z : Int) : AVal U0 := .agg [vi (al a n x), vi (al b n y), vi (al c n z)]

def mCross : Model U0
  | [.agg l, .agg m] => match ints l, ints m with
    | some [a, b, c], some [x, y, z] => some ([], crs a b c x y z)
    | _, _ => none
  | _ => none
def mId3 : Model U0
  | [.agg l] => match ints l with
    | some [a, b, c] => some ([], .agg [vi a, vi b, vi c])
    | _ => none
  | _ => none
def mAdd : Model U0
  | [.agg l, .int .i64 n, .agg m] => match ints l, ints m with
    | some [a, b, c], some [x, y, z] => some ([], adds a b c n x y z)
    | _, _ => none
  | _ => none
/-- A face. -/
structure Fc where
  o0 : Int
  o1 : Int
  o2 : Int
  u0 : Int
  u1 : Int
  u2 : Int
  v0 : Int
  v1 : Int
  v2 : Int
  w : Int
  h : Int
def Fc.cells (f : Fc) : List (AVal U0) := [vi f.o0, vi f.o1, vi f.o2, vi f.u0, vi f.u1, vi f.u2, vi f.v0, vi f.v1, vi f.v2, vi f.w, vi f.h]
def fc? (l : List (AVal U0)) : Option Fc := match ints l with
  | some [o0, o1, o2, u0, u1, u2, v0, v1, v2, w, h] => some ⟨o0, o1, o2, u0, u1, u2, v0, v1, v2, w, h⟩
  | _ => none
theorem fc_spec {l : List (AVal U0)} {f : Fc} (h : fc? l = some f) : l = f.cells := by
  unfold fc? at h
  split at h
  · rename_i h1
    cases h
    exact ints_spec _ _ h1
  · cases h
def Fc.normal (f : Fc) : AVal U0 := crs f.u0 f.u1 f.u2 f.v0 f.v1 f.v2
def Fc.corners (f : Fc) : AVal U0 :=
  .agg [vi f.o0, vi f.o1, vi f.o2, vi (al f.o0 f.w f.u0), vi (al f.o1 f.w f.u1), vi (al f.o2 f.w f.u2), vi (al (al f.o0 f.w f.u0) f.h f.v0), vi (al (al f.o1 f.w f.u1) f.h f.v1), vi (al (al f.o2 f.w f.u2) f.h f.v2), vi (al f.o0 f.h f.v0), vi (al f.o1 f.h f.v1), vi (al f.o2 f.h f.v2)]
def mNormal : Model U0
  | [.agg l] => match fc? l with
    | some f => some ([], f.normal)
    | none => none
  | _ => none
def mCorners : Model U0
  | [.agg l] => match fc? l with
    | some f => some ([], f.corners)
    | none => none
  | _ => none
noncomputable def bo (f : Func) : Code := f.body.getD .skip
def M0 : Nat → Canon U0 := fun _ => ⟨[], [], []⟩

noncomputable def CV : Cfg U0 := (((((CN.add 19 mCross).add 21 mCross).add 20 mId3).add 22 mId3).add 23 mAdd).add 24 mAdd
theorem sV : SumOK CV := by
  refine (((((sN.add mixed (fn := Try.f19) (c := bo Try.f19) Try.func19 (by kernel_rfl) (by kernel_rfl) ?_).add mixed (fn := Try.f21) (c := bo Try.f21) Try.func21 (by kernel_rfl) (by kernel_rfl) ?_).add mixed (fn := Try.f20) (c := bo Try.f20) Try.func20 (by kernel_rfl) (by kernel_rfl) ?_).add mixed (fn := Try.f22) (c := bo Try.f22) Try.func22 (by kernel_rfl) (by kernel_rfl) ?_).add mixed (fn := Try.f23) (c := bo Try.f23) Try.func23 (by kernel_rfl) (by kernel_rfl) ?_).add mixed (fn := Try.f24) (c := bo Try.f24) Try.func24 (by kernel_rfl) (by kernel_rfl) ?_
  · intro xs cs r h hcs
    unfold mCross at h
    split at h
    · split at h
      · rename_i a b c x y z h1 h2
        obtain rfl := ints_spec _ _ h1
        obtain rfl := ints_spec _ _ h2
        cases h
        exact ⟨by kernel_rfl, M0, 0, back (q := crs a b c x y z = crs a b c x y z) (by kernel_rfl) rfl⟩
      · cases h
    · cases h
  · intro xs cs r h hcs
    unfold mCross at h
    split at h
    · split at h
      · rename_i a b c x y z h1 h2
        obtain rfl := ints_spec _ _ h1
        obtain rfl := ints_spec _ _ h2
        cases h
        refine ⟨by kernel_rfl, M0, 0, ?_⟩
        conv => whnf
        refine ⟨by simp [conj], ?_⟩
        exact back (q := crs a b c x y z = crs a b c x y z) (by kernel_rfl) rfl
      · cases h
    · cases h
  · intro xs cs r h hcs
    unfold mId3 at h
    split at h
    · split at h
      · rename_i a b c h1
        obtain rfl := ints_spec _ _ h1
        cases h
        refine ⟨by kernel_rfl, M0, 0, ?_⟩
        conv => whnf
        refine ⟨by simp [conj], ?_⟩
        exact back (q := AVal.agg [vi a, vi b, vi c] = .agg [vi a, vi b, vi c]) (by kernel_rfl) rfl
      · cases h
    · cases h
  · intro xs cs r h hcs
    unfold mId3 at h
    split at h
    · split at h
      · rename_i a b c h1
        obtain rfl := ints_spec _ _ h1
        cases h
        exact ⟨by kernel_rfl, M0, 0, back (q := AVal.agg [vi a, vi b, vi c] = .agg [vi a, vi b, vi c]) (by kernel_rfl) rfl⟩
      · cases h
    · cases h
  · intro xs cs r h hcs
    unfold mAdd at h
    split at h
    · split at h
      · rename_i n _ _ _ a b c x y z h1 h2
        obtain rfl := ints_spec _ _ h1
        obtain rfl := ints_spec _ _ h2
        cases h
        exact ⟨by kernel_rfl, M0, 0, back (q := adds a b c n x y z = adds a b c n x y z) (by kernel_rfl) rfl⟩
      · cases h
    · cases h
  · intro xs cs r h hcs
    unfold mAdd at h
    split at h
    · split at h
      · rename_i n _ _ _ a b c x y z h1 h2
        obtain rfl := ints_spec _ _ h1
        obtain rfl := ints_spec _ _ h2
        cases h
        refine ⟨by kernel_rfl, M0, 0, ?_⟩
        conv => whnf
        refine ⟨by simp [conj], ?_⟩
        exact back (q := adds a b c n x y z = adds a b c n x y z) (by kernel_rfl) rfl
      · cases h
    · cases h

noncomputable def CNo : Cfg U0 := CV.add 9 mNormal
theorem sNo : SumOK CNo := by
  refine sV.addD mixed (fn := Try.f9) (c := bo Try.f9) Try.func9 (by kernel_rfl) (by kernel_rfl) ?_
  intro xs cs r h hcs
  unfold mNormal at h
  split at h
  · split at h
    · rename_i f h1
      cases h
      rw [fc_spec h1]
      exact ⟨by kernel_rfl, M0, 0, Done.of (q := f.normal = f.normal) (by kernel_rfl) rfl⟩
    · cases h
  · cases h
noncomputable def CNr : Cfg U0 := CNo.add 10 mNormal
theorem sNr : SumOK CNr := by
  refine sNo.addD mixed (fn := Try.f10) (c := bo Try.f10) Try.func10 (by kernel_rfl) (by kernel_rfl) ?_
  intro xs cs r h hcs
  unfold mNormal at h
  split at h
  · split at h
    · rename_i f h1
      cases h
      rw [fc_spec h1]
      exact ⟨by kernel_rfl, M0, 0, Done.of (q := f.normal = f.normal) (by kernel_rfl) rfl⟩
    · cases h
  · cases h
noncomputable def CCo : Cfg U0 := CNr.add 11 mCorners
theorem sCo : SumOK CCo := by
  refine sNr.addD mixed (fn := Try.f11) (c := bo Try.f11) Try.func11 (by kernel_rfl) (by kernel_rfl) ?_
  intro xs cs r h hcs
  unfold mCorners at h
  split at h
  · split at h
    · rename_i f h1
      cases h
      rw [fc_spec h1]
      refine ⟨by kernel_rfl, M0, 0, ?_⟩
      exact Done.of (q := f.corners = f.corners) (by kernel_rfl) rfl
    · cases h
  · cases h
noncomputable def CW : Cfg U0 := CCo.add 12 mCorners
theorem sW : SumOK CW := by
  refine sCo.addD mixed (fn := Try.f12) (c := bo Try.f12) Try.func12 (by kernel_rfl) (by kernel_rfl) ?_
  intro xs cs r h hcs
  unfold mCorners at h
  split at h
  · split at h
    · rename_i f h1
      cases h
      rw [fc_spec h1]
      refine ⟨by kernel_rfl, M0, 0, ?_⟩
      exact Done.of (q := f.corners = f.corners) (by kernel_rfl) rfl
    · cases h
  · cases h

/-! ### known -/
def m13 : Model U0
  | [] => some ([], .bool true)
  | _ => none
noncomputable def CK : Cfg U0 := CW.add 6 m13
theorem vn_u : vn ⟨#[117]⟩ = true := by kernel_rfl
theorem vn_base : vn ⟨#[98, 97, 115, 101]⟩ = false := by kernel_rfl
theorem sK : SumOK CK := by
  refine sW.add mixed (fn := Try.f6) (c := bo Try.f6) Try.func6 (by kernel_rfl) (by kernel_rfl) ?_
  intro xs cs r h hc
  unfold m13 at h
  split at h
  · cases h
    refine ⟨by kernel_rfl, M0, 0, ?_⟩
    conv => whnf
    refine ⟨⟨by decide, fun _ => show (4 : Nat) ≤ 1000 by decide⟩, ?_⟩
    exact back (q := AVal.bool (U := U0) (vn ⟨#[117]⟩ && !vn ⟨#[98, 97, 115, 101]⟩ && true) = .bool true) (by kernel_rfl) (by rw [vn_u, vn_base]; rfl)
  · cases h

theorem x3 (s : ByteArray) : Done (exec CK 15 M0 0 0 (bo Try.f3) (initSt [.str s]) (AEnds CK Try.f3 fun r => r = .bool true)) := by
  refine Done.of (q := cond (decide (500 < (s.size : Int))) (AVal.bool (U := U0) true = .bool true) ((s.size ≤ 1000 ∧ s.size ≤ 1000) ∧ AVal.bool (U := U0) ((vn s == vn s) && true) = .bool true)) (by kernel_rfl) ?_
  cases h : decide (500 < (s.size : Int))
  · have h1 : ¬ 500 < (s.size : Int) := by simpa using h
    refine ⟨⟨by omega, by omega⟩, ?_⟩
    simp
  · rfl

theorem x4 (f : Fc) : Done (exec CK 18 M0 0 0 (bo Try.f4) (initSt [.agg f.cells]) (AEnds CK Try.f4 fun r => r = .bool true)) := by
  have hN : ∀ x y z : Int, (x == x && (y == y && (z == z && true))) = true := fun x y z => by simp
  obtain ⟨o0, o1, o2, u0, u1, u2, v0, v1, v2, w, h⟩ := f
  conv => arg 1; whnf
  rw [hN]
  have hM : ∀ a1 b1 c1 a2 b2 c2 a3 b3 c3 a4 b4 c4 : Int, (bif true then ((a1 == a1 && (b1 == b1 && (c1 == c1 && true))) && ((a2 == a2 && (b2 == b2 && (c2 == c2 && true))) && ((a3 == a3 && (b3 == b3 && (c3 == c3 && true))) && ((a4 == a4 && (b4 == b4 && (c4 == c4 && true))) && true)))) else false) = true := fun a1 b1 c1 a2 b2 c2 a3 b3 c3 a4 b4 c4 => by simp
  conv => arg 1; whnf
  rw [hM]
  exact Done.of (q := AVal.bool (U := U0) true = .bool true) (by kernel_rfl) rfl
end Go.Proofs.YtckhagnnipibaaaRRR
