/- That PartClashes returns true for all pairs of faces. Conditions: none. -/
import Derived.Test.YtckhagnnipibaaaRRRClash5
import Derived.Test.YtckhagnnipibaaaRRRRows
import Derived.Test.YtckhagnnipibaaaRRRVmY
import Derived.HandedShaped
namespace Go.Proofs.YtckhagnnipibaaaRRR
open Go.Vm Go.ChangeShapes Go.WideShapes Go.ChangeAt Go.RowKit Go.Joins
open Go.ChangeMaps (open_string shut_string)
set_option linter.unusedVariables false

theorem own : ownKnob Try.prog.godebug = none := by kernel_rfl
theorem laidOut : laidOutB Try.prog = true := by kernel_rfl
theorem inv_of {W : World} (h : W.ShapedOpen Try.prog) : inv0 W := Try.laysM144.s1_3 W h

/-- A face that came in. -/
theorem open_face {W : World} {base : Nat} {r : Reach} {v : Value} (hv : Value.okWide Try.prog W r base 27 v) : ∃ f : Fc, v = .agg #[.int .i64 f.o0, .int .i64 f.o1, .int .i64 f.o2, .int .i64 f.u0, .int .i64 f.u1, .int .i64 f.u2, .int .i64 f.v0, .int .i64 f.v1, .int .i64 f.v2, .int .i64 f.w, .int .i64 f.h] := by
  obtain ⟨ns, h1, rfl⟩ := open_ints (ts := [3, 3, 3, 3, 3, 3, 3, 3, 3, 3, 3]) (by kernel_rfl) (by kernel_rfl) (by kernel_rfl) (fun i hi => by
    match i, hi with
    | 0, _ | 1, _ | 2, _ | 3, _ | 4, _ | 5, _ | 6, _ | 7, _ | 8, _ | 9, _ | 10, _ => exact Try.underlying3) hv
  match ns, h1 with
  | [a, b, c, d, e, f, g, h, i, j, k], _ => exact ⟨⟨a, b, c, d, e, f, g, h, i, j, k⟩, rfl⟩

theorem face_rel {w : World} {ρ : Nat → Option (Nat × Value)} {st : Nat → Prop} (f : Fc) : Rel E0 w ρ st (.agg f.cells) (.agg #[.int .i64 f.o0, .int .i64 f.o1, .int .i64 f.o2, .int .i64 f.u0, .int .i64 f.u1, .int .i64 f.u2, .int .i64 f.v0, .int .i64 f.v1, .int .i64 f.v2, .int .i64 f.w, .int .i64 f.h]) :=
  rel_ints [f.o0, f.o1, f.o2, f.u0, f.u1, f.u2, f.v0, f.v1, f.v2, f.w, f.h]

theorem x5 (a b : Fc) : Done (exec CZ 30 M0 0 0 (bo Try.f5) (initSt [.agg a.cells, .agg b.cells]) (AEnds CZ Try.f5 fun r => r = .bool true)) := by
  refine Done.of (q := AVal.bool (U := U0) ((((clP a b == clR a b) && (clP a b == clP b a)) && !(clP a a)) && true) = .bool true) (by kernel_rfl) ?_
  rw [← cl_same a b, ← cl_comm a b, cl_self]
  simp
theorem walk5 (a b : Fc) (W : World) (hi : inv0 W) : Calls Try.prog 5 #[.agg #[.int .i64 a.o0, .int .i64 a.o1, .int .i64 a.o2, .int .i64 a.u0, .int .i64 a.u1, .int .i64 a.u2, .int .i64 a.v0, .int .i64 a.v1, .int .i64 a.v2, .int .i64 a.w, .int .i64 a.h], .agg #[.int .i64 b.o0, .int .i64 b.o1, .int .i64 b.o2, .int .i64 b.u0, .int .i64 b.u1, .int .i64 b.u2, .int .i64 b.v0, .int .i64 b.v1, .int .i64 b.v2, .int .i64 b.w, .int .i64 b.h]] W fun e W' => e = .returned (.bool true) ∧ Below W.heap.size W W' := by
  refine law_calls (C := CZ) (c := bo Try.f5) sZ mixed Try.func5 (by kernel_rfl) (xs := [.agg a.cells, .agg b.cells]) hi ⟨rfl, fun k hk => ?_⟩ (by kernel_rfl) (x5 a b)
  match k, hk with
  | 0, _ => exact face_rel a
  | 1, _ => exact face_rel b

set_option maxRecDepth 100000 in
theorem lifted5 (os : Os) (started : os.Started) (H : Type) (enc : TypeId × Value → H) :
    ReturnsInHanded {} Try.checked os 5 .any (Rows.partClashesSpec.pre6 enc Try.prog Try.f5 Rows.partClashesRow.domain false) (Rows.partClashesSpec.post enc Try.prog Try.f5 false true false false) := by
  refine returnsInHanded_of_change_shaped (C := Try.checked) own started (by kernel_rfl) Try.func5
    (ChangeSpec.witness6 (enc := enc) (C := Try.checked) false ⟨#[], #[.agg #[.int .i64 0, .int .i64 0, .int .i64 0, .int .i64 0, .int .i64 0, .int .i64 0, .int .i64 0, .int .i64 0, .int .i64 0, .int .i64 0, .int .i64 0], .agg #[.int .i64 0, .int .i64 0, .int .i64 0, .int .i64 0, .int .i64 0, .int .i64 0, .int .i64 0, .int .i64 0, .int .i64 0, .int .i64 0, .int .i64 0]], []⟩ 8 (by kernel_rfl) (by kernel_rfl) (by kernel_rfl) (by kernel_rfl)) ?_
  intro W base args ds gs before hval0 hW _ _ hsh _
  have hval : ∀ (j : Nat) t v, Try.f5.params[j]? = some t → args[j]? = some v → Value.okWide Try.prog W .any base t v := hval0
  have hsh' : W.ShapedOpen Try.prog := hsh
  have hW' := hW
  obtain ⟨p, q, hA0, hV, rfl, _, _⟩ := hW
  have hA : DataW.TrodAll enc Try.prog W 0 (fun _ => true) true Try.f5.params.toList args.toList ds p := hA0
  rw [Try.params5] at hA hval
  obtain ⟨v0, vs0, d0, ds0, p0, q0, hargs, rfl, rfl, h0, r0⟩ := trodAll_cons hA
  obtain ⟨v1, vs1, d1, ds1, p1, q1, rfl, rfl, rfl, h1, r1⟩ := trodAll_cons r0
  obtain ⟨rfl, rfl, rfl⟩ := trodAll_nil r1
  obtain rfl : args = #[v0, v1] := by cases args; simp_all
  obtain ⟨a, rfl⟩ := open_face (hval 0 27 v0 rfl rfl)
  obtain ⟨b, rfl⟩ := open_face (hval 1 27 v1 rfl rfl)
  refine (walk5 a b W (inv_of hsh')).mono fun e W' ⟨he, hb⟩ => ?_
  subst he
  exact ⟨_, rfl, law_post (tb := 4) laidOut (by kernel_rfl) rfl Try.underlying4 rfl rfl hW' hb⟩

theorem clashes : Rows.PartClashesSaid :=
  OpenClaim.holds_of_wide 5 Try.f5 rfl rfl rfl rfl rfl rfl rfl ⟨rfl, rfl, rfl, rfl, rfl⟩ rfl rfl rfl rfl rfl (by kernel_rfl) Try.func5 (by kernel_rfl)
    (of_decide_eq_true (by kernel_rfl)) (by unfold Func.isWrapper; first | (rw [if_pos (by decide +kernel)]; kernel_rfl) | (rw [if_neg (by decide +kernel)]; exact ⟨rfl, rfl⟩))
    (fun os started H enc _ => lifted5 os started H enc)
end Go.Proofs.YtckhagnnipibaaaRRR
