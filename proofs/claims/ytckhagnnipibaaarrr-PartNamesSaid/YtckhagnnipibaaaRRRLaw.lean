/- That PartNames returns true for all strings and PartCorners for all faces. Conditions: none. -/
import Derived.Test.YtckhagnnipibaaaRRRCorners
import Derived.Test.YtckhagnnipibaaaRRRRows
import Derived.Test.YtckhagnnipibaaaRRRVmY
import Derived.HandedShaped
namespace Go.Proofs.YtckhagnnipibaaaRRR
open Go.Vm Go.ChangeShapes Go.WideShapes Go.ChangeAt Go.RowKit Go.Joins
open Go.ChangeMaps (open_string shut_string)
set_option linter.unusedVariables false

theorem own : ownKnob Try.prog.godebug = none := by kernel_rfl
theorem laidOut : laidOutB Try.prog = true := by kernel_rfl
theorem inv_of {W : World} (h : W.ShapedOpen Try.prog) : inv0 W := Try.laysM144.s1_3 W h

/-- A face that came in. -/
theorem open_face {W : World} {base : Nat} {r : Reach} {v : Value} (hv : Value.okWide Try.prog W r base 27 v) : ∃ f : Fc, v = .agg #[.int .i64 f.o0, .int .i64 f.o1, .int .i64 f.o2, .int .i64 f.u0, .int .i64 f.u1, .int .i64 f.u2, .int .i64 f.v0, .int .i64 f.v1, .int .i64 f.v2, .int .i64 f.w, .int .i64 f.h] := by
  obtain ⟨ns, h1, rfl⟩ := open_ints (ts := [3, 3, 3, 3, 3, 3, 3, 3, 3, 3, 3]) (by kernel_rfl) (by kernel_rfl) (by kernel_rfl) (fun i hi => by
    match i, hi with
    | 0, _ | 1, _ | 2, _ | 3, _ | 4, _ | 5, _ | 6, _ | 7, _ | 8, _ | 9, _ | 10, _ => exact Try.underlying3) hv
  match ns, h1 with
  | [a, b, c, d, e, f, g, h, i, j, k], _ => exact ⟨⟨a, b, c, d, e, f, g, h, i, j, k⟩, rfl⟩

theorem face_rel {w : World} {ρ : Nat → Option (Nat × Value)} {st : Nat → Prop} (f : Fc) : Rel E0 w ρ st (.agg f.cells) (.agg #[.int .i64 f.o0, .int .i64 f.o1, .int .i64 f.o2, .int .i64 f.u0, .int .i64 f.u1, .int .i64 f.u2, .int .i64 f.v0, .int .i64 f.v1, .int .i64 f.v2, .int .i64 f.w, .int .i64 f.h]) :=
  rel_ints [f.o0, f.o1, f.o2, f.u0, f.u1, f.u2, f.v0, f.v1, f.v2, f.w, f.h]

theorem walk3 (s : ByteArray) (W : World) (hi : inv0 W) : Calls Try.prog 3 #[.string s] W fun e W' => e = .returned (.bool true) ∧ Below W.heap.size W W' := by
  refine law_calls (C := CK) (c := bo Try.f3) sK mixed Try.func3 (by kernel_rfl) (xs := [.str s]) hi ⟨rfl, fun k hk => ?_⟩ (by kernel_rfl) (x3 s)
  match k, hk with
  | 0, _ => exact .str _

theorem walk4 (f : Fc) (W : World) (hi : inv0 W) : Calls Try.prog 4 #[.agg #[.int .i64 f.o0, .int .i64 f.o1, .int .i64 f.o2, .int .i64 f.u0, .int .i64 f.u1, .int .i64 f.u2, .int .i64 f.v0, .int .i64 f.v1, .int .i64 f.v2, .int .i64 f.w, .int .i64 f.h]] W fun e W' => e = .returned (.bool true) ∧ Below W.heap.size W W' := by
  refine law_calls (C := CK) (c := bo Try.f4) sK mixed Try.func4 (by kernel_rfl) (xs := [.agg f.cells]) hi ⟨rfl, fun k hk => ?_⟩ (by kernel_rfl) (x4 f)
  match k, hk with
  | 0, _ => exact face_rel f

set_option maxRecDepth 100000 in
theorem lifted3 (os : Os) (started : os.Started) (H : Type) (enc : TypeId × Value → H) :
    ReturnsInHanded {} Try.checked os 3 .any (Rows.partNamesSpec.pre6 enc Try.prog Try.f3 Rows.partNamesRow.domain false) (Rows.partNamesSpec.post enc Try.prog Try.f3 false true false false) := by
  refine returnsInHanded_of_change_shaped (C := Try.checked) own started (by kernel_rfl) Try.func3
    (ChangeSpec.witness6 (enc := enc) (C := Try.checked) false ⟨#[], #[.string ⟨#[]⟩], []⟩ 8 (by kernel_rfl) (by kernel_rfl) (by kernel_rfl) (by kernel_rfl)) ?_
  intro W base args ds gs before hval0 hW _ _ hsh _
  have hval : ∀ (j : Nat) t v, Try.f3.params[j]? = some t → args[j]? = some v → Value.okWide Try.prog W .any base t v := hval0
  have hsh' : W.ShapedOpen Try.prog := hsh
  have hW' := hW
  obtain ⟨p, q, hA0, hV, rfl, _, _⟩ := hW
  have hA : DataW.TrodAll enc Try.prog W 0 (fun _ => true) true Try.f3.params.toList args.toList ds p := hA0
  rw [Try.params3] at hA hval
  obtain ⟨v0, vs0, d0, ds0, p0, q0, hargs, rfl, rfl, h0, r0⟩ := trodAll_cons hA
  obtain ⟨rfl, rfl, rfl⟩ := trodAll_nil r0
  obtain rfl : args = #[v0] := by cases args; simp_all
  obtain ⟨s, rfl, rfl, rfl, ws⟩ := open_string Try.underlying9 (hval 0 9 v0 rfl rfl) h0
  refine (walk3 s W (inv_of hsh')).mono fun e W' ⟨he, hb⟩ => ?_
  subst he
  exact ⟨_, rfl, law_post (tb := 4) laidOut (by kernel_rfl) rfl Try.underlying4 rfl rfl hW' hb⟩

theorem names : Rows.PartNamesSaid :=
  OpenClaim.holds_of_wide 3 Try.f3 rfl rfl rfl rfl rfl rfl rfl ⟨rfl, rfl, rfl, rfl, rfl⟩ rfl rfl rfl rfl rfl (by kernel_rfl) Try.func3 (by kernel_rfl)
    (of_decide_eq_true (by kernel_rfl)) (by unfold Func.isWrapper; first | (rw [if_pos (by decide +kernel)]; kernel_rfl) | (rw [if_neg (by decide +kernel)]; exact ⟨rfl, rfl⟩))
    (fun os started H enc _ => lifted3 os started H enc)

set_option maxRecDepth 100000 in
theorem lifted4 (os : Os) (started : os.Started) (H : Type) (enc : TypeId × Value → H) :
    ReturnsInHanded {} Try.checked os 4 .any (Rows.partCornersSpec.pre6 enc Try.prog Try.f4 Rows.partCornersRow.domain false) (Rows.partCornersSpec.post enc Try.prog Try.f4 false true false false) := by
  refine returnsInHanded_of_change_shaped (C := Try.checked) own started (by kernel_rfl) Try.func4
    (ChangeSpec.witness6 (enc := enc) (C := Try.checked) false ⟨#[], #[.agg #[.int .i64 0, .int .i64 0, .int .i64 0, .int .i64 0, .int .i64 0, .int .i64 0, .int .i64 0, .int .i64 0, .int .i64 0, .int .i64 0, .int .i64 0]], []⟩ 8 (by kernel_rfl) (by kernel_rfl) (by kernel_rfl) (by kernel_rfl)) ?_
  intro W base args ds gs before hval0 hW _ _ hsh _
  have hval : ∀ (j : Nat) t v, Try.f4.params[j]? = some t → args[j]? = some v → Value.okWide Try.prog W .any base t v := hval0
  have hsh' : W.ShapedOpen Try.prog := hsh
  have hW' := hW
  obtain ⟨p, q, hA0, hV, rfl, _, _⟩ := hW
  have hA : DataW.TrodAll enc Try.prog W 0 (fun _ => true) true Try.f4.params.toList args.toList ds p := hA0
  rw [Try.params4] at hA hval
  obtain ⟨v0, vs0, d0, ds0, p0, q0, hargs, rfl, rfl, h0, r0⟩ := trodAll_cons hA
  obtain ⟨rfl, rfl, rfl⟩ := trodAll_nil r0
  obtain rfl : args = #[v0] := by cases args; simp_all
  obtain ⟨f, rfl⟩ := open_face (hval 0 27 v0 rfl rfl)
  refine (walk4 f W (inv_of hsh')).mono fun e W' ⟨he, hb⟩ => ?_
  subst he
  exact ⟨_, rfl, law_post (tb := 4) laidOut (by kernel_rfl) rfl Try.underlying4 rfl rfl hW' hb⟩

theorem corners_hold : Rows.PartCornersSaid :=
  OpenClaim.holds_of_wide 4 Try.f4 rfl rfl rfl rfl rfl rfl rfl ⟨rfl, rfl, rfl, rfl, rfl⟩ rfl rfl rfl rfl rfl (by kernel_rfl) Try.func4 (by kernel_rfl)
    (of_decide_eq_true (by kernel_rfl)) (by unfold Func.isWrapper; first | (rw [if_pos (by decide +kernel)]; kernel_rfl) | (rw [if_neg (by decide +kernel)]; exact ⟨rfl, rfl⟩))
    (fun os started H enc _ => lifted4 os started H enc)
end Go.Proofs.YtckhagnnipibaaaRRR
