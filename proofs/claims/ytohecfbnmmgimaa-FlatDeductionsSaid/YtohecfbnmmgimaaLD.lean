/- That FlatDeductions returns true for all tables and angles. Conditions: none. -/
import Derived.Test.YtohecfbnmmgimaaHI
import Derived.Test.YtohecfbnmmgimaaLT
import Derived.Test.YtohecfbnmmgimaaRows
import Derived.HandedShaped
namespace Go.Proofs.Ytohecfbnmmgimaa
open Go.Vm Go.ChangeShapes Go.WideShapes Go.ChangeAt Go.RowKit Go.Joins
set_option linter.unusedVariables false
noncomputable section

set_option maxRecDepth 100000 in
theorem walk5 {v : Value} {m : ByteArray} {g d : Int} {es : List Ent} {a : Int} (W : World) (hi : inv0 W) (hr : Rel EE W noOwn (Out' (fun _ => False) W) (AVal.agg [.str m, .int .i64 g, .int .i64 d, .sl .ent es] : AVal UU) v) :
    Calls Try.prog 5 #[v, .int .i64 a] W fun e W' => e = .returned (.bool true) ∧ Below W.heap.size W W' := by
  refine law_callsM (C := C_law03_known) (c := bo Try.f5) (M := M_law03_FlatDeductions) (fuel := es.length + 1) s_law03_known mixed Try.func5 (by kernel_rfl) (xs := [.agg [.str m, .int .i64 g, .int .i64 d, .sl .ent es], .int .i64 a]) hi ⟨rfl, fun k hk => ?_⟩ (by kernel_rfl) ⟨?_⟩
  · match k, hk with
    | 0, _ => exact hr
    | 1, _ => exact .int _ _
  · rw [exec_law03_FlatDeductions]
    refine cast ?_ (law_deductions m g d es a)
    congr 1
    funext r
    simp
set_option maxRecDepth 100000 in
theorem lifted5 (os : Os) (started : os.Started) (H : Type) (enc : TypeId × Value → H) :
    ReturnsInHanded {} Try.checked os 5 .any (Rows.flatDeductionsSpec.pre6 enc Try.prog Try.f5 Rows.flatDeductionsRow.domain false) (Rows.flatDeductionsSpec.post enc Try.prog Try.f5 false true false false) := by
  refine returnsInHanded_of_change_shaped (C := Try.checked) own started (by kernel_rfl) Try.func5
    (ChangeSpec.witness6 (enc := enc) (C := Try.checked) false ⟨#[], #[.agg #[.string ⟨#[]⟩, .int .i64 0, .int .i64 0, .slice none 0 0], .int .i64 0], []⟩ 8 (by kernel_rfl) (by kernel_rfl) (by kernel_rfl) (by kernel_rfl)) ?_
  intro W base args ds gs before hval0 hW _ _ hsh _
  have hval : ∀ (j : Nat) t v, Try.f5.params[j]? = some t → args[j]? = some v → Value.okWide Try.prog W .any base t v := hval0
  have hsh' : W.ShapedOpen Try.prog := hsh
  have hW' := hW
  obtain ⟨p, q, hA0, hV, rfl, _, _⟩ := hW
  have hA : DataW.TrodAll enc Try.prog W 0 (fun _ => true) true Try.f5.params.toList args.toList ds p := hA0
  rw [Try.params5] at hA hval
  obtain ⟨v0, vs0, d0, ds0, p0, q0, hargs, rfl, rfl, h0, r0⟩ := trodAll_cons hA
  obtain ⟨v1, vs1, d1, ds1, p1, q1, rfl, rfl, rfl, h1, r1⟩ := trodAll_cons r0
  obtain ⟨rfl, rfl, rfl⟩ := trodAll_nil r1
  obtain rfl : args = #[v0, v1] := by cases args; simp_all
  obtain ⟨m, g, d, es, hr⟩ := open_table (hval 0 41 v0 rfl rfl) h0
  obtain ⟨n, rfl, _⟩ := open_int Try.underlying3 (hval 1 3 v1 rfl rfl) h1
  refine (walk5 W (inv_of hsh') hr).mono fun e W' ⟨he, hb⟩ => ?_
  subst he
  exact ⟨_, rfl, law_post (tb := 4) laidOut (by kernel_rfl) rfl Try.underlying4 rfl rfl hW' hb⟩

theorem deductions : Rows.FlatDeductionsSaid :=
  OpenClaim.holds_of_wide 5 Try.f5 rfl rfl rfl rfl rfl rfl rfl ⟨rfl, rfl, rfl, rfl, rfl⟩ rfl rfl rfl rfl rfl (by kernel_rfl) Try.func5 (by kernel_rfl)
    (of_decide_eq_true (by kernel_rfl)) (by unfold Func.isWrapper; first | (rw [if_pos (by decide +kernel)]; kernel_rfl) | (rw [if_neg (by decide +kernel)]; exact ⟨rfl, rfl⟩))
    (fun os started H enc _ => lifted5 os started H enc)
end
end Go.Proofs.Ytohecfbnmmgimaa
