/- What pieces of code must make hold, in plain Lean; printed by gen.py. Conditions: none; definitions. -/
import Derived.Test.YtohecfbnmmgimaaHC
namespace Go.Proofs.Ytohecfbnmmgimaa
open Go.Vm Go.RowKit
set_option linter.unusedVariables false
noncomputable section
/-! ### (sheetmetal/flat.rational).times -/
def M_flat_rational_times : Nat → Nat → Canon UU := fun b r => ⟨[], [], []⟩
def g_flat_rational_times_e (a0_num : Int) (a0_den : Int) (a1_num : Int) (a1_den : Int) (Q : Int → Int → Prop) : Prop := ((pre_flat_rational_reduced (w64 (a0_num * a1_num)) (w64 (a0_den * a1_den))) ∧ Q ((sp_flat_rational_reduced (w64 (a0_num * a1_num)) (w64 (a0_den * a1_den))).1) ((sp_flat_rational_reduced (w64 (a0_num * a1_num)) (w64 (a0_den * a1_den))).2))
def w_flat_rational_times (F : Nat) (a0_num : Int) (a0_den : Int) (a1_num : Int) (a1_den : Int) (Q : Int → Int → Prop) : Prop := g_flat_rational_times_e a0_num a0_den a1_num a1_den Q
def pre_flat_rational_times (a0_num : Int) (a0_den : Int) (a1_num : Int) (a1_den : Int) : Prop := (pre_flat_rational_reduced (w64 (a0_num * a1_num)) (w64 (a0_den * a1_den)))
def sp_flat_rational_times (a0_num : Int) (a0_den : Int) (a1_num : Int) (a1_den : Int) : Int × Int := ((sp_flat_rational_reduced (w64 (a0_num * a1_num)) (w64 (a0_den * a1_den))).1, (sp_flat_rational_reduced (w64 (a0_num * a1_num)) (w64 (a0_den * a1_den))).2)
theorem ok_flat_rational_times (a0_num : Int) (a0_den : Int) (a1_num : Int) (a1_den : Int) (hp : pre_flat_rational_times a0_num a0_den a1_num a1_den) : ∃ F, ∀ Q : Int → Int → Prop, Q ((sp_flat_rational_times a0_num a0_den a1_num a1_den).1) ((sp_flat_rational_times a0_num a0_den a1_num a1_den).2) → w_flat_rational_times F a0_num a0_den a1_num a1_den Q := by
  refine ⟨0, fun Q h => ?_⟩
  unfold w_flat_rational_times g_flat_rational_times_e
  unfold sp_flat_rational_times at h
  unfold pre_flat_rational_times at hp
  have hc0_0 := hp
  refine ⟨hc0_0, ?_⟩
  exact h
/-! ### (sheetmetal/flat.rational).plus -/
def M_flat_rational_plus : Nat → Nat → Canon UU := fun b r => ⟨[], [], []⟩
def g_flat_rational_plus_e (a0_num : Int) (a0_den : Int) (a1_num : Int) (a1_den : Int) (Q : Int → Int → Prop) : Prop := ((pre_flat_rational_reduced (w64 ((w64 (a0_num * a1_den)) + (w64 (a1_num * a0_den)))) (w64 (a0_den * a1_den))) ∧ Q ((sp_flat_rational_reduced (w64 ((w64 (a0_num * a1_den)) + (w64 (a1_num * a0_den)))) (w64 (a0_den * a1_den))).1) ((sp_flat_rational_reduced (w64 ((w64 (a0_num * a1_den)) + (w64 (a1_num * a0_den)))) (w64 (a0_den * a1_den))).2))
def w_flat_rational_plus (F : Nat) (a0_num : Int) (a0_den : Int) (a1_num : Int) (a1_den : Int) (Q : Int → Int → Prop) : Prop := g_flat_rational_plus_e a0_num a0_den a1_num a1_den Q
def pre_flat_rational_plus (a0_num : Int) (a0_den : Int) (a1_num : Int) (a1_den : Int) : Prop := (pre_flat_rational_reduced (w64 ((w64 (a0_num * a1_den)) + (w64 (a1_num * a0_den)))) (w64 (a0_den * a1_den)))
def sp_flat_rational_plus (a0_num : Int) (a0_den : Int) (a1_num : Int) (a1_den : Int) : Int × Int := ((sp_flat_rational_reduced (w64 ((w64 (a0_num * a1_den)) + (w64 (a1_num * a0_den)))) (w64 (a0_den * a1_den))).1, (sp_flat_rational_reduced (w64 ((w64 (a0_num * a1_den)) + (w64 (a1_num * a0_den)))) (w64 (a0_den * a1_den))).2)
theorem ok_flat_rational_plus (a0_num : Int) (a0_den : Int) (a1_num : Int) (a1_den : Int) (hp : pre_flat_rational_plus a0_num a0_den a1_num a1_den) : ∃ F, ∀ Q : Int → Int → Prop, Q ((sp_flat_rational_plus a0_num a0_den a1_num a1_den).1) ((sp_flat_rational_plus a0_num a0_den a1_num a1_den).2) → w_flat_rational_plus F a0_num a0_den a1_num a1_den Q := by
  refine ⟨0, fun Q h => ?_⟩
  unfold w_flat_rational_plus g_flat_rational_plus_e
  unfold sp_flat_rational_plus at h
  unfold pre_flat_rational_plus at hp
  have hc0_0 := hp
  refine ⟨hc0_0, ?_⟩
  exact h
/-! ### sheetmetal/flat.Reduce -/
def M_flat_Reduce : Nat → Nat → Canon UU := fun b r => ⟨[], [], []⟩
def g_flat_Reduce_e (a0_Num : Int) (a0_Den : Int) (Q : Int → Int → Int → Prop) : Prop := cond (!(sp_flat_valid a0_Num a0_Den)) (Q 0 0 1) (((pre_flat_rational_reduced ((sp_flat_of a0_Num a0_Den).1) ((sp_flat_of a0_Num a0_Den).2)) ∧ Q ((sp_flat_rational_rat ((sp_flat_rational_reduced ((sp_flat_of a0_Num a0_Den).1) ((sp_flat_of a0_Num a0_Den).2)).1) ((sp_flat_rational_reduced ((sp_flat_of a0_Num a0_Den).1) ((sp_flat_of a0_Num a0_Den).2)).2)).1) ((sp_flat_rational_rat ((sp_flat_rational_reduced ((sp_flat_of a0_Num a0_Den).1) ((sp_flat_of a0_Num a0_Den).2)).1) ((sp_flat_rational_reduced ((sp_flat_of a0_Num a0_Den).1) ((sp_flat_of a0_Num a0_Den).2)).2)).2) 0))
def w_flat_Reduce (F : Nat) (a0_Num : Int) (a0_Den : Int) (Q : Int → Int → Int → Prop) : Prop := g_flat_Reduce_e a0_Num a0_Den Q
def pre_flat_Reduce (a0_Num : Int) (a0_Den : Int) : Prop := (cond (!(sp_flat_valid a0_Num a0_Den)) (True) ((pre_flat_rational_reduced ((sp_flat_of a0_Num a0_Den).1) ((sp_flat_of a0_Num a0_Den).2))))
def sp_flat_Reduce (a0_Num : Int) (a0_Den : Int) : Int × Int × Int := cond (!(sp_flat_valid a0_Num a0_Den)) ((0, 0, 1)) (((sp_flat_rational_rat ((sp_flat_rational_reduced ((sp_flat_of a0_Num a0_Den).1) ((sp_flat_of a0_Num a0_Den).2)).1) ((sp_flat_rational_reduced ((sp_flat_of a0_Num a0_Den).1) ((sp_flat_of a0_Num a0_Den).2)).2)).1, (sp_flat_rational_rat ((sp_flat_rational_reduced ((sp_flat_of a0_Num a0_Den).1) ((sp_flat_of a0_Num a0_Den).2)).1) ((sp_flat_rational_reduced ((sp_flat_of a0_Num a0_Den).1) ((sp_flat_of a0_Num a0_Den).2)).2)).2, 0))
theorem ok_flat_Reduce (a0_Num : Int) (a0_Den : Int) (hp : pre_flat_Reduce a0_Num a0_Den) : ∃ F, ∀ Q : Int → Int → Int → Prop, Q ((sp_flat_Reduce a0_Num a0_Den).1) ((sp_flat_Reduce a0_Num a0_Den).2.1) ((sp_flat_Reduce a0_Num a0_Den).2.2) → w_flat_Reduce F a0_Num a0_Den Q := by
  refine ⟨0, fun Q h => ?_⟩
  unfold w_flat_Reduce g_flat_Reduce_e
  unfold sp_flat_Reduce at h
  unfold pre_flat_Reduce at hp
  cases hb0 : (!(sp_flat_valid a0_Num a0_Den))
  · try simp only [hb0, cond_false] at h hp ⊢
    have hc1_0 := hp
    refine ⟨hc1_0, ?_⟩
    exact h
  · try simp only [hb0, cond_true] at h hp ⊢
    exact h
end
end Go.Proofs.Ytohecfbnmmgimaa
