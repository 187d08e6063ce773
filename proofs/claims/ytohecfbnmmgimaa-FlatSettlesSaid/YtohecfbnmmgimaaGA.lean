/- What pieces of code must make hold, in plain Lean; printed by gen.py. Conditions: none; definitions. -/
import Derived.Test.YtohecfbnmmgimaaUn
namespace Go.Proofs.Ytohecfbnmmgimaa
open Go.Vm Go.RowKit
set_option linter.unusedVariables false
noncomputable section
/-! ### sheetmetal/flat.rightAngle -/
def M_flat_rightAngle : Nat → Nat → Canon UU := fun b r => ⟨[], [], []⟩
def g_flat_rightAngle_e (a0 : Int) (Q : Bool → Prop) : Prop := ((((decide (30 ≤ a0)) && (decide (a0 ≤ 180))) = true → (30 : Int) ≠ 0) ∧ Q (((decide (30 ≤ a0)) && (decide (a0 ≤ 180))) && ((Int.tmod a0 30) == 0)))
def w_flat_rightAngle (F : Nat) (a0 : Int) (Q : Bool → Prop) : Prop := g_flat_rightAngle_e a0 Q
def sp_flat_rightAngle (a0 : Int) : Bool := (((decide (30 ≤ a0)) && (decide (a0 ≤ 180))) && ((Int.tmod a0 30) == 0))
theorem ok_flat_rightAngle (a0 : Int) : ∃ F, ∀ Q : Bool → Prop, Q (sp_flat_rightAngle a0) → w_flat_rightAngle F a0 Q := by
  refine ⟨0, fun Q h => ?_⟩
  unfold w_flat_rightAngle g_flat_rightAngle_e
  unfold sp_flat_rightAngle at h
  refine ⟨fun _ => by decide, ?_⟩
  exact h
/-! ### sheetmetal/flat.rightDen -/
def M_flat_rightDen : Nat → Nat → Canon UU := fun b r => ⟨[], [], []⟩
def g_flat_rightDen_e (a0 : Int) (Q : Bool → Prop) : Prop := cond (a0 == 1) (Q true) (cond (a0 == 2) (Q true) (cond (a0 == 3) (Q true) (cond (a0 == 4) (Q true) (cond (a0 == 6) (Q true) (cond (a0 == 12) (Q true) (Q false))))))
def w_flat_rightDen (F : Nat) (a0 : Int) (Q : Bool → Prop) : Prop := g_flat_rightDen_e a0 Q
def sp_flat_rightDen (a0 : Int) : Bool := cond (a0 == 1) (true) (cond (a0 == 2) (true) (cond (a0 == 3) (true) (cond (a0 == 4) (true) (cond (a0 == 6) (true) (cond (a0 == 12) (true) (false))))))
theorem ok_flat_rightDen (a0 : Int) : ∃ F, ∀ Q : Bool → Prop, Q (sp_flat_rightDen a0) → w_flat_rightDen F a0 Q := by
  refine ⟨0, fun Q h => ?_⟩
  unfold w_flat_rightDen g_flat_rightDen_e
  unfold sp_flat_rightDen at h
  cases hb0 : (a0 == 1)
  · try simp only [hb0, cond_false] at h ⊢
    cases hb1 : (a0 == 2)
    · try simp only [hb1, cond_false] at h ⊢
      cases hb2 : (a0 == 3)
      · try simp only [hb2, cond_false] at h ⊢
        cases hb3 : (a0 == 4)
        · try simp only [hb3, cond_false] at h ⊢
          cases hb4 : (a0 == 6)
          · try simp only [hb4, cond_false] at h ⊢
            cases hb5 : (a0 == 12)
            · try simp only [hb5, cond_false] at h ⊢
              exact h
            · try simp only [hb5, cond_true] at h ⊢
              exact h
          · try simp only [hb4, cond_true] at h ⊢
            exact h
        · try simp only [hb3, cond_true] at h ⊢
          exact h
      · try simp only [hb2, cond_true] at h ⊢
        exact h
    · try simp only [hb1, cond_true] at h ⊢
      exact h
  · try simp only [hb0, cond_true] at h ⊢
    exact h
/-! ### sheetmetal/sheetmetalref03.within -/
def M_ref03_within : Nat → Nat → Canon UU := fun b r => ⟨[], [], []⟩
def g_ref03_within_e (a0 : Int) (a1 : Int) (a2 : Int) (Q : Bool → Prop) : Prop := Q ((decide (a1 ≤ a0)) && (decide (a0 ≤ a2)))
def w_ref03_within (F : Nat) (a0 : Int) (a1 : Int) (a2 : Int) (Q : Bool → Prop) : Prop := g_ref03_within_e a0 a1 a2 Q
def sp_ref03_within (a0 : Int) (a1 : Int) (a2 : Int) : Bool := ((decide (a1 ≤ a0)) && (decide (a0 ≤ a2)))
theorem ok_ref03_within (a0 : Int) (a1 : Int) (a2 : Int) : ∃ F, ∀ Q : Bool → Prop, Q (sp_ref03_within a0 a1 a2) → w_ref03_within F a0 a1 a2 Q := by
  refine ⟨0, fun Q h => ?_⟩
  unfold w_ref03_within g_ref03_within_e
  unfold sp_ref03_within at h
  exact h
/-! ### sheetmetal/flat.of -/
def M_flat_of : Nat → Nat → Canon UU := fun b r => ⟨[], [], []⟩
def g_flat_of_e (a0_Num : Int) (a0_Den : Int) (Q : Int → Int → Prop) : Prop := Q a0_Num a0_Den
def w_flat_of (F : Nat) (a0_Num : Int) (a0_Den : Int) (Q : Int → Int → Prop) : Prop := g_flat_of_e a0_Num a0_Den Q
def sp_flat_of (a0_Num : Int) (a0_Den : Int) : Int × Int := (a0_Num, a0_Den)
theorem ok_flat_of (a0_Num : Int) (a0_Den : Int) : ∃ F, ∀ Q : Int → Int → Prop, Q ((sp_flat_of a0_Num a0_Den).1) ((sp_flat_of a0_Num a0_Den).2) → w_flat_of F a0_Num a0_Den Q := by
  refine ⟨0, fun Q h => ?_⟩
  unfold w_flat_of g_flat_of_e
  unfold sp_flat_of at h
  exact h
/-! ### (sheetmetal/flat.rational).rat -/
def M_flat_rational_rat : Nat → Nat → Canon UU := fun b r => ⟨[], [], []⟩
def g_flat_rational_rat_e (a0_num : Int) (a0_den : Int) (Q : Int → Int → Prop) : Prop := Q a0_num a0_den
def w_flat_rational_rat (F : Nat) (a0_num : Int) (a0_den : Int) (Q : Int → Int → Prop) : Prop := g_flat_rational_rat_e a0_num a0_den Q
def sp_flat_rational_rat (a0_num : Int) (a0_den : Int) : Int × Int := (a0_num, a0_den)
theorem ok_flat_rational_rat (a0_num : Int) (a0_den : Int) : ∃ F, ∀ Q : Int → Int → Prop, Q ((sp_flat_rational_rat a0_num a0_den).1) ((sp_flat_rational_rat a0_num a0_den).2) → w_flat_rational_rat F a0_num a0_den Q := by
  refine ⟨0, fun Q h => ?_⟩
  unfold w_flat_rational_rat g_flat_rational_rat_e
  unfold sp_flat_rational_rat at h
  exact h
/-! ### sheetmetal/flat.valid -/
def M_flat_valid : Nat → Nat → Canon UU := fun b r => ⟨[], [], []⟩
def g_flat_valid_e (a0_Num : Int) (a0_Den : Int) (Q : Bool → Prop) : Prop := Q ((((decide (1 ≤ a0_Den)) && (decide (a0_Den ≤ 4096))) && (decide ((-16777216) ≤ a0_Num))) && (decide (a0_Num ≤ 16777216)))
def w_flat_valid (F : Nat) (a0_Num : Int) (a0_Den : Int) (Q : Bool → Prop) : Prop := g_flat_valid_e a0_Num a0_Den Q
def sp_flat_valid (a0_Num : Int) (a0_Den : Int) : Bool := ((((decide (1 ≤ a0_Den)) && (decide (a0_Den ≤ 4096))) && (decide ((-16777216) ≤ a0_Num))) && (decide (a0_Num ≤ 16777216)))
theorem ok_flat_valid (a0_Num : Int) (a0_Den : Int) : ∃ F, ∀ Q : Bool → Prop, Q (sp_flat_valid a0_Num a0_Den) → w_flat_valid F a0_Num a0_Den Q := by
  refine ⟨0, fun Q h => ?_⟩
  unfold w_flat_valid g_flat_valid_e
  unfold sp_flat_valid at h
  exact h
end
end Go.Proofs.Ytohecfbnmmgimaa
