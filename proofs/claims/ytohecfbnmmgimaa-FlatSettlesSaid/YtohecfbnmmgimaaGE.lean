/- What pieces of code must make hold, in plain Lean; printed by gen.py. Conditions: none; definitions. -/
import Derived.Test.YtohecfbnmmgimaaGD
namespace Go.Proofs.Ytohecfbnmmgimaa
open Go.Vm Go.RowKit
set_option linter.unusedVariables false
noncomputable section
/-! ### sheetmetal/flat.Ticks -/
def M_flat_Ticks : Nat → Nat → Canon UU := fun b r => ⟨[], [], []⟩
def g_flat_Ticks_e (a0_Num : Int) (a0_Den : Int) (Q : Int → Int → Prop) : Prop := cond (!(sp_flat_valid a0_Num a0_Den)) (Q 0 1) (((pre_flat_rational_times ((sp_flat_of a0_Num a0_Den).1) ((sp_flat_of a0_Num a0_Den).2) 720 1) ∧ cond (((sp_flat_rational_times ((sp_flat_of a0_Num a0_Den).1) ((sp_flat_of a0_Num a0_Den).2) 720 1).2) != 1) (Q 0 5) (Q ((sp_flat_rational_times ((sp_flat_of a0_Num a0_Den).1) ((sp_flat_of a0_Num a0_Den).2) 720 1).1) 0)))
def w_flat_Ticks (F : Nat) (a0_Num : Int) (a0_Den : Int) (Q : Int → Int → Prop) : Prop := g_flat_Ticks_e a0_Num a0_Den Q
def pre_flat_Ticks (a0_Num : Int) (a0_Den : Int) : Prop := (cond (!(sp_flat_valid a0_Num a0_Den)) (True) ((pre_flat_rational_times ((sp_flat_of a0_Num a0_Den).1) ((sp_flat_of a0_Num a0_Den).2) 720 1)))
def sp_flat_Ticks (a0_Num : Int) (a0_Den : Int) : Int × Int := cond (!(sp_flat_valid a0_Num a0_Den)) ((0, 1)) (cond (((sp_flat_rational_times ((sp_flat_of a0_Num a0_Den).1) ((sp_flat_of a0_Num a0_Den).2) 720 1).2) != 1) ((0, 5)) (((sp_flat_rational_times ((sp_flat_of a0_Num a0_Den).1) ((sp_flat_of a0_Num a0_Den).2) 720 1).1, 0)))
theorem ok_flat_Ticks (a0_Num : Int) (a0_Den : Int) (hp : pre_flat_Ticks a0_Num a0_Den) : ∃ F, ∀ Q : Int → Int → Prop, Q ((sp_flat_Ticks a0_Num a0_Den).1) ((sp_flat_Ticks a0_Num a0_Den).2) → w_flat_Ticks F a0_Num a0_Den Q := by
  refine ⟨0, fun Q h => ?_⟩
  unfold w_flat_Ticks g_flat_Ticks_e
  unfold sp_flat_Ticks at h
  unfold pre_flat_Ticks at hp
  cases hb0 : (!(sp_flat_valid a0_Num a0_Den))
  · try simp only [hb0, cond_false] at h hp ⊢
    have hc1_0 := hp
    refine ⟨hc1_0, ?_⟩
    cases hb2 : (((sp_flat_rational_times ((sp_flat_of a0_Num a0_Den).1) ((sp_flat_of a0_Num a0_Den).2) 720 1).2) != 1)
    · try simp only [hb2, cond_false] at h ⊢
      exact h
    · try simp only [hb2, cond_true] at h ⊢
      exact h
  · try simp only [hb0, cond_true] at h hp ⊢
    exact h
end
end Go.Proofs.Ytohecfbnmmgimaa
