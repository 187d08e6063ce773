/- What pieces of code must make hold, in plain Lean; printed by gen.py. Conditions: none; definitions. -/
import Derived.Test.YtohecfbnmmgimaaGG
namespace Go.Proofs.Ytohecfbnmmgimaa
open Go.Vm Go.RowKit
set_option linter.unusedVariables false
noncomputable section
/-! ### sheetmetal/geom.within -/
def M_geom_within : Nat → Nat → Canon UU := fun b r => ⟨[], [], []⟩
def g_geom_within_e (a0 : Int) (a1 : Int) (Q : Bool → Prop) : Prop := Q ((decide ((w64 (0 - a1)) ≤ a0)) && (decide (a0 ≤ a1)))
def w_geom_within (F : Nat) (a0 : Int) (a1 : Int) (Q : Bool → Prop) : Prop := g_geom_within_e a0 a1 Q
def sp_geom_within (a0 : Int) (a1 : Int) : Bool := ((decide ((w64 (0 - a1)) ≤ a0)) && (decide (a0 ≤ a1)))
theorem ok_geom_within (a0 : Int) (a1 : Int) : ∃ F, ∀ Q : Bool → Prop, Q (sp_geom_within a0 a1) → w_geom_within F a0 a1 Q := by
  refine ⟨0, fun Q h => ?_⟩
  unfold w_geom_within g_geom_within_e
  unfold sp_geom_within at h
  exact h
/-! ### sheetmetal/geom.ValidRect$1 -/
def M_geom_ValidRect_1 : Nat → Nat → Canon UU := fun b r => ⟨[], [], []⟩
def g_geom_ValidRect_1_e (a0 : Int) (a1 : Int) (Q : Bool → Prop) : Prop := Q ((((sp_geom_within a0 1048576) && (decide (0 < a1))) && (decide (a1 ≤ 2097152))) && (decide ((w64 (a0 + a1)) ≤ 1048576)))
def w_geom_ValidRect_1 (F : Nat) (a0 : Int) (a1 : Int) (Q : Bool → Prop) : Prop := g_geom_ValidRect_1_e a0 a1 Q
def sp_geom_ValidRect_1 (a0 : Int) (a1 : Int) : Bool := ((((sp_geom_within a0 1048576) && (decide (0 < a1))) && (decide (a1 ≤ 2097152))) && (decide ((w64 (a0 + a1)) ≤ 1048576)))
theorem ok_geom_ValidRect_1 (a0 : Int) (a1 : Int) : ∃ F, ∀ Q : Bool → Prop, Q (sp_geom_ValidRect_1 a0 a1) → w_geom_ValidRect_1 F a0 a1 Q := by
  refine ⟨0, fun Q h => ?_⟩
  unfold w_geom_ValidRect_1 g_geom_ValidRect_1_e
  unfold sp_geom_ValidRect_1 at h
  exact h
/-! ### sheetmetal/geom.ValidRect -/
def M_geom_ValidRect : Nat → Nat → Canon UU := fun b r => ⟨[], [], []⟩
def g_geom_ValidRect_e (a0_X : Int) (a0_Y : Int) (a0_W : Int) (a0_H : Int) (Q : Bool → Prop) : Prop := Q ((sp_geom_ValidRect_1 a0_X a0_W) && (sp_geom_ValidRect_1 a0_Y a0_H))
def w_geom_ValidRect (F : Nat) (a0_X : Int) (a0_Y : Int) (a0_W : Int) (a0_H : Int) (Q : Bool → Prop) : Prop := g_geom_ValidRect_e a0_X a0_Y a0_W a0_H Q
def sp_geom_ValidRect (a0_X : Int) (a0_Y : Int) (a0_W : Int) (a0_H : Int) : Bool := ((sp_geom_ValidRect_1 a0_X a0_W) && (sp_geom_ValidRect_1 a0_Y a0_H))
theorem ok_geom_ValidRect (a0_X : Int) (a0_Y : Int) (a0_W : Int) (a0_H : Int) : ∃ F, ∀ Q : Bool → Prop, Q (sp_geom_ValidRect a0_X a0_Y a0_W a0_H) → w_geom_ValidRect F a0_X a0_Y a0_W a0_H Q := by
  refine ⟨0, fun Q h => ?_⟩
  unfold w_geom_ValidRect g_geom_ValidRect_e
  unfold sp_geom_ValidRect at h
  exact h
/-! ### sheetmetal/sheetmetalref01.within -/
def M_ref01_within : Nat → Nat → Canon UU := fun b r => ⟨[], [], []⟩
def g_ref01_within_e (a0 : Int) (a1 : Int) (a2 : Int) (Q : Bool → Prop) : Prop := Q ((decide (a1 ≤ a0)) && (decide (a0 ≤ a2)))
def w_ref01_within (F : Nat) (a0 : Int) (a1 : Int) (a2 : Int) (Q : Bool → Prop) : Prop := g_ref01_within_e a0 a1 a2 Q
def sp_ref01_within (a0 : Int) (a1 : Int) (a2 : Int) : Bool := ((decide (a1 ≤ a0)) && (decide (a0 ≤ a2)))
theorem ok_ref01_within (a0 : Int) (a1 : Int) (a2 : Int) : ∃ F, ∀ Q : Bool → Prop, Q (sp_ref01_within a0 a1 a2) → w_ref01_within F a0 a1 a2 Q := by
  refine ⟨0, fun Q h => ?_⟩
  unfold w_ref01_within g_ref01_within_e
  unfold sp_ref01_within at h
  exact h
/-! ### sheetmetal/sheetmetalref01.ValidRect -/
def M_ref01_ValidRect : Nat → Nat → Canon UU := fun b r => ⟨[], [], []⟩
def g_ref01_ValidRect_e (a0_X : Int) (a0_Y : Int) (a0_W : Int) (a0_H : Int) (Q : Bool → Prop) : Prop := cond ((((!(sp_ref01_within a0_X (-1048576) 1048576)) || (!(sp_ref01_within a0_Y (-1048576) 1048576))) || (!(sp_ref01_within a0_W 1 2097152))) || (!(sp_ref01_within a0_H 1 2097152))) (Q false) (Q ((decide ((w64 (a0_X + a0_W)) ≤ 1048576)) && (decide ((w64 (a0_Y + a0_H)) ≤ 1048576))))
def w_ref01_ValidRect (F : Nat) (a0_X : Int) (a0_Y : Int) (a0_W : Int) (a0_H : Int) (Q : Bool → Prop) : Prop := g_ref01_ValidRect_e a0_X a0_Y a0_W a0_H Q
def sp_ref01_ValidRect (a0_X : Int) (a0_Y : Int) (a0_W : Int) (a0_H : Int) : Bool := cond ((((!(sp_ref01_within a0_X (-1048576) 1048576)) || (!(sp_ref01_within a0_Y (-1048576) 1048576))) || (!(sp_ref01_within a0_W 1 2097152))) || (!(sp_ref01_within a0_H 1 2097152))) (false) (((decide ((w64 (a0_X + a0_W)) ≤ 1048576)) && (decide ((w64 (a0_Y + a0_H)) ≤ 1048576))))
theorem ok_ref01_ValidRect (a0_X : Int) (a0_Y : Int) (a0_W : Int) (a0_H : Int) : ∃ F, ∀ Q : Bool → Prop, Q (sp_ref01_ValidRect a0_X a0_Y a0_W a0_H) → w_ref01_ValidRect F a0_X a0_Y a0_W a0_H Q := by
  refine ⟨0, fun Q h => ?_⟩
  unfold w_ref01_ValidRect g_ref01_ValidRect_e
  unfold sp_ref01_ValidRect at h
  cases hb0 : (((((!(sp_ref01_within a0_X (-1048576) 1048576)) || (!(sp_ref01_within a0_Y (-1048576) 1048576))) || (!(sp_ref01_within a0_W 1 2097152))) || (!(sp_ref01_within a0_H 1 2097152))))
  · try simp only [hb0, cond_false] at h ⊢
    exact h
  · try simp only [hb0, cond_true] at h ⊢
    exact h
/-! ### sheetmetal/sheetmetalref03.lineIn -/
def M_ref03_lineIn : Nat → Nat → Canon UU := fun b r => ⟨[], [], []⟩
def g_ref03_lineIn_e (a0_X1 : Int) (a0_Y1 : Int) (a0_X2 : Int) (a0_Y2 : Int) (Q : Bool → Prop) : Prop := Q ((((sp_ref03_within a0_X1 (-1048576) 1048576) && (sp_ref03_within a0_Y1 (-1048576) 1048576)) && (sp_ref03_within a0_X2 (-1048576) 1048576)) && (sp_ref03_within a0_Y2 (-1048576) 1048576))
def w_ref03_lineIn (F : Nat) (a0_X1 : Int) (a0_Y1 : Int) (a0_X2 : Int) (a0_Y2 : Int) (Q : Bool → Prop) : Prop := g_ref03_lineIn_e a0_X1 a0_Y1 a0_X2 a0_Y2 Q
def sp_ref03_lineIn (a0_X1 : Int) (a0_Y1 : Int) (a0_X2 : Int) (a0_Y2 : Int) : Bool := ((((sp_ref03_within a0_X1 (-1048576) 1048576) && (sp_ref03_within a0_Y1 (-1048576) 1048576)) && (sp_ref03_within a0_X2 (-1048576) 1048576)) && (sp_ref03_within a0_Y2 (-1048576) 1048576))
theorem ok_ref03_lineIn (a0_X1 : Int) (a0_Y1 : Int) (a0_X2 : Int) (a0_Y2 : Int) : ∃ F, ∀ Q : Bool → Prop, Q (sp_ref03_lineIn a0_X1 a0_Y1 a0_X2 a0_Y2) → w_ref03_lineIn F a0_X1 a0_Y1 a0_X2 a0_Y2 Q := by
  refine ⟨0, fun Q h => ?_⟩
  unfold w_ref03_lineIn g_ref03_lineIn_e
  unfold sp_ref03_lineIn at h
  exact h
/-! ### sheetmetal/flat.settled$1 -/
def M_flat_settled_1 : Nat → Nat → Canon UU := fun b r => ⟨[], [], []⟩
def g_flat_settled_1_e (a0_X : Int) (a0_Y : Int) (a0_W : Int) (a0_H : Int) (b_X : Int) (b_Y : Int) (b_W : Int) (b_H : Int) (Q : Int → Int → Int → Int → Prop) : Prop := Q (w64 (a0_X - b_X)) (w64 (a0_Y - b_Y)) a0_W a0_H
def w_flat_settled_1 (F : Nat) (a0_X : Int) (a0_Y : Int) (a0_W : Int) (a0_H : Int) (b_X : Int) (b_Y : Int) (b_W : Int) (b_H : Int) (Q : Int → Int → Int → Int → Prop) : Prop := g_flat_settled_1_e a0_X a0_Y a0_W a0_H b_X b_Y b_W b_H Q
def sp_flat_settled_1 (a0_X : Int) (a0_Y : Int) (a0_W : Int) (a0_H : Int) (b_X : Int) (b_Y : Int) (b_W : Int) (b_H : Int) : Int × Int × Int × Int := (w64 (a0_X - b_X), w64 (a0_Y - b_Y), a0_W, a0_H)
theorem ok_flat_settled_1 (a0_X : Int) (a0_Y : Int) (a0_W : Int) (a0_H : Int) (b_X : Int) (b_Y : Int) (b_W : Int) (b_H : Int) : ∃ F, ∀ Q : Int → Int → Int → Int → Prop, Q ((sp_flat_settled_1 a0_X a0_Y a0_W a0_H b_X b_Y b_W b_H).1) ((sp_flat_settled_1 a0_X a0_Y a0_W a0_H b_X b_Y b_W b_H).2.1) ((sp_flat_settled_1 a0_X a0_Y a0_W a0_H b_X b_Y b_W b_H).2.2.1) ((sp_flat_settled_1 a0_X a0_Y a0_W a0_H b_X b_Y b_W b_H).2.2.2) → w_flat_settled_1 F a0_X a0_Y a0_W a0_H b_X b_Y b_W b_H Q := by
  refine ⟨0, fun Q h => ?_⟩
  unfold w_flat_settled_1 g_flat_settled_1_e
  unfold sp_flat_settled_1 at h
  exact h
/-! ### sheetmetal/flat.settled$2 -/
def M_flat_settled_2 : Nat → Nat → Canon UU := fun b r => ⟨[], [], []⟩
def g_flat_settled_2_e (a0_X1 : Int) (a0_Y1 : Int) (a0_X2 : Int) (a0_Y2 : Int) (b_X : Int) (b_Y : Int) (b_W : Int) (b_H : Int) (Q : Int → Int → Int → Int → Prop) : Prop := Q (w64 (a0_X1 - b_X)) (w64 (a0_Y1 - b_Y)) (w64 (a0_X2 - b_X)) (w64 (a0_Y2 - b_Y))
def w_flat_settled_2 (F : Nat) (a0_X1 : Int) (a0_Y1 : Int) (a0_X2 : Int) (a0_Y2 : Int) (b_X : Int) (b_Y : Int) (b_W : Int) (b_H : Int) (Q : Int → Int → Int → Int → Prop) : Prop := g_flat_settled_2_e a0_X1 a0_Y1 a0_X2 a0_Y2 b_X b_Y b_W b_H Q
def sp_flat_settled_2 (a0_X1 : Int) (a0_Y1 : Int) (a0_X2 : Int) (a0_Y2 : Int) (b_X : Int) (b_Y : Int) (b_W : Int) (b_H : Int) : Int × Int × Int × Int := (w64 (a0_X1 - b_X), w64 (a0_Y1 - b_Y), w64 (a0_X2 - b_X), w64 (a0_Y2 - b_Y))
theorem ok_flat_settled_2 (a0_X1 : Int) (a0_Y1 : Int) (a0_X2 : Int) (a0_Y2 : Int) (b_X : Int) (b_Y : Int) (b_W : Int) (b_H : Int) : ∃ F, ∀ Q : Int → Int → Int → Int → Prop, Q ((sp_flat_settled_2 a0_X1 a0_Y1 a0_X2 a0_Y2 b_X b_Y b_W b_H).1) ((sp_flat_settled_2 a0_X1 a0_Y1 a0_X2 a0_Y2 b_X b_Y b_W b_H).2.1) ((sp_flat_settled_2 a0_X1 a0_Y1 a0_X2 a0_Y2 b_X b_Y b_W b_H).2.2.1) ((sp_flat_settled_2 a0_X1 a0_Y1 a0_X2 a0_Y2 b_X b_Y b_W b_H).2.2.2) → w_flat_settled_2 F a0_X1 a0_Y1 a0_X2 a0_Y2 b_X b_Y b_W b_H Q := by
  refine ⟨0, fun Q h => ?_⟩
  unfold w_flat_settled_2 g_flat_settled_2_e
  unfold sp_flat_settled_2 at h
  exact h
/-! ### sheetmetal/flat.quarter$1 -/
def M_flat_quarter_1 : Nat → Nat → Canon UU := fun b r => ⟨[], [], []⟩
def g_flat_quarter_1_e (a0_X : Int) (a0_Y : Int) (a0_W : Int) (a0_H : Int) (Q : Int → Int → Int → Int → Prop) : Prop := Q (w64 ((w64 (0 - a0_Y)) - a0_H)) a0_X a0_H a0_W
def w_flat_quarter_1 (F : Nat) (a0_X : Int) (a0_Y : Int) (a0_W : Int) (a0_H : Int) (Q : Int → Int → Int → Int → Prop) : Prop := g_flat_quarter_1_e a0_X a0_Y a0_W a0_H Q
def sp_flat_quarter_1 (a0_X : Int) (a0_Y : Int) (a0_W : Int) (a0_H : Int) : Int × Int × Int × Int := (w64 ((w64 (0 - a0_Y)) - a0_H), a0_X, a0_H, a0_W)
theorem ok_flat_quarter_1 (a0_X : Int) (a0_Y : Int) (a0_W : Int) (a0_H : Int) : ∃ F, ∀ Q : Int → Int → Int → Int → Prop, Q ((sp_flat_quarter_1 a0_X a0_Y a0_W a0_H).1) ((sp_flat_quarter_1 a0_X a0_Y a0_W a0_H).2.1) ((sp_flat_quarter_1 a0_X a0_Y a0_W a0_H).2.2.1) ((sp_flat_quarter_1 a0_X a0_Y a0_W a0_H).2.2.2) → w_flat_quarter_1 F a0_X a0_Y a0_W a0_H Q := by
  refine ⟨0, fun Q h => ?_⟩
  unfold w_flat_quarter_1 g_flat_quarter_1_e
  unfold sp_flat_quarter_1 at h
  exact h
/-! ### sheetmetal/flat.quarter$2 -/
def M_flat_quarter_2 : Nat → Nat → Canon UU := fun b r => ⟨[], [], []⟩
def g_flat_quarter_2_e (a0_X1 : Int) (a0_Y1 : Int) (a0_X2 : Int) (a0_Y2 : Int) (Q : Int → Int → Int → Int → Prop) : Prop := Q (w64 (0 - a0_Y1)) a0_X1 (w64 (0 - a0_Y2)) a0_X2
def w_flat_quarter_2 (F : Nat) (a0_X1 : Int) (a0_Y1 : Int) (a0_X2 : Int) (a0_Y2 : Int) (Q : Int → Int → Int → Int → Prop) : Prop := g_flat_quarter_2_e a0_X1 a0_Y1 a0_X2 a0_Y2 Q
def sp_flat_quarter_2 (a0_X1 : Int) (a0_Y1 : Int) (a0_X2 : Int) (a0_Y2 : Int) : Int × Int × Int × Int := (w64 (0 - a0_Y1), a0_X1, w64 (0 - a0_Y2), a0_X2)
theorem ok_flat_quarter_2 (a0_X1 : Int) (a0_Y1 : Int) (a0_X2 : Int) (a0_Y2 : Int) : ∃ F, ∀ Q : Int → Int → Int → Int → Prop, Q ((sp_flat_quarter_2 a0_X1 a0_Y1 a0_X2 a0_Y2).1) ((sp_flat_quarter_2 a0_X1 a0_Y1 a0_X2 a0_Y2).2.1) ((sp_flat_quarter_2 a0_X1 a0_Y1 a0_X2 a0_Y2).2.2.1) ((sp_flat_quarter_2 a0_X1 a0_Y1 a0_X2 a0_Y2).2.2.2) → w_flat_quarter_2 F a0_X1 a0_Y1 a0_X2 a0_Y2 Q := by
  refine ⟨0, fun Q h => ?_⟩
  unfold w_flat_quarter_2 g_flat_quarter_2_e
  unfold sp_flat_quarter_2 at h
  exact h
end
end Go.Proofs.Ytohecfbnmmgimaa
