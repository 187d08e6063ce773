/- What pieces of code must make hold, in plain Lean; printed by gen.py. Conditions: none; definitions. -/
import Derived.Test.YtohecfbnmmgimaaHK
namespace Go.Proofs.Ytohecfbnmmgimaa
open Go.Vm Go.RowKit
set_option linter.unusedVariables false
noncomputable section
/-! ### sheetmetal/sheetmetalref03.rectsIn -/
def M_ref03_rectsIn : Nat → Nat → Canon UU := fun b r => ⟨[], [], []⟩
def g_ref03_rectsIn_e (a0 : List Rect) (Q : Bool → Prop) : Prop := Q ((sp_ref01_CheckRects a0) == 0)
def w_ref03_rectsIn (F : Nat) (a0 : List Rect) (Q : Bool → Prop) : Prop := g_ref03_rectsIn_e a0 Q
def sp_ref03_rectsIn (a0 : List Rect) : Bool := (sp_ref01_CheckRects a0) == 0
theorem ok_ref03_rectsIn (a0 : List Rect) : ∃ F, ∀ Q : Bool → Prop, Q (sp_ref03_rectsIn a0) → w_ref03_rectsIn F a0 Q := by
  refine ⟨0, fun Q h => ?_⟩
  unfold w_ref03_rectsIn g_ref03_rectsIn_e
  unfold sp_ref03_rectsIn at h
  exact h
/-! ### (sheetmetal/sheetmetalref03.move).rect -/
def M_ref03_move_rect : Nat → Nat → Canon UU := fun b r => ⟨[], [], []⟩
def g_ref03_move_rect_e (a0_turns : Int) (a0_x : Int) (a0_y : Int) (a1_X : Int) (a1_Y : Int) (a1_W : Int) (a1_H : Int) (Q : Int → Int → Int → Int → Prop) : Prop := ((pre_ref03_move_point a0_turns a0_x a0_y a1_X a1_Y) ∧ ((pre_ref03_move_point a0_turns a0_x a0_y (w64 (a1_X + a1_W)) (w64 (a1_Y + a1_H))) ∧ cond (decide (((sp_ref03_move_point a0_turns a0_x a0_y (w64 (a1_X + a1_W)) (w64 (a1_Y + a1_H))).1) < ((sp_ref03_move_point a0_turns a0_x a0_y a1_X a1_Y).1))) (cond (decide (((sp_ref03_move_point a0_turns a0_x a0_y (w64 (a1_X + a1_W)) (w64 (a1_Y + a1_H))).2) < ((sp_ref03_move_point a0_turns a0_x a0_y a1_X a1_Y).2))) (Q ((sp_ref03_move_point a0_turns a0_x a0_y (w64 (a1_X + a1_W)) (w64 (a1_Y + a1_H))).1) ((sp_ref03_move_point a0_turns a0_x a0_y (w64 (a1_X + a1_W)) (w64 (a1_Y + a1_H))).2) (w64 (((sp_ref03_move_point a0_turns a0_x a0_y a1_X a1_Y).1) - ((sp_ref03_move_point a0_turns a0_x a0_y (w64 (a1_X + a1_W)) (w64 (a1_Y + a1_H))).1))) (w64 (((sp_ref03_move_point a0_turns a0_x a0_y a1_X a1_Y).2) - ((sp_ref03_move_point a0_turns a0_x a0_y (w64 (a1_X + a1_W)) (w64 (a1_Y + a1_H))).2)))) (Q ((sp_ref03_move_point a0_turns a0_x a0_y (w64 (a1_X + a1_W)) (w64 (a1_Y + a1_H))).1) ((sp_ref03_move_point a0_turns a0_x a0_y a1_X a1_Y).2) (w64 (((sp_ref03_move_point a0_turns a0_x a0_y a1_X a1_Y).1) - ((sp_ref03_move_point a0_turns a0_x a0_y (w64 (a1_X + a1_W)) (w64 (a1_Y + a1_H))).1))) (w64 (((sp_ref03_move_point a0_turns a0_x a0_y (w64 (a1_X + a1_W)) (w64 (a1_Y + a1_H))).2) - ((sp_ref03_move_point a0_turns a0_x a0_y a1_X a1_Y).2))))) (cond (decide (((sp_ref03_move_point a0_turns a0_x a0_y (w64 (a1_X + a1_W)) (w64 (a1_Y + a1_H))).2) < ((sp_ref03_move_point a0_turns a0_x a0_y a1_X a1_Y).2))) (Q ((sp_ref03_move_point a0_turns a0_x a0_y a1_X a1_Y).1) ((sp_ref03_move_point a0_turns a0_x a0_y (w64 (a1_X + a1_W)) (w64 (a1_Y + a1_H))).2) (w64 (((sp_ref03_move_point a0_turns a0_x a0_y (w64 (a1_X + a1_W)) (w64 (a1_Y + a1_H))).1) - ((sp_ref03_move_point a0_turns a0_x a0_y a1_X a1_Y).1))) (w64 (((sp_ref03_move_point a0_turns a0_x a0_y a1_X a1_Y).2) - ((sp_ref03_move_point a0_turns a0_x a0_y (w64 (a1_X + a1_W)) (w64 (a1_Y + a1_H))).2)))) (Q ((sp_ref03_move_point a0_turns a0_x a0_y a1_X a1_Y).1) ((sp_ref03_move_point a0_turns a0_x a0_y a1_X a1_Y).2) (w64 (((sp_ref03_move_point a0_turns a0_x a0_y (w64 (a1_X + a1_W)) (w64 (a1_Y + a1_H))).1) - ((sp_ref03_move_point a0_turns a0_x a0_y a1_X a1_Y).1))) (w64 (((sp_ref03_move_point a0_turns a0_x a0_y (w64 (a1_X + a1_W)) (w64 (a1_Y + a1_H))).2) - ((sp_ref03_move_point a0_turns a0_x a0_y a1_X a1_Y).2)))))))
def w_ref03_move_rect (F : Nat) (a0_turns : Int) (a0_x : Int) (a0_y : Int) (a1_X : Int) (a1_Y : Int) (a1_W : Int) (a1_H : Int) (Q : Int → Int → Int → Int → Prop) : Prop := g_ref03_move_rect_e a0_turns a0_x a0_y a1_X a1_Y a1_W a1_H Q
def pre_ref03_move_rect (a0_turns : Int) (a0_x : Int) (a0_y : Int) (a1_X : Int) (a1_Y : Int) (a1_W : Int) (a1_H : Int) : Prop := (pre_ref03_move_point a0_turns a0_x a0_y a1_X a1_Y) ∧ (pre_ref03_move_point a0_turns a0_x a0_y (w64 (a1_X + a1_W)) (w64 (a1_Y + a1_H)))
def sp_ref03_move_rect (a0_turns : Int) (a0_x : Int) (a0_y : Int) (a1_X : Int) (a1_Y : Int) (a1_W : Int) (a1_H : Int) : Int × Int × Int × Int := cond (decide (((sp_ref03_move_point a0_turns a0_x a0_y (w64 (a1_X + a1_W)) (w64 (a1_Y + a1_H))).1) < ((sp_ref03_move_point a0_turns a0_x a0_y a1_X a1_Y).1))) (cond (decide (((sp_ref03_move_point a0_turns a0_x a0_y (w64 (a1_X + a1_W)) (w64 (a1_Y + a1_H))).2) < ((sp_ref03_move_point a0_turns a0_x a0_y a1_X a1_Y).2))) (((sp_ref03_move_point a0_turns a0_x a0_y (w64 (a1_X + a1_W)) (w64 (a1_Y + a1_H))).1, (sp_ref03_move_point a0_turns a0_x a0_y (w64 (a1_X + a1_W)) (w64 (a1_Y + a1_H))).2, w64 (((sp_ref03_move_point a0_turns a0_x a0_y a1_X a1_Y).1) - ((sp_ref03_move_point a0_turns a0_x a0_y (w64 (a1_X + a1_W)) (w64 (a1_Y + a1_H))).1)), w64 (((sp_ref03_move_point a0_turns a0_x a0_y a1_X a1_Y).2) - ((sp_ref03_move_point a0_turns a0_x a0_y (w64 (a1_X + a1_W)) (w64 (a1_Y + a1_H))).2)))) (((sp_ref03_move_point a0_turns a0_x a0_y (w64 (a1_X + a1_W)) (w64 (a1_Y + a1_H))).1, (sp_ref03_move_point a0_turns a0_x a0_y a1_X a1_Y).2, w64 (((sp_ref03_move_point a0_turns a0_x a0_y a1_X a1_Y).1) - ((sp_ref03_move_point a0_turns a0_x a0_y (w64 (a1_X + a1_W)) (w64 (a1_Y + a1_H))).1)), w64 (((sp_ref03_move_point a0_turns a0_x a0_y (w64 (a1_X + a1_W)) (w64 (a1_Y + a1_H))).2) - ((sp_ref03_move_point a0_turns a0_x a0_y a1_X a1_Y).2))))) (cond (decide (((sp_ref03_move_point a0_turns a0_x a0_y (w64 (a1_X + a1_W)) (w64 (a1_Y + a1_H))).2) < ((sp_ref03_move_point a0_turns a0_x a0_y a1_X a1_Y).2))) (((sp_ref03_move_point a0_turns a0_x a0_y a1_X a1_Y).1, (sp_ref03_move_point a0_turns a0_x a0_y (w64 (a1_X + a1_W)) (w64 (a1_Y + a1_H))).2, w64 (((sp_ref03_move_point a0_turns a0_x a0_y (w64 (a1_X + a1_W)) (w64 (a1_Y + a1_H))).1) - ((sp_ref03_move_point a0_turns a0_x a0_y a1_X a1_Y).1)), w64 (((sp_ref03_move_point a0_turns a0_x a0_y a1_X a1_Y).2) - ((sp_ref03_move_point a0_turns a0_x a0_y (w64 (a1_X + a1_W)) (w64 (a1_Y + a1_H))).2)))) (((sp_ref03_move_point a0_turns a0_x a0_y a1_X a1_Y).1, (sp_ref03_move_point a0_turns a0_x a0_y a1_X a1_Y).2, w64 (((sp_ref03_move_point a0_turns a0_x a0_y (w64 (a1_X + a1_W)) (w64 (a1_Y + a1_H))).1) - ((sp_ref03_move_point a0_turns a0_x a0_y a1_X a1_Y).1)), w64 (((sp_ref03_move_point a0_turns a0_x a0_y (w64 (a1_X + a1_W)) (w64 (a1_Y + a1_H))).2) - ((sp_ref03_move_point a0_turns a0_x a0_y a1_X a1_Y).2)))))
theorem ok_ref03_move_rect (a0_turns : Int) (a0_x : Int) (a0_y : Int) (a1_X : Int) (a1_Y : Int) (a1_W : Int) (a1_H : Int) (hp : pre_ref03_move_rect a0_turns a0_x a0_y a1_X a1_Y a1_W a1_H) : ∃ F, ∀ Q : Int → Int → Int → Int → Prop, Q ((sp_ref03_move_rect a0_turns a0_x a0_y a1_X a1_Y a1_W a1_H).1) ((sp_ref03_move_rect a0_turns a0_x a0_y a1_X a1_Y a1_W a1_H).2.1) ((sp_ref03_move_rect a0_turns a0_x a0_y a1_X a1_Y a1_W a1_H).2.2.1) ((sp_ref03_move_rect a0_turns a0_x a0_y a1_X a1_Y a1_W a1_H).2.2.2) → w_ref03_move_rect F a0_turns a0_x a0_y a1_X a1_Y a1_W a1_H Q := by
  refine ⟨0, fun Q h => ?_⟩
  unfold w_ref03_move_rect g_ref03_move_rect_e
  unfold sp_ref03_move_rect at h
  unfold pre_ref03_move_rect at hp
  obtain ⟨hc0_0, hp⟩ := hp
  refine ⟨hc0_0, ?_⟩
  have hc1_0 := hp
  refine ⟨hc1_0, ?_⟩
  cases hb2 : (decide (((sp_ref03_move_point a0_turns a0_x a0_y (w64 (a1_X + a1_W)) (w64 (a1_Y + a1_H))).1) < ((sp_ref03_move_point a0_turns a0_x a0_y a1_X a1_Y).1)))
  · try simp only [hb2, cond_false] at h ⊢
    cases hb3 : (decide (((sp_ref03_move_point a0_turns a0_x a0_y (w64 (a1_X + a1_W)) (w64 (a1_Y + a1_H))).2) < ((sp_ref03_move_point a0_turns a0_x a0_y a1_X a1_Y).2)))
    · try simp only [hb3, cond_false] at h ⊢
      exact h
    · try simp only [hb3, cond_true] at h ⊢
      exact h
  · try simp only [hb2, cond_true] at h ⊢
    cases hb4 : (decide (((sp_ref03_move_point a0_turns a0_x a0_y (w64 (a1_X + a1_W)) (w64 (a1_Y + a1_H))).2) < ((sp_ref03_move_point a0_turns a0_x a0_y a1_X a1_Y).2)))
    · try simp only [hb4, cond_false] at h ⊢
      exact h
    · try simp only [hb4, cond_true] at h ⊢
      exact h
/-! ### (sheetmetal/sheetmetalref03.move).line -/
def M_ref03_move_line : Nat → Nat → Canon UU := fun b r => ⟨[], [], []⟩
def g_ref03_move_line_e (a0_turns : Int) (a0_x : Int) (a0_y : Int) (a1_X1 : Int) (a1_Y1 : Int) (a1_X2 : Int) (a1_Y2 : Int) (Q : Int → Int → Int → Int → Prop) : Prop := ((pre_ref03_move_point a0_turns a0_x a0_y a1_X1 a1_Y1) ∧ ((pre_ref03_move_point a0_turns a0_x a0_y a1_X2 a1_Y2) ∧ cond ((decide (a1_X1 ≤ a1_X2)) && (decide (a1_Y1 ≤ a1_Y2))) (cond (decide (((sp_ref03_move_point a0_turns a0_x a0_y a1_X2 a1_Y2).1) < ((sp_ref03_move_point a0_turns a0_x a0_y a1_X1 a1_Y1).1))) (cond (decide (((sp_ref03_move_point a0_turns a0_x a0_y a1_X2 a1_Y2).2) < ((sp_ref03_move_point a0_turns a0_x a0_y a1_X1 a1_Y1).2))) (Q ((sp_ref03_move_point a0_turns a0_x a0_y a1_X2 a1_Y2).1) ((sp_ref03_move_point a0_turns a0_x a0_y a1_X2 a1_Y2).2) ((sp_ref03_move_point a0_turns a0_x a0_y a1_X1 a1_Y1).1) ((sp_ref03_move_point a0_turns a0_x a0_y a1_X1 a1_Y1).2)) (Q ((sp_ref03_move_point a0_turns a0_x a0_y a1_X2 a1_Y2).1) ((sp_ref03_move_point a0_turns a0_x a0_y a1_X1 a1_Y1).2) ((sp_ref03_move_point a0_turns a0_x a0_y a1_X1 a1_Y1).1) ((sp_ref03_move_point a0_turns a0_x a0_y a1_X2 a1_Y2).2))) (cond (decide (((sp_ref03_move_point a0_turns a0_x a0_y a1_X2 a1_Y2).2) < ((sp_ref03_move_point a0_turns a0_x a0_y a1_X1 a1_Y1).2))) (Q ((sp_ref03_move_point a0_turns a0_x a0_y a1_X1 a1_Y1).1) ((sp_ref03_move_point a0_turns a0_x a0_y a1_X2 a1_Y2).2) ((sp_ref03_move_point a0_turns a0_x a0_y a1_X2 a1_Y2).1) ((sp_ref03_move_point a0_turns a0_x a0_y a1_X1 a1_Y1).2)) (Q ((sp_ref03_move_point a0_turns a0_x a0_y a1_X1 a1_Y1).1) ((sp_ref03_move_point a0_turns a0_x a0_y a1_X1 a1_Y1).2) ((sp_ref03_move_point a0_turns a0_x a0_y a1_X2 a1_Y2).1) ((sp_ref03_move_point a0_turns a0_x a0_y a1_X2 a1_Y2).2)))) (Q ((sp_ref03_move_point a0_turns a0_x a0_y a1_X1 a1_Y1).1) ((sp_ref03_move_point a0_turns a0_x a0_y a1_X1 a1_Y1).2) ((sp_ref03_move_point a0_turns a0_x a0_y a1_X2 a1_Y2).1) ((sp_ref03_move_point a0_turns a0_x a0_y a1_X2 a1_Y2).2))))
def w_ref03_move_line (F : Nat) (a0_turns : Int) (a0_x : Int) (a0_y : Int) (a1_X1 : Int) (a1_Y1 : Int) (a1_X2 : Int) (a1_Y2 : Int) (Q : Int → Int → Int → Int → Prop) : Prop := g_ref03_move_line_e a0_turns a0_x a0_y a1_X1 a1_Y1 a1_X2 a1_Y2 Q
def pre_ref03_move_line (a0_turns : Int) (a0_x : Int) (a0_y : Int) (a1_X1 : Int) (a1_Y1 : Int) (a1_X2 : Int) (a1_Y2 : Int) : Prop := (pre_ref03_move_point a0_turns a0_x a0_y a1_X1 a1_Y1) ∧ (pre_ref03_move_point a0_turns a0_x a0_y a1_X2 a1_Y2)
def sp_ref03_move_line (a0_turns : Int) (a0_x : Int) (a0_y : Int) (a1_X1 : Int) (a1_Y1 : Int) (a1_X2 : Int) (a1_Y2 : Int) : Int × Int × Int × Int := cond ((decide (a1_X1 ≤ a1_X2)) && (decide (a1_Y1 ≤ a1_Y2))) (cond (decide (((sp_ref03_move_point a0_turns a0_x a0_y a1_X2 a1_Y2).1) < ((sp_ref03_move_point a0_turns a0_x a0_y a1_X1 a1_Y1).1))) (cond (decide (((sp_ref03_move_point a0_turns a0_x a0_y a1_X2 a1_Y2).2) < ((sp_ref03_move_point a0_turns a0_x a0_y a1_X1 a1_Y1).2))) (((sp_ref03_move_point a0_turns a0_x a0_y a1_X2 a1_Y2).1, (sp_ref03_move_point a0_turns a0_x a0_y a1_X2 a1_Y2).2, (sp_ref03_move_point a0_turns a0_x a0_y a1_X1 a1_Y1).1, (sp_ref03_move_point a0_turns a0_x a0_y a1_X1 a1_Y1).2)) (((sp_ref03_move_point a0_turns a0_x a0_y a1_X2 a1_Y2).1, (sp_ref03_move_point a0_turns a0_x a0_y a1_X1 a1_Y1).2, (sp_ref03_move_point a0_turns a0_x a0_y a1_X1 a1_Y1).1, (sp_ref03_move_point a0_turns a0_x a0_y a1_X2 a1_Y2).2))) (cond (decide (((sp_ref03_move_point a0_turns a0_x a0_y a1_X2 a1_Y2).2) < ((sp_ref03_move_point a0_turns a0_x a0_y a1_X1 a1_Y1).2))) (((sp_ref03_move_point a0_turns a0_x a0_y a1_X1 a1_Y1).1, (sp_ref03_move_point a0_turns a0_x a0_y a1_X2 a1_Y2).2, (sp_ref03_move_point a0_turns a0_x a0_y a1_X2 a1_Y2).1, (sp_ref03_move_point a0_turns a0_x a0_y a1_X1 a1_Y1).2)) (((sp_ref03_move_point a0_turns a0_x a0_y a1_X1 a1_Y1).1, (sp_ref03_move_point a0_turns a0_x a0_y a1_X1 a1_Y1).2, (sp_ref03_move_point a0_turns a0_x a0_y a1_X2 a1_Y2).1, (sp_ref03_move_point a0_turns a0_x a0_y a1_X2 a1_Y2).2)))) (((sp_ref03_move_point a0_turns a0_x a0_y a1_X1 a1_Y1).1, (sp_ref03_move_point a0_turns a0_x a0_y a1_X1 a1_Y1).2, (sp_ref03_move_point a0_turns a0_x a0_y a1_X2 a1_Y2).1, (sp_ref03_move_point a0_turns a0_x a0_y a1_X2 a1_Y2).2))
theorem ok_ref03_move_line (a0_turns : Int) (a0_x : Int) (a0_y : Int) (a1_X1 : Int) (a1_Y1 : Int) (a1_X2 : Int) (a1_Y2 : Int) (hp : pre_ref03_move_line a0_turns a0_x a0_y a1_X1 a1_Y1 a1_X2 a1_Y2) : ∃ F, ∀ Q : Int → Int → Int → Int → Prop, Q ((sp_ref03_move_line a0_turns a0_x a0_y a1_X1 a1_Y1 a1_X2 a1_Y2).1) ((sp_ref03_move_line a0_turns a0_x a0_y a1_X1 a1_Y1 a1_X2 a1_Y2).2.1) ((sp_ref03_move_line a0_turns a0_x a0_y a1_X1 a1_Y1 a1_X2 a1_Y2).2.2.1) ((sp_ref03_move_line a0_turns a0_x a0_y a1_X1 a1_Y1 a1_X2 a1_Y2).2.2.2) → w_ref03_move_line F a0_turns a0_x a0_y a1_X1 a1_Y1 a1_X2 a1_Y2 Q := by
  refine ⟨0, fun Q h => ?_⟩
  unfold w_ref03_move_line g_ref03_move_line_e
  unfold sp_ref03_move_line at h
  unfold pre_ref03_move_line at hp
  obtain ⟨hc0_0, hp⟩ := hp
  refine ⟨hc0_0, ?_⟩
  have hc1_0 := hp
  refine ⟨hc1_0, ?_⟩
  cases hb2 : (((decide (a1_X1 ≤ a1_X2)) && (decide (a1_Y1 ≤ a1_Y2))))
  · try simp only [hb2, cond_false] at h ⊢
    exact h
  · try simp only [hb2, cond_true] at h ⊢
    cases hb3 : (decide (((sp_ref03_move_point a0_turns a0_x a0_y a1_X2 a1_Y2).1) < ((sp_ref03_move_point a0_turns a0_x a0_y a1_X1 a1_Y1).1)))
    · try simp only [hb3, cond_false] at h ⊢
      cases hb4 : (decide (((sp_ref03_move_point a0_turns a0_x a0_y a1_X2 a1_Y2).2) < ((sp_ref03_move_point a0_turns a0_x a0_y a1_X1 a1_Y1).2)))
      · try simp only [hb4, cond_false] at h ⊢
        exact h
      · try simp only [hb4, cond_true] at h ⊢
        exact h
    · try simp only [hb3, cond_true] at h ⊢
      cases hb5 : (decide (((sp_ref03_move_point a0_turns a0_x a0_y a1_X2 a1_Y2).2) < ((sp_ref03_move_point a0_turns a0_x a0_y a1_X1 a1_Y1).2)))
      · try simp only [hb5, cond_false] at h ⊢
        exact h
      · try simp only [hb5, cond_true] at h ⊢
        exact h
end
end Go.Proofs.Ytohecfbnmmgimaa
