/- Texts of this proof, one behind another: What pieces of code must make hold, in plain Lean; printed by gen.py. Conditions: none; de; Patterns: what Quarter returns. Conditions: none.; What pieces of code must make hold, in plain Lean; printed by gen.py. Conditions: none; de; What pieces of code must make hold, in plain Lean; printed by gen.py. Conditions: none; de; Surfaces: what the innermost functions return. Conditions: none.; What pieces of code must make hold, in plain Lean; printed by gen.py. Conditions: none; de; Surfaces: sums over unit cells, and over the strips between places in order. Conditions: n; Surfaces: the lines of a grid, and the length of a region at a height. Conditions: none.; What pieces of code must make hold, in plain Lean; printed by gen.py. Conditions: none; de; Surfaces: what geom.Area and flat's area return. Conditions: none.; What pieces of code must make hold, in plain Lean; printed by gen.py. Conditions: none; de; Surfaces: what flat's alone returns. Conditions: none.; What pieces of code must make hold, in plain Lean; printed by gen.py. Conditions: none; de; Surfaces: what flat.Surface returns. Conditions: none.; What pieces of code must make hold, in plain Lean; printed by gen.py. Conditions: none; de. Conditions: none. -/
import Derived.Test.YtohecfbnmmgimaaTb3
namespace Go.Proofs.Ytohecfbnmmgimaa
open Go.Vm Go.RowKit
set_option linter.unusedVariables false
noncomputable section
/-! ### sheetmetal/flat.settled -/
def M_flat_settled : Nat → Nat → Canon UU := fun b r => ⟨[], [], [], []⟩
def g_flat_settled_e (a0_Rects : List Rect) (a0_Cuts : List Rect) (a0_Forms : List Rect) (a0_Bends : List Bend) (Q : List Rect → List Rect → List Rect → List Bend → Int → Prop) : Prop := ((pre_flat_bounds a0_Rects) ∧ ((pre_mapS a0_Rects a0_Cuts a0_Forms a0_Bends ((sp_flat_bounds a0_Rects).1) ((sp_flat_bounds a0_Rects).2.1) ((sp_flat_bounds a0_Rects).2.2.1) ((sp_flat_bounds a0_Rects).2.2.2) ((sp_flat_bounds a0_Rects).1) ((sp_flat_bounds a0_Rects).2.1) ((sp_flat_bounds a0_Rects).2.2.1) ((sp_flat_bounds a0_Rects).2.2.2)) ∧ ((pre_flat_check ((sp_mapS a0_Rects a0_Cuts a0_Forms a0_Bends ((sp_flat_bounds a0_Rects).1) ((sp_flat_bounds a0_Rects).2.1) ((sp_flat_bounds a0_Rects).2.2.1) ((sp_flat_bounds a0_Rects).2.2.2) ((sp_flat_bounds a0_Rects).1) ((sp_flat_bounds a0_Rects).2.1) ((sp_flat_bounds a0_Rects).2.2.1) ((sp_flat_bounds a0_Rects).2.2.2)).1) ((sp_mapS a0_Rects a0_Cuts a0_Forms a0_Bends ((sp_flat_bounds a0_Rects).1) ((sp_flat_bounds a0_Rects).2.1) ((sp_flat_bounds a0_Rects).2.2.1) ((sp_flat_bounds a0_Rects).2.2.2) ((sp_flat_bounds a0_Rects).1) ((sp_flat_bounds a0_Rects).2.1) ((sp_flat_bounds a0_Rects).2.2.1) ((sp_flat_bounds a0_Rects).2.2.2)).2.1) ((sp_mapS a0_Rects a0_Cuts a0_Forms a0_Bends ((sp_flat_bounds a0_Rects).1) ((sp_flat_bounds a0_Rects).2.1) ((sp_flat_bounds a0_Rects).2.2.1) ((sp_flat_bounds a0_Rects).2.2.2) ((sp_flat_bounds a0_Rects).1) ((sp_flat_bounds a0_Rects).2.1) ((sp_flat_bounds a0_Rects).2.2.1) ((sp_flat_bounds a0_Rects).2.2.2)).2.2.1) ((sp_mapS a0_Rects a0_Cuts a0_Forms a0_Bends ((sp_flat_bounds a0_Rects).1) ((sp_flat_bounds a0_Rects).2.1) ((sp_flat_bounds a0_Rects).2.2.1) ((sp_flat_bounds a0_Rects).2.2.2) ((sp_flat_bounds a0_Rects).1) ((sp_flat_bounds a0_Rects).2.1) ((sp_flat_bounds a0_Rects).2.2.1) ((sp_flat_bounds a0_Rects).2.2.2)).2.2.2)) ∧ cond ((sp_flat_check ((sp_mapS a0_Rects a0_Cuts a0_Forms a0_Bends ((sp_flat_bounds a0_Rects).1) ((sp_flat_bounds a0_Rects).2.1) ((sp_flat_bounds a0_Rects).2.2.1) ((sp_flat_bounds a0_Rects).2.2.2) ((sp_flat_bounds a0_Rects).1) ((sp_flat_bounds a0_Rects).2.1) ((sp_flat_bounds a0_Rects).2.2.1) ((sp_flat_bounds a0_Rects).2.2.2)).1) ((sp_mapS a0_Rects a0_Cuts a0_Forms a0_Bends ((sp_flat_bounds a0_Rects).1) ((sp_flat_bounds a0_Rects).2.1) ((sp_flat_bounds a0_Rects).2.2.1) ((sp_flat_bounds a0_Rects).2.2.2) ((sp_flat_bounds a0_Rects).1) ((sp_flat_bounds a0_Rects).2.1) ((sp_flat_bounds a0_Rects).2.2.1) ((sp_flat_bounds a0_Rects).2.2.2)).2.1) ((sp_mapS a0_Rects a0_Cuts a0_Forms a0_Bends ((sp_flat_bounds a0_Rects).1) ((sp_flat_bounds a0_Rects).2.1) ((sp_flat_bounds a0_Rects).2.2.1) ((sp_flat_bounds a0_Rects).2.2.2) ((sp_flat_bounds a0_Rects).1) ((sp_flat_bounds a0_Rects).2.1) ((sp_flat_bounds a0_Rects).2.2.1) ((sp_flat_bounds a0_Rects).2.2.2)).2.2.1) ((sp_mapS a0_Rects a0_Cuts a0_Forms a0_Bends ((sp_flat_bounds a0_Rects).1) ((sp_flat_bounds a0_Rects).2.1) ((sp_flat_bounds a0_Rects).2.2.1) ((sp_flat_bounds a0_Rects).2.2.2) ((sp_flat_bounds a0_Rects).1) ((sp_flat_bounds a0_Rects).2.1) ((sp_flat_bounds a0_Rects).2.2.1) ((sp_flat_bounds a0_Rects).2.2.2)).2.2.2)) != 0) (Q ([]) ([]) ([]) ([]) 4) (Q ((sp_mapS a0_Rects a0_Cuts a0_Forms a0_Bends ((sp_flat_bounds a0_Rects).1) ((sp_flat_bounds a0_Rects).2.1) ((sp_flat_bounds a0_Rects).2.2.1) ((sp_flat_bounds a0_Rects).2.2.2) ((sp_flat_bounds a0_Rects).1) ((sp_flat_bounds a0_Rects).2.1) ((sp_flat_bounds a0_Rects).2.2.1) ((sp_flat_bounds a0_Rects).2.2.2)).1) ((sp_mapS a0_Rects a0_Cuts a0_Forms a0_Bends ((sp_flat_bounds a0_Rects).1) ((sp_flat_bounds a0_Rects).2.1) ((sp_flat_bounds a0_Rects).2.2.1) ((sp_flat_bounds a0_Rects).2.2.2) ((sp_flat_bounds a0_Rects).1) ((sp_flat_bounds a0_Rects).2.1) ((sp_flat_bounds a0_Rects).2.2.1) ((sp_flat_bounds a0_Rects).2.2.2)).2.1) ((sp_mapS a0_Rects a0_Cuts a0_Forms a0_Bends ((sp_flat_bounds a0_Rects).1) ((sp_flat_bounds a0_Rects).2.1) ((sp_flat_bounds a0_Rects).2.2.1) ((sp_flat_bounds a0_Rects).2.2.2) ((sp_flat_bounds a0_Rects).1) ((sp_flat_bounds a0_Rects).2.1) ((sp_flat_bounds a0_Rects).2.2.1) ((sp_flat_bounds a0_Rects).2.2.2)).2.2.1) ((sp_mapS a0_Rects a0_Cuts a0_Forms a0_Bends ((sp_flat_bounds a0_Rects).1) ((sp_flat_bounds a0_Rects).2.1) ((sp_flat_bounds a0_Rects).2.2.1) ((sp_flat_bounds a0_Rects).2.2.2) ((sp_flat_bounds a0_Rects).1) ((sp_flat_bounds a0_Rects).2.1) ((sp_flat_bounds a0_Rects).2.2.1) ((sp_flat_bounds a0_Rects).2.2.2)).2.2.2) 0))))
def w_flat_settled (F : Nat) (a0_Rects : List Rect) (a0_Cuts : List Rect) (a0_Forms : List Rect) (a0_Bends : List Bend) (Q : List Rect → List Rect → List Rect → List Bend → Int → Prop) : Prop := g_flat_settled_e a0_Rects a0_Cuts a0_Forms a0_Bends Q
def pre_flat_settled (a0_Rects : List Rect) (a0_Cuts : List Rect) (a0_Forms : List Rect) (a0_Bends : List Bend) : Prop := (pre_flat_bounds a0_Rects) ∧ (pre_mapS a0_Rects a0_Cuts a0_Forms a0_Bends ((sp_flat_bounds a0_Rects).1) ((sp_flat_bounds a0_Rects).2.1) ((sp_flat_bounds a0_Rects).2.2.1) ((sp_flat_bounds a0_Rects).2.2.2) ((sp_flat_bounds a0_Rects).1) ((sp_flat_bounds a0_Rects).2.1) ((sp_flat_bounds a0_Rects).2.2.1) ((sp_flat_bounds a0_Rects).2.2.2)) ∧ (pre_flat_check ((sp_mapS a0_Rects a0_Cuts a0_Forms a0_Bends ((sp_flat_bounds a0_Rects).1) ((sp_flat_bounds a0_Rects).2.1) ((sp_flat_bounds a0_Rects).2.2.1) ((sp_flat_bounds a0_Rects).2.2.2) ((sp_flat_bounds a0_Rects).1) ((sp_flat_bounds a0_Rects).2.1) ((sp_flat_bounds a0_Rects).2.2.1) ((sp_flat_bounds a0_Rects).2.2.2)).1) ((sp_mapS a0_Rects a0_Cuts a0_Forms a0_Bends ((sp_flat_bounds a0_Rects).1) ((sp_flat_bounds a0_Rects).2.1) ((sp_flat_bounds a0_Rects).2.2.1) ((sp_flat_bounds a0_Rects).2.2.2) ((sp_flat_bounds a0_Rects).1) ((sp_flat_bounds a0_Rects).2.1) ((sp_flat_bounds a0_Rects).2.2.1) ((sp_flat_bounds a0_Rects).2.2.2)).2.1) ((sp_mapS a0_Rects a0_Cuts a0_Forms a0_Bends ((sp_flat_bounds a0_Rects).1) ((sp_flat_bounds a0_Rects).2.1) ((sp_flat_bounds a0_Rects).2.2.1) ((sp_flat_bounds a0_Rects).2.2.2) ((sp_flat_bounds a0_Rects).1) ((sp_flat_bounds a0_Rects).2.1) ((sp_flat_bounds a0_Rects).2.2.1) ((sp_flat_bounds a0_Rects).2.2.2)).2.2.1) ((sp_mapS a0_Rects a0_Cuts a0_Forms a0_Bends ((sp_flat_bounds a0_Rects).1) ((sp_flat_bounds a0_Rects).2.1) ((sp_flat_bounds a0_Rects).2.2.1) ((sp_flat_bounds a0_Rects).2.2.2) ((sp_flat_bounds a0_Rects).1) ((sp_flat_bounds a0_Rects).2.1) ((sp_flat_bounds a0_Rects).2.2.1) ((sp_flat_bounds a0_Rects).2.2.2)).2.2.2))
def sp_flat_settled (a0_Rects : List Rect) (a0_Cuts : List Rect) (a0_Forms : List Rect) (a0_Bends : List Bend) : (List Rect) × (List Rect) × (List Rect) × (List Bend) × Int := cond ((sp_flat_check ((sp_mapS a0_Rects a0_Cuts a0_Forms a0_Bends ((sp_flat_bounds a0_Rects).1) ((sp_flat_bounds a0_Rects).2.1) ((sp_flat_bounds a0_Rects).2.2.1) ((sp_flat_bounds a0_Rects).2.2.2) ((sp_flat_bounds a0_Rects).1) ((sp_flat_bounds a0_Rects).2.1) ((sp_flat_bounds a0_Rects).2.2.1) ((sp_flat_bounds a0_Rects).2.2.2)).1) ((sp_mapS a0_Rects a0_Cuts a0_Forms a0_Bends ((sp_flat_bounds a0_Rects).1) ((sp_flat_bounds a0_Rects).2.1) ((sp_flat_bounds a0_Rects).2.2.1) ((sp_flat_bounds a0_Rects).2.2.2) ((sp_flat_bounds a0_Rects).1) ((sp_flat_bounds a0_Rects).2.1) ((sp_flat_bounds a0_Rects).2.2.1) ((sp_flat_bounds a0_Rects).2.2.2)).2.1) ((sp_mapS a0_Rects a0_Cuts a0_Forms a0_Bends ((sp_flat_bounds a0_Rects).1) ((sp_flat_bounds a0_Rects).2.1) ((sp_flat_bounds a0_Rects).2.2.1) ((sp_flat_bounds a0_Rects).2.2.2) ((sp_flat_bounds a0_Rects).1) ((sp_flat_bounds a0_Rects).2.1) ((sp_flat_bounds a0_Rects).2.2.1) ((sp_flat_bounds a0_Rects).2.2.2)).2.2.1) ((sp_mapS a0_Rects a0_Cuts a0_Forms a0_Bends ((sp_flat_bounds a0_Rects).1) ((sp_flat_bounds a0_Rects).2.1) ((sp_flat_bounds a0_Rects).2.2.1) ((sp_flat_bounds a0_Rects).2.2.2) ((sp_flat_bounds a0_Rects).1) ((sp_flat_bounds a0_Rects).2.1) ((sp_flat_bounds a0_Rects).2.2.1) ((sp_flat_bounds a0_Rects).2.2.2)).2.2.2)) != 0) (([], [], [], [], 4)) (((sp_mapS a0_Rects a0_Cuts a0_Forms a0_Bends ((sp_flat_bounds a0_Rects).1) ((sp_flat_bounds a0_Rects).2.1) ((sp_flat_bounds a0_Rects).2.2.1) ((sp_flat_bounds a0_Rects).2.2.2) ((sp_flat_bounds a0_Rects).1) ((sp_flat_bounds a0_Rects).2.1) ((sp_flat_bounds a0_Rects).2.2.1) ((sp_flat_bounds a0_Rects).2.2.2)).1, (sp_mapS a0_Rects a0_Cuts a0_Forms a0_Bends ((sp_flat_bounds a0_Rects).1) ((sp_flat_bounds a0_Rects).2.1) ((sp_flat_bounds a0_Rects).2.2.1) ((sp_flat_bounds a0_Rects).2.2.2) ((sp_flat_bounds a0_Rects).1) ((sp_flat_bounds a0_Rects).2.1) ((sp_flat_bounds a0_Rects).2.2.1) ((sp_flat_bounds a0_Rects).2.2.2)).2.1, (sp_mapS a0_Rects a0_Cuts a0_Forms a0_Bends ((sp_flat_bounds a0_Rects).1) ((sp_flat_bounds a0_Rects).2.1) ((sp_flat_bounds a0_Rects).2.2.1) ((sp_flat_bounds a0_Rects).2.2.2) ((sp_flat_bounds a0_Rects).1) ((sp_flat_bounds a0_Rects).2.1) ((sp_flat_bounds a0_Rects).2.2.1) ((sp_flat_bounds a0_Rects).2.2.2)).2.2.1, (sp_mapS a0_Rects a0_Cuts a0_Forms a0_Bends ((sp_flat_bounds a0_Rects).1) ((sp_flat_bounds a0_Rects).2.1) ((sp_flat_bounds a0_Rects).2.2.1) ((sp_flat_bounds a0_Rects).2.2.2) ((sp_flat_bounds a0_Rects).1) ((sp_flat_bounds a0_Rects).2.1) ((sp_flat_bounds a0_Rects).2.2.1) ((sp_flat_bounds a0_Rects).2.2.2)).2.2.2, 0))
theorem ok_flat_settled (a0_Rects : List Rect) (a0_Cuts : List Rect) (a0_Forms : List Rect) (a0_Bends : List Bend) (hp : pre_flat_settled a0_Rects a0_Cuts a0_Forms a0_Bends) : ∃ F, ∀ Q : List Rect → List Rect → List Rect → List Bend → Int → Prop, Q ((sp_flat_settled a0_Rects a0_Cuts a0_Forms a0_Bends).1) ((sp_flat_settled a0_Rects a0_Cuts a0_Forms a0_Bends).2.1) ((sp_flat_settled a0_Rects a0_Cuts a0_Forms a0_Bends).2.2.1) ((sp_flat_settled a0_Rects a0_Cuts a0_Forms a0_Bends).2.2.2.1) ((sp_flat_settled a0_Rects a0_Cuts a0_Forms a0_Bends).2.2.2.2) → w_flat_settled F a0_Rects a0_Cuts a0_Forms a0_Bends Q := by
  refine ⟨0, fun Q h => ?_⟩
  unfold w_flat_settled g_flat_settled_e
  unfold sp_flat_settled at h
  unfold pre_flat_settled at hp
  obtain ⟨hc0_0, hp⟩ := hp
  refine ⟨hc0_0, ?_⟩
  obtain ⟨hc1_0, hp⟩ := hp
  refine ⟨hc1_0, ?_⟩
  have hc2_0 := hp
  refine ⟨hc2_0, ?_⟩
  cases hb3 : ((sp_flat_check ((sp_mapS a0_Rects a0_Cuts a0_Forms a0_Bends ((sp_flat_bounds a0_Rects).1) ((sp_flat_bounds a0_Rects).2.1) ((sp_flat_bounds a0_Rects).2.2.1) ((sp_flat_bounds a0_Rects).2.2.2) ((sp_flat_bounds a0_Rects).1) ((sp_flat_bounds a0_Rects).2.1) ((sp_flat_bounds a0_Rects).2.2.1) ((sp_flat_bounds a0_Rects).2.2.2)).1) ((sp_mapS a0_Rects a0_Cuts a0_Forms a0_Bends ((sp_flat_bounds a0_Rects).1) ((sp_flat_bounds a0_Rects).2.1) ((sp_flat_bounds a0_Rects).2.2.1) ((sp_flat_bounds a0_Rects).2.2.2) ((sp_flat_bounds a0_Rects).1) ((sp_flat_bounds a0_Rects).2.1) ((sp_flat_bounds a0_Rects).2.2.1) ((sp_flat_bounds a0_Rects).2.2.2)).2.1) ((sp_mapS a0_Rects a0_Cuts a0_Forms a0_Bends ((sp_flat_bounds a0_Rects).1) ((sp_flat_bounds a0_Rects).2.1) ((sp_flat_bounds a0_Rects).2.2.1) ((sp_flat_bounds a0_Rects).2.2.2) ((sp_flat_bounds a0_Rects).1) ((sp_flat_bounds a0_Rects).2.1) ((sp_flat_bounds a0_Rects).2.2.1) ((sp_flat_bounds a0_Rects).2.2.2)).2.2.1) ((sp_mapS a0_Rects a0_Cuts a0_Forms a0_Bends ((sp_flat_bounds a0_Rects).1) ((sp_flat_bounds a0_Rects).2.1) ((sp_flat_bounds a0_Rects).2.2.1) ((sp_flat_bounds a0_Rects).2.2.2) ((sp_flat_bounds a0_Rects).1) ((sp_flat_bounds a0_Rects).2.1) ((sp_flat_bounds a0_Rects).2.2.1) ((sp_flat_bounds a0_Rects).2.2.2)).2.2.2)) != 0)
  · try simp only [hb3, cond_false] at h ⊢
    exact h
  · try simp only [hb3, cond_true] at h ⊢
    exact h
/-! ### sheetmetal/flat.quarter -/
def M_flat_quarter : Nat → Nat → Canon UU := fun b r => ⟨[], [], [], []⟩
def g_flat_quarter_e (a0_Rects : List Rect) (a0_Cuts : List Rect) (a0_Forms : List Rect) (a0_Bends : List Bend) (Q : List Rect → List Rect → List Rect → List Bend → Prop) : Prop := ((pre_mapQ a0_Rects a0_Cuts a0_Forms a0_Bends) ∧ Q ((sp_mapQ a0_Rects a0_Cuts a0_Forms a0_Bends).1) ((sp_mapQ a0_Rects a0_Cuts a0_Forms a0_Bends).2.1) ((sp_mapQ a0_Rects a0_Cuts a0_Forms a0_Bends).2.2.1) ((sp_mapQ a0_Rects a0_Cuts a0_Forms a0_Bends).2.2.2))
def w_flat_quarter (F : Nat) (a0_Rects : List Rect) (a0_Cuts : List Rect) (a0_Forms : List Rect) (a0_Bends : List Bend) (Q : List Rect → List Rect → List Rect → List Bend → Prop) : Prop := g_flat_quarter_e a0_Rects a0_Cuts a0_Forms a0_Bends Q
def pre_flat_quarter (a0_Rects : List Rect) (a0_Cuts : List Rect) (a0_Forms : List Rect) (a0_Bends : List Bend) : Prop := (pre_mapQ a0_Rects a0_Cuts a0_Forms a0_Bends)
def sp_flat_quarter (a0_Rects : List Rect) (a0_Cuts : List Rect) (a0_Forms : List Rect) (a0_Bends : List Bend) : (List Rect) × (List Rect) × (List Rect) × (List Bend) := ((sp_mapQ a0_Rects a0_Cuts a0_Forms a0_Bends).1, (sp_mapQ a0_Rects a0_Cuts a0_Forms a0_Bends).2.1, (sp_mapQ a0_Rects a0_Cuts a0_Forms a0_Bends).2.2.1, (sp_mapQ a0_Rects a0_Cuts a0_Forms a0_Bends).2.2.2)
theorem ok_flat_quarter (a0_Rects : List Rect) (a0_Cuts : List Rect) (a0_Forms : List Rect) (a0_Bends : List Bend) (hp : pre_flat_quarter a0_Rects a0_Cuts a0_Forms a0_Bends) : ∃ F, ∀ Q : List Rect → List Rect → List Rect → List Bend → Prop, Q ((sp_flat_quarter a0_Rects a0_Cuts a0_Forms a0_Bends).1) ((sp_flat_quarter a0_Rects a0_Cuts a0_Forms a0_Bends).2.1) ((sp_flat_quarter a0_Rects a0_Cuts a0_Forms a0_Bends).2.2.1) ((sp_flat_quarter a0_Rects a0_Cuts a0_Forms a0_Bends).2.2.2) → w_flat_quarter F a0_Rects a0_Cuts a0_Forms a0_Bends Q := by
  refine ⟨0, fun Q h => ?_⟩
  unfold w_flat_quarter g_flat_quarter_e
  unfold sp_flat_quarter at h
  unfold pre_flat_quarter at hp
  have hc0_0 := hp
  refine ⟨hc0_0, ?_⟩
  exact h
/-! ### sheetmetal/flat.Bounds -/
def M_flat_Bounds : Nat → Nat → Canon UU := fun b r => ⟨[], [], [], []⟩
def g_flat_Bounds_e (a0_Rects : List Rect) (a0_Cuts : List Rect) (a0_Forms : List Rect) (a0_Bends : List Bend) (Q : Int → Int → Int → Int → Int → Prop) : Prop := ((pre_flat_check a0_Rects a0_Cuts a0_Forms a0_Bends) ∧ cond ((sp_flat_check a0_Rects a0_Cuts a0_Forms a0_Bends) != 0) (Q 0 0 0 0 (sp_flat_check a0_Rects a0_Cuts a0_Forms a0_Bends)) (((pre_flat_bounds a0_Rects) ∧ Q ((sp_flat_bounds a0_Rects).1) ((sp_flat_bounds a0_Rects).2.1) ((sp_flat_bounds a0_Rects).2.2.1) ((sp_flat_bounds a0_Rects).2.2.2) 0)))
def w_flat_Bounds (F : Nat) (a0_Rects : List Rect) (a0_Cuts : List Rect) (a0_Forms : List Rect) (a0_Bends : List Bend) (Q : Int → Int → Int → Int → Int → Prop) : Prop := g_flat_Bounds_e a0_Rects a0_Cuts a0_Forms a0_Bends Q
def pre_flat_Bounds (a0_Rects : List Rect) (a0_Cuts : List Rect) (a0_Forms : List Rect) (a0_Bends : List Bend) : Prop := (pre_flat_check a0_Rects a0_Cuts a0_Forms a0_Bends) ∧ (cond ((sp_flat_check a0_Rects a0_Cuts a0_Forms a0_Bends) != 0) (True) ((pre_flat_bounds a0_Rects)))
def sp_flat_Bounds (a0_Rects : List Rect) (a0_Cuts : List Rect) (a0_Forms : List Rect) (a0_Bends : List Bend) : Int × Int × Int × Int × Int := cond ((sp_flat_check a0_Rects a0_Cuts a0_Forms a0_Bends) != 0) ((0, 0, 0, 0, (sp_flat_check a0_Rects a0_Cuts a0_Forms a0_Bends))) (((sp_flat_bounds a0_Rects).1, (sp_flat_bounds a0_Rects).2.1, (sp_flat_bounds a0_Rects).2.2.1, (sp_flat_bounds a0_Rects).2.2.2, 0))
theorem ok_flat_Bounds (a0_Rects : List Rect) (a0_Cuts : List Rect) (a0_Forms : List Rect) (a0_Bends : List Bend) (hp : pre_flat_Bounds a0_Rects a0_Cuts a0_Forms a0_Bends) : ∃ F, ∀ Q : Int → Int → Int → Int → Int → Prop, Q ((sp_flat_Bounds a0_Rects a0_Cuts a0_Forms a0_Bends).1) ((sp_flat_Bounds a0_Rects a0_Cuts a0_Forms a0_Bends).2.1) ((sp_flat_Bounds a0_Rects a0_Cuts a0_Forms a0_Bends).2.2.1) ((sp_flat_Bounds a0_Rects a0_Cuts a0_Forms a0_Bends).2.2.2.1) ((sp_flat_Bounds a0_Rects a0_Cuts a0_Forms a0_Bends).2.2.2.2) → w_flat_Bounds F a0_Rects a0_Cuts a0_Forms a0_Bends Q := by
  refine ⟨0, fun Q h => ?_⟩
  unfold w_flat_Bounds g_flat_Bounds_e
  unfold sp_flat_Bounds at h
  unfold pre_flat_Bounds at hp
  obtain ⟨hc0_0, hp⟩ := hp
  refine ⟨hc0_0, ?_⟩
  cases hb1 : ((sp_flat_check a0_Rects a0_Cuts a0_Forms a0_Bends) != 0)
  · try simp only [hb1, cond_false] at h hp ⊢
    have hc2_0 := hp
    refine ⟨hc2_0, ?_⟩
    exact h
  · try simp only [hb1, cond_true] at h hp ⊢
    exact h
/-! ### sheetmetal/sheetmetalref03.Bounds -/
def M_ref03_Bounds : Nat → Nat → Canon UU := fun b r => ⟨[], [], [], []⟩
def g_ref03_Bounds_e (a0_Rects : List Rect) (a0_Cuts : List Rect) (a0_Forms : List Rect) (a0_Bends : List Bend) (Q : Int → Int → Int → Int → Int → Prop) : Prop := ((pre_ref03_Whole a0_Rects a0_Cuts a0_Forms a0_Bends) ∧ cond (!(sp_ref03_Whole a0_Rects a0_Cuts a0_Forms a0_Bends)) (Q 0 0 0 0 1) (((pre_ref03_bounds a0_Rects) ∧ Q ((sp_ref03_bounds a0_Rects).1) ((sp_ref03_bounds a0_Rects).2.1) ((sp_ref03_bounds a0_Rects).2.2.1) ((sp_ref03_bounds a0_Rects).2.2.2) 0)))
def w_ref03_Bounds (F : Nat) (a0_Rects : List Rect) (a0_Cuts : List Rect) (a0_Forms : List Rect) (a0_Bends : List Bend) (Q : Int → Int → Int → Int → Int → Prop) : Prop := g_ref03_Bounds_e a0_Rects a0_Cuts a0_Forms a0_Bends Q
def pre_ref03_Bounds (a0_Rects : List Rect) (a0_Cuts : List Rect) (a0_Forms : List Rect) (a0_Bends : List Bend) : Prop := (pre_ref03_Whole a0_Rects a0_Cuts a0_Forms a0_Bends) ∧ (cond (!(sp_ref03_Whole a0_Rects a0_Cuts a0_Forms a0_Bends)) (True) ((pre_ref03_bounds a0_Rects)))
def sp_ref03_Bounds (a0_Rects : List Rect) (a0_Cuts : List Rect) (a0_Forms : List Rect) (a0_Bends : List Bend) : Int × Int × Int × Int × Int := cond (!(sp_ref03_Whole a0_Rects a0_Cuts a0_Forms a0_Bends)) ((0, 0, 0, 0, 1)) (((sp_ref03_bounds a0_Rects).1, (sp_ref03_bounds a0_Rects).2.1, (sp_ref03_bounds a0_Rects).2.2.1, (sp_ref03_bounds a0_Rects).2.2.2, 0))
theorem ok_ref03_Bounds (a0_Rects : List Rect) (a0_Cuts : List Rect) (a0_Forms : List Rect) (a0_Bends : List Bend) (hp : pre_ref03_Bounds a0_Rects a0_Cuts a0_Forms a0_Bends) : ∃ F, ∀ Q : Int → Int → Int → Int → Int → Prop, Q ((sp_ref03_Bounds a0_Rects a0_Cuts a0_Forms a0_Bends).1) ((sp_ref03_Bounds a0_Rects a0_Cuts a0_Forms a0_Bends).2.1) ((sp_ref03_Bounds a0_Rects a0_Cuts a0_Forms a0_Bends).2.2.1) ((sp_ref03_Bounds a0_Rects a0_Cuts a0_Forms a0_Bends).2.2.2.1) ((sp_ref03_Bounds a0_Rects a0_Cuts a0_Forms a0_Bends).2.2.2.2) → w_ref03_Bounds F a0_Rects a0_Cuts a0_Forms a0_Bends Q := by
  refine ⟨0, fun Q h => ?_⟩
  unfold w_ref03_Bounds g_ref03_Bounds_e
  unfold sp_ref03_Bounds at h
  unfold pre_ref03_Bounds at hp
  obtain ⟨hc0_0, hp⟩ := hp
  refine ⟨hc0_0, ?_⟩
  cases hb1 : (!(sp_ref03_Whole a0_Rects a0_Cuts a0_Forms a0_Bends))
  · try simp only [hb1, cond_false] at h hp ⊢
    have hc2_0 := hp
    refine ⟨hc2_0, ?_⟩
    exact h
  · try simp only [hb1, cond_true] at h hp ⊢
    exact h
/-! ### sheetmetal/sheetmetalref03.Quarter -/
def M_ref03_Quarter : Nat → Nat → Canon UU := fun b r => ⟨[], [], [], []⟩
def g_ref03_Quarter_e (a0_Rects : List Rect) (a0_Cuts : List Rect) (a0_Forms : List Rect) (a0_Bends : List Bend) (a1 : Int) (Q : List Rect → List Rect → List Rect → List Bend → Int → Prop) : Prop := ((pre_ref03_Whole a0_Rects a0_Cuts a0_Forms a0_Bends) ∧ cond ((!(sp_ref03_Whole a0_Rects a0_Cuts a0_Forms a0_Bends)) || (!(sp_ref03_within a1 0 3))) (Q ([]) ([]) ([]) ([]) 1) ((((pre_ref03_move_rects a1 0 0 a0_Rects) ∧ (pre_ref03_bounds (sp_ref03_move_rects a1 0 0 a0_Rects))) ∧ ((pre_ref03_move_flat a1 (w64 (0 - ((sp_ref03_bounds (sp_ref03_move_rects a1 0 0 a0_Rects)).1))) (w64 (0 - ((sp_ref03_bounds (sp_ref03_move_rects a1 0 0 a0_Rects)).2.1))) a0_Rects a0_Cuts a0_Forms a0_Bends) ∧ ((pre_ref03_Whole ((sp_ref03_move_flat a1 (w64 (0 - ((sp_ref03_bounds (sp_ref03_move_rects a1 0 0 a0_Rects)).1))) (w64 (0 - ((sp_ref03_bounds (sp_ref03_move_rects a1 0 0 a0_Rects)).2.1))) a0_Rects a0_Cuts a0_Forms a0_Bends).1) ((sp_ref03_move_flat a1 (w64 (0 - ((sp_ref03_bounds (sp_ref03_move_rects a1 0 0 a0_Rects)).1))) (w64 (0 - ((sp_ref03_bounds (sp_ref03_move_rects a1 0 0 a0_Rects)).2.1))) a0_Rects a0_Cuts a0_Forms a0_Bends).2.1) ((sp_ref03_move_flat a1 (w64 (0 - ((sp_ref03_bounds (sp_ref03_move_rects a1 0 0 a0_Rects)).1))) (w64 (0 - ((sp_ref03_bounds (sp_ref03_move_rects a1 0 0 a0_Rects)).2.1))) a0_Rects a0_Cuts a0_Forms a0_Bends).2.2.1) ((sp_ref03_move_flat a1 (w64 (0 - ((sp_ref03_bounds (sp_ref03_move_rects a1 0 0 a0_Rects)).1))) (w64 (0 - ((sp_ref03_bounds (sp_ref03_move_rects a1 0 0 a0_Rects)).2.1))) a0_Rects a0_Cuts a0_Forms a0_Bends).2.2.2)) ∧ cond (!(sp_ref03_Whole ((sp_ref03_move_flat a1 (w64 (0 - ((sp_ref03_bounds (sp_ref03_move_rects a1 0 0 a0_Rects)).1))) (w64 (0 - ((sp_ref03_bounds (sp_ref03_move_rects a1 0 0 a0_Rects)).2.1))) a0_Rects a0_Cuts a0_Forms a0_Bends).1) ((sp_ref03_move_flat a1 (w64 (0 - ((sp_ref03_bounds (sp_ref03_move_rects a1 0 0 a0_Rects)).1))) (w64 (0 - ((sp_ref03_bounds (sp_ref03_move_rects a1 0 0 a0_Rects)).2.1))) a0_Rects a0_Cuts a0_Forms a0_Bends).2.1) ((sp_ref03_move_flat a1 (w64 (0 - ((sp_ref03_bounds (sp_ref03_move_rects a1 0 0 a0_Rects)).1))) (w64 (0 - ((sp_ref03_bounds (sp_ref03_move_rects a1 0 0 a0_Rects)).2.1))) a0_Rects a0_Cuts a0_Forms a0_Bends).2.2.1) ((sp_ref03_move_flat a1 (w64 (0 - ((sp_ref03_bounds (sp_ref03_move_rects a1 0 0 a0_Rects)).1))) (w64 (0 - ((sp_ref03_bounds (sp_ref03_move_rects a1 0 0 a0_Rects)).2.1))) a0_Rects a0_Cuts a0_Forms a0_Bends).2.2.2))) (Q ([]) ([]) ([]) ([]) 4) (Q ((sp_ref03_move_flat a1 (w64 (0 - ((sp_ref03_bounds (sp_ref03_move_rects a1 0 0 a0_Rects)).1))) (w64 (0 - ((sp_ref03_bounds (sp_ref03_move_rects a1 0 0 a0_Rects)).2.1))) a0_Rects a0_Cuts a0_Forms a0_Bends).1) ((sp_ref03_move_flat a1 (w64 (0 - ((sp_ref03_bounds (sp_ref03_move_rects a1 0 0 a0_Rects)).1))) (w64 (0 - ((sp_ref03_bounds (sp_ref03_move_rects a1 0 0 a0_Rects)).2.1))) a0_Rects a0_Cuts a0_Forms a0_Bends).2.1) ((sp_ref03_move_flat a1 (w64 (0 - ((sp_ref03_bounds (sp_ref03_move_rects a1 0 0 a0_Rects)).1))) (w64 (0 - ((sp_ref03_bounds (sp_ref03_move_rects a1 0 0 a0_Rects)).2.1))) a0_Rects a0_Cuts a0_Forms a0_Bends).2.2.1) ((sp_ref03_move_flat a1 (w64 (0 - ((sp_ref03_bounds (sp_ref03_move_rects a1 0 0 a0_Rects)).1))) (w64 (0 - ((sp_ref03_bounds (sp_ref03_move_rects a1 0 0 a0_Rects)).2.1))) a0_Rects a0_Cuts a0_Forms a0_Bends).2.2.2) 0))))))
def w_ref03_Quarter (F : Nat) (a0_Rects : List Rect) (a0_Cuts : List Rect) (a0_Forms : List Rect) (a0_Bends : List Bend) (a1 : Int) (Q : List Rect → List Rect → List Rect → List Bend → Int → Prop) : Prop := g_ref03_Quarter_e a0_Rects a0_Cuts a0_Forms a0_Bends a1 Q
def pre_ref03_Quarter (a0_Rects : List Rect) (a0_Cuts : List Rect) (a0_Forms : List Rect) (a0_Bends : List Bend) (a1 : Int) : Prop := (pre_ref03_Whole a0_Rects a0_Cuts a0_Forms a0_Bends) ∧ (cond ((!(sp_ref03_Whole a0_Rects a0_Cuts a0_Forms a0_Bends)) || (!(sp_ref03_within a1 0 3))) (True) ((pre_ref03_move_rects a1 0 0 a0_Rects) ∧ (pre_ref03_bounds (sp_ref03_move_rects a1 0 0 a0_Rects)) ∧ (pre_ref03_move_flat a1 (w64 (0 - ((sp_ref03_bounds (sp_ref03_move_rects a1 0 0 a0_Rects)).1))) (w64 (0 - ((sp_ref03_bounds (sp_ref03_move_rects a1 0 0 a0_Rects)).2.1))) a0_Rects a0_Cuts a0_Forms a0_Bends) ∧ (pre_ref03_Whole ((sp_ref03_move_flat a1 (w64 (0 - ((sp_ref03_bounds (sp_ref03_move_rects a1 0 0 a0_Rects)).1))) (w64 (0 - ((sp_ref03_bounds (sp_ref03_move_rects a1 0 0 a0_Rects)).2.1))) a0_Rects a0_Cuts a0_Forms a0_Bends).1) ((sp_ref03_move_flat a1 (w64 (0 - ((sp_ref03_bounds (sp_ref03_move_rects a1 0 0 a0_Rects)).1))) (w64 (0 - ((sp_ref03_bounds (sp_ref03_move_rects a1 0 0 a0_Rects)).2.1))) a0_Rects a0_Cuts a0_Forms a0_Bends).2.1) ((sp_ref03_move_flat a1 (w64 (0 - ((sp_ref03_bounds (sp_ref03_move_rects a1 0 0 a0_Rects)).1))) (w64 (0 - ((sp_ref03_bounds (sp_ref03_move_rects a1 0 0 a0_Rects)).2.1))) a0_Rects a0_Cuts a0_Forms a0_Bends).2.2.1) ((sp_ref03_move_flat a1 (w64 (0 - ((sp_ref03_bounds (sp_ref03_move_rects a1 0 0 a0_Rects)).1))) (w64 (0 - ((sp_ref03_bounds (sp_ref03_move_rects a1 0 0 a0_Rects)).2.1))) a0_Rects a0_Cuts a0_Forms a0_Bends).2.2.2))))
def sp_ref03_Quarter (a0_Rects : List Rect) (a0_Cuts : List Rect) (a0_Forms : List Rect) (a0_Bends : List Bend) (a1 : Int) : (List Rect) × (List Rect) × (List Rect) × (List Bend) × Int := cond ((!(sp_ref03_Whole a0_Rects a0_Cuts a0_Forms a0_Bends)) || (!(sp_ref03_within a1 0 3))) (([], [], [], [], 1)) (cond (!(sp_ref03_Whole ((sp_ref03_move_flat a1 (w64 (0 - ((sp_ref03_bounds (sp_ref03_move_rects a1 0 0 a0_Rects)).1))) (w64 (0 - ((sp_ref03_bounds (sp_ref03_move_rects a1 0 0 a0_Rects)).2.1))) a0_Rects a0_Cuts a0_Forms a0_Bends).1) ((sp_ref03_move_flat a1 (w64 (0 - ((sp_ref03_bounds (sp_ref03_move_rects a1 0 0 a0_Rects)).1))) (w64 (0 - ((sp_ref03_bounds (sp_ref03_move_rects a1 0 0 a0_Rects)).2.1))) a0_Rects a0_Cuts a0_Forms a0_Bends).2.1) ((sp_ref03_move_flat a1 (w64 (0 - ((sp_ref03_bounds (sp_ref03_move_rects a1 0 0 a0_Rects)).1))) (w64 (0 - ((sp_ref03_bounds (sp_ref03_move_rects a1 0 0 a0_Rects)).2.1))) a0_Rects a0_Cuts a0_Forms a0_Bends).2.2.1) ((sp_ref03_move_flat a1 (w64 (0 - ((sp_ref03_bounds (sp_ref03_move_rects a1 0 0 a0_Rects)).1))) (w64 (0 - ((sp_ref03_bounds (sp_ref03_move_rects a1 0 0 a0_Rects)).2.1))) a0_Rects a0_Cuts a0_Forms a0_Bends).2.2.2))) (([], [], [], [], 4)) (((sp_ref03_move_flat a1 (w64 (0 - ((sp_ref03_bounds (sp_ref03_move_rects a1 0 0 a0_Rects)).1))) (w64 (0 - ((sp_ref03_bounds (sp_ref03_move_rects a1 0 0 a0_Rects)).2.1))) a0_Rects a0_Cuts a0_Forms a0_Bends).1, (sp_ref03_move_flat a1 (w64 (0 - ((sp_ref03_bounds (sp_ref03_move_rects a1 0 0 a0_Rects)).1))) (w64 (0 - ((sp_ref03_bounds (sp_ref03_move_rects a1 0 0 a0_Rects)).2.1))) a0_Rects a0_Cuts a0_Forms a0_Bends).2.1, (sp_ref03_move_flat a1 (w64 (0 - ((sp_ref03_bounds (sp_ref03_move_rects a1 0 0 a0_Rects)).1))) (w64 (0 - ((sp_ref03_bounds (sp_ref03_move_rects a1 0 0 a0_Rects)).2.1))) a0_Rects a0_Cuts a0_Forms a0_Bends).2.2.1, (sp_ref03_move_flat a1 (w64 (0 - ((sp_ref03_bounds (sp_ref03_move_rects a1 0 0 a0_Rects)).1))) (w64 (0 - ((sp_ref03_bounds (sp_ref03_move_rects a1 0 0 a0_Rects)).2.1))) a0_Rects a0_Cuts a0_Forms a0_Bends).2.2.2, 0)))
theorem ok_ref03_Quarter (a0_Rects : List Rect) (a0_Cuts : List Rect) (a0_Forms : List Rect) (a0_Bends : List Bend) (a1 : Int) (hp : pre_ref03_Quarter a0_Rects a0_Cuts a0_Forms a0_Bends a1) : ∃ F, ∀ Q : List Rect → List Rect → List Rect → List Bend → Int → Prop, Q ((sp_ref03_Quarter a0_Rects a0_Cuts a0_Forms a0_Bends a1).1) ((sp_ref03_Quarter a0_Rects a0_Cuts a0_Forms a0_Bends a1).2.1) ((sp_ref03_Quarter a0_Rects a0_Cuts a0_Forms a0_Bends a1).2.2.1) ((sp_ref03_Quarter a0_Rects a0_Cuts a0_Forms a0_Bends a1).2.2.2.1) ((sp_ref03_Quarter a0_Rects a0_Cuts a0_Forms a0_Bends a1).2.2.2.2) → w_ref03_Quarter F a0_Rects a0_Cuts a0_Forms a0_Bends a1 Q := by
  refine ⟨0, fun Q h => ?_⟩
  unfold w_ref03_Quarter g_ref03_Quarter_e
  unfold sp_ref03_Quarter at h
  unfold pre_ref03_Quarter at hp
  obtain ⟨hc0_0, hp⟩ := hp
  refine ⟨hc0_0, ?_⟩
  cases hb1 : (((!(sp_ref03_Whole a0_Rects a0_Cuts a0_Forms a0_Bends)) || (!(sp_ref03_within a1 0 3))))
  · try simp only [hb1, cond_false] at h hp ⊢
    obtain ⟨hc2_0, hc2_1, hp⟩ := hp
    refine ⟨⟨hc2_0, hc2_1⟩, ?_⟩
    obtain ⟨hc3_0, hp⟩ := hp
    refine ⟨hc3_0, ?_⟩
    have hc4_0 := hp
    refine ⟨hc4_0, ?_⟩
    cases hb5 : (!(sp_ref03_Whole ((sp_ref03_move_flat a1 (w64 (0 - ((sp_ref03_bounds (sp_ref03_move_rects a1 0 0 a0_Rects)).1))) (w64 (0 - ((sp_ref03_bounds (sp_ref03_move_rects a1 0 0 a0_Rects)).2.1))) a0_Rects a0_Cuts a0_Forms a0_Bends).1) ((sp_ref03_move_flat a1 (w64 (0 - ((sp_ref03_bounds (sp_ref03_move_rects a1 0 0 a0_Rects)).1))) (w64 (0 - ((sp_ref03_bounds (sp_ref03_move_rects a1 0 0 a0_Rects)).2.1))) a0_Rects a0_Cuts a0_Forms a0_Bends).2.1) ((sp_ref03_move_flat a1 (w64 (0 - ((sp_ref03_bounds (sp_ref03_move_rects a1 0 0 a0_Rects)).1))) (w64 (0 - ((sp_ref03_bounds (sp_ref03_move_rects a1 0 0 a0_Rects)).2.1))) a0_Rects a0_Cuts a0_Forms a0_Bends).2.2.1) ((sp_ref03_move_flat a1 (w64 (0 - ((sp_ref03_bounds (sp_ref03_move_rects a1 0 0 a0_Rects)).1))) (w64 (0 - ((sp_ref03_bounds (sp_ref03_move_rects a1 0 0 a0_Rects)).2.1))) a0_Rects a0_Cuts a0_Forms a0_Bends).2.2.2)))
    · try simp only [hb5, cond_false] at h ⊢
      exact h
    · try simp only [hb5, cond_true] at h ⊢
      exact h
  · try simp only [hb1, cond_true] at h hp ⊢
    exact h
/-! ### sheetmetal/flat.Settle -/
def M_flat_Settle : Nat → Nat → Canon UU := fun b r => ⟨[], [], [], []⟩
def g_flat_Settle_e (a0_Rects : List Rect) (a0_Cuts : List Rect) (a0_Forms : List Rect) (a0_Bends : List Bend) (Q : List Rect → List Rect → List Rect → List Bend → Int → Prop) : Prop := ((pre_flat_check a0_Rects a0_Cuts a0_Forms a0_Bends) ∧ cond ((sp_flat_check a0_Rects a0_Cuts a0_Forms a0_Bends) != 0) (Q ([]) ([]) ([]) ([]) (sp_flat_check a0_Rects a0_Cuts a0_Forms a0_Bends)) (((pre_flat_settled a0_Rects a0_Cuts a0_Forms a0_Bends) ∧ Q ((sp_flat_settled a0_Rects a0_Cuts a0_Forms a0_Bends).1) ((sp_flat_settled a0_Rects a0_Cuts a0_Forms a0_Bends).2.1) ((sp_flat_settled a0_Rects a0_Cuts a0_Forms a0_Bends).2.2.1) ((sp_flat_settled a0_Rects a0_Cuts a0_Forms a0_Bends).2.2.2.1) ((sp_flat_settled a0_Rects a0_Cuts a0_Forms a0_Bends).2.2.2.2))))
def w_flat_Settle (F : Nat) (a0_Rects : List Rect) (a0_Cuts : List Rect) (a0_Forms : List Rect) (a0_Bends : List Bend) (Q : List Rect → List Rect → List Rect → List Bend → Int → Prop) : Prop := g_flat_Settle_e a0_Rects a0_Cuts a0_Forms a0_Bends Q
def pre_flat_Settle (a0_Rects : List Rect) (a0_Cuts : List Rect) (a0_Forms : List Rect) (a0_Bends : List Bend) : Prop := (pre_flat_check a0_Rects a0_Cuts a0_Forms a0_Bends) ∧ (cond ((sp_flat_check a0_Rects a0_Cuts a0_Forms a0_Bends) != 0) (True) ((pre_flat_settled a0_Rects a0_Cuts a0_Forms a0_Bends)))
def sp_flat_Settle (a0_Rects : List Rect) (a0_Cuts : List Rect) (a0_Forms : List Rect) (a0_Bends : List Bend) : (List Rect) × (List Rect) × (List Rect) × (List Bend) × Int := cond ((sp_flat_check a0_Rects a0_Cuts a0_Forms a0_Bends) != 0) (([], [], [], [], (sp_flat_check a0_Rects a0_Cuts a0_Forms a0_Bends))) (((sp_flat_settled a0_Rects a0_Cuts a0_Forms a0_Bends).1, (sp_flat_settled a0_Rects a0_Cuts a0_Forms a0_Bends).2.1, (sp_flat_settled a0_Rects a0_Cuts a0_Forms a0_Bends).2.2.1, (sp_flat_settled a0_Rects a0_Cuts a0_Forms a0_Bends).2.2.2.1, (sp_flat_settled a0_Rects a0_Cuts a0_Forms a0_Bends).2.2.2.2))
theorem ok_flat_Settle (a0_Rects : List Rect) (a0_Cuts : List Rect) (a0_Forms : List Rect) (a0_Bends : List Bend) (hp : pre_flat_Settle a0_Rects a0_Cuts a0_Forms a0_Bends) : ∃ F, ∀ Q : List Rect → List Rect → List Rect → List Bend → Int → Prop, Q ((sp_flat_Settle a0_Rects a0_Cuts a0_Forms a0_Bends).1) ((sp_flat_Settle a0_Rects a0_Cuts a0_Forms a0_Bends).2.1) ((sp_flat_Settle a0_Rects a0_Cuts a0_Forms a0_Bends).2.2.1) ((sp_flat_Settle a0_Rects a0_Cuts a0_Forms a0_Bends).2.2.2.1) ((sp_flat_Settle a0_Rects a0_Cuts a0_Forms a0_Bends).2.2.2.2) → w_flat_Settle F a0_Rects a0_Cuts a0_Forms a0_Bends Q := by
  refine ⟨0, fun Q h => ?_⟩
  unfold w_flat_Settle g_flat_Settle_e
  unfold sp_flat_Settle at h
  unfold pre_flat_Settle at hp
  obtain ⟨hc0_0, hp⟩ := hp
  refine ⟨hc0_0, ?_⟩
  cases hb1 : ((sp_flat_check a0_Rects a0_Cuts a0_Forms a0_Bends) != 0)
  · try simp only [hb1, cond_false] at h hp ⊢
    have hc2_0 := hp
    refine ⟨hc2_0, ?_⟩
    exact h
  · try simp only [hb1, cond_true] at h hp ⊢
    exact h
/-! ### sheetmetal/flat.Quarter -/
def M_Q0 : Nat → Nat → Canon UU := fun b r => cond (Nat.beq b 0) ⟨[1, 2, 4, 7, 25, 26, 47, 48, 49, 50, 51, 52, 53, 56, 57, 58, 59, 60, 61, 62], [2, 4, 7], [], []⟩ (cond (Nat.beq b 2) ⟨[1, 4, 7, 32, 33, 34], [4, 7], [], []⟩ (⟨[], [], [], []⟩))
def st_Q0_0 (t1 : Int) (t25 : Int) (t26 : Int) (c2_0 : List Rect) (c2_1 : List Rect) (c2_2 : List Rect) (c2_3 : List Bend) (c7_0 : List Rect) (c7_1 : List Rect) (c7_2 : List Rect) (c7_3 : List Bend) : ASt UU := ⟨fun u => cond (Nat.beq u 1) (.int .i64 t1) (cond (Nat.beq u 2) (.ptr 2 0) (cond (Nat.beq u 4) (.ptr 4 0) (cond (Nat.beq u 7) (.ptr 7 0) (cond (Nat.beq u 25) (.int .i64 t25) (cond (Nat.beq u 26) (.int .i64 t26) (cond (Nat.beq u 47) (.raw undef) (cond (Nat.beq u 48) (.raw undef) (cond (Nat.beq u 49) (.raw undef) (cond (Nat.beq u 50) (.raw undef) (cond (Nat.beq u 51) (.raw undef) (cond (Nat.beq u 52) (.raw undef) (cond (Nat.beq u 53) (.raw undef) (cond (Nat.beq u 56) (.raw undef) (cond (Nat.beq u 57) (.raw undef) (cond (Nat.beq u 58) (.raw undef) (cond (Nat.beq u 59) (.raw undef) (cond (Nat.beq u 60) (.raw undef) (cond (Nat.beq u 61) (.raw undef) (cond (Nat.beq u 62) (.raw undef) (.any)))))))))))))))))))), fun u => cond (Nat.beq u 2) (some (.cells [.sl .rect c2_0, .sl .rect c2_1, .sl .rect c2_2, .sl .bend c2_3])) (cond (Nat.beq u 4) (some (.cells [.nils, .nils, .nils, .nils])) (cond (Nat.beq u 7) (some (.cells [.sl .rect c7_0, .sl .rect c7_1, .sl .rect c7_2, .sl .bend c7_3])) (none)))⟩
def st_Q0_1 (t1 : Int) (t32 : List Bend) (t33 : Int) (t34 : Int) (c7_0 : List Rect) (c7_1 : List Rect) (c7_2 : List Rect) (c7_3 : List Bend) : ASt UU := ⟨fun u => cond (Nat.beq u 1) (.int .i64 t1) (cond (Nat.beq u 4) (.ptr 4 0) (cond (Nat.beq u 7) (.ptr 7 0) (cond (Nat.beq u 32) (.sl .bend t32) (cond (Nat.beq u 33) (.int .i64 t33) (cond (Nat.beq u 34) (.int .i64 t34) (.any)))))), fun u => cond (Nat.beq u 4) (some (.cells [.nils, .nils, .nils, .nils])) (cond (Nat.beq u 7) (some (.cells [.sl .rect c7_0, .sl .rect c7_1, .sl .rect c7_2, .sl .bend c7_3])) (none))⟩
def g_Q0_e (a0_Rects : List Rect) (a0_Cuts : List Rect) (a0_Forms : List Rect) (a0_Bends : List Bend) (Q : List Rect → List Rect → List Rect → List Bend → Int → Prop) (i0 : Int → Int → Int → List Rect → List Rect → List Rect → List Bend → List Rect → List Rect → List Rect → List Bend → Prop) : Prop := (let r0 := (sp_flat_check a0_Rects a0_Cuts a0_Forms a0_Bends); ((pre_flat_check a0_Rects a0_Cuts a0_Forms a0_Bends) ∧ cond (((r0 != 0) || false) || false) (Q ([]) ([]) ([]) ([]) 1) (i0 0 0 0 a0_Rects a0_Cuts a0_Forms a0_Bends a0_Rects a0_Cuts a0_Forms a0_Bends)))
def g_Q0_s0 (rec : Int → Int → Int → List Rect → List Rect → List Rect → List Bend → List Rect → List Rect → List Rect → List Bend → Prop) (x0 : Int → Int → Int → List Rect → List Rect → List Rect → List Bend → List Rect → List Rect → List Rect → List Bend → Prop) (t1 : Int) (t25 : Int) (t26 : Int) (c2_0 : List Rect) (c2_1 : List Rect) (c2_2 : List Rect) (c2_3 : List Bend) (c7_0 : List Rect) (c7_1 : List Rect) (c7_2 : List Rect) (c7_3 : List Bend) : Prop := cond (decide (t26 < t25)) ((let r0 := (sp_flat_quarter c7_0 c7_1 c7_2 c7_3); ((pre_flat_quarter c7_0 c7_1 c7_2 c7_3) ∧ False))) (x0 t1 t25 t26 c2_0 c2_1 c2_2 c2_3 c7_0 c7_1 c7_2 c7_3)
def g_Q0_c0_0 (Q : List Rect → List Rect → List Rect → List Bend → Int → Prop) (t1 : Int) (t25 : Int) (t26 : Int) (c2_0 : List Rect) (c2_1 : List Rect) (c2_2 : List Rect) (c2_3 : List Bend) (c7_0 : List Rect) (c7_1 : List Rect) (c7_2 : List Rect) (c7_3 : List Bend) (i1 : Int → List Bend → Int → Int → List Rect → List Rect → List Rect → List Bend → Prop) : Prop := i1 t1 c2_3 (c2_3.length : Int) 0 c7_0 c7_1 c7_2 c7_3
def g_Q0_s1 (rec : Int → List Bend → Int → Int → List Rect → List Rect → List Rect → List Bend → Prop) (x0 : Int → List Bend → Int → Int → List Rect → List Rect → List Rect → List Bend → Prop) (t1 : Int) (t32 : List Bend) (t33 : Int) (t34 : Int) (c7_0 : List Rect) (c7_1 : List Rect) (c7_2 : List Rect) (c7_3 : List Bend) : Prop := cond (decide (t34 < t33)) ((let e0 := (t32.getD t34.toNat default); ((0 ≤ t34 ∧ t34 < t32.length) ∧ (let e1 := (c7_3.getD t34.toNat default); ((0 ≤ t34 ∧ t34 < c7_3.length) ∧ cond (((decide (0 < t1)) && (decide (e0.Line_X1 ≤ e0.Line_X2))) && (decide (e0.Line_Y1 ≤ e0.Line_Y2))) (False) (rec t1 t32 t33 (w64 (t34 + 1)) c7_0 c7_1 c7_2 c7_3)))))) (x0 t1 t32 t33 t34 c7_0 c7_1 c7_2 c7_3)
def g_Q0_c1_0 (Q : List Rect → List Rect → List Rect → List Bend → Int → Prop) (t1 : Int) (t32 : List Bend) (t33 : Int) (t34 : Int) (c7_0 : List Rect) (c7_1 : List Rect) (c7_2 : List Rect) (c7_3 : List Bend) : Prop := (let r0 := (sp_flat_settled c7_0 c7_1 c7_2 c7_3); ((pre_flat_settled c7_0 c7_1 c7_2 c7_3) ∧ Q r0.1 r0.2.1 r0.2.2.1 r0.2.2.2.1 r0.2.2.2.2))
def w_Q0_1 (F : Nat) (x0 : Int → List Bend → Int → Int → List Rect → List Rect → List Rect → List Bend → Prop) : Nat → Int → List Bend → Int → Int → List Rect → List Rect → List Rect → List Bend → Prop
  | 0, _, _, _, _, _, _, _, _ => False
  | n + 1, t1, t32, t33, t34, c7_0, c7_1, c7_2, c7_3 => g_Q0_s1 (w_Q0_1 F x0 n) x0 t1 t32 t33 t34 c7_0 c7_1 c7_2 c7_3
def n_Q0_1 (F : Nat) (Q : List Rect → List Rect → List Rect → List Bend → Int → Prop) (t1 : Int) (t32 : List Bend) (t33 : Int) (t34 : Int) (c7_0 : List Rect) (c7_1 : List Rect) (c7_2 : List Rect) (c7_3 : List Bend) : Prop := w_Q0_1 F (fun t1 t32 t33 t34 c7_0 c7_1 c7_2 c7_3 => g_Q0_c1_0 Q t1 t32 t33 t34 c7_0 c7_1 c7_2 c7_3) F t1 t32 t33 t34 c7_0 c7_1 c7_2 c7_3
def w_Q0_0 (F : Nat) (x0 : Int → Int → Int → List Rect → List Rect → List Rect → List Bend → List Rect → List Rect → List Rect → List Bend → Prop) : Nat → Int → Int → Int → List Rect → List Rect → List Rect → List Bend → List Rect → List Rect → List Rect → List Bend → Prop
  | 0, _, _, _, _, _, _, _, _, _, _, _ => False
  | n + 1, t1, t25, t26, c2_0, c2_1, c2_2, c2_3, c7_0, c7_1, c7_2, c7_3 => g_Q0_s0 (w_Q0_0 F x0 n) x0 t1 t25 t26 c2_0 c2_1 c2_2 c2_3 c7_0 c7_1 c7_2 c7_3
def n_Q0_0 (F : Nat) (Q : List Rect → List Rect → List Rect → List Bend → Int → Prop) (t1 : Int) (t25 : Int) (t26 : Int) (c2_0 : List Rect) (c2_1 : List Rect) (c2_2 : List Rect) (c2_3 : List Bend) (c7_0 : List Rect) (c7_1 : List Rect) (c7_2 : List Rect) (c7_3 : List Bend) : Prop := w_Q0_0 F (fun t1 t25 t26 c2_0 c2_1 c2_2 c2_3 c7_0 c7_1 c7_2 c7_3 => g_Q0_c0_0 Q t1 t25 t26 c2_0 c2_1 c2_2 c2_3 c7_0 c7_1 c7_2 c7_3 (n_Q0_1 F Q)) F t1 t25 t26 c2_0 c2_1 c2_2 c2_3 c7_0 c7_1 c7_2 c7_3
def w_Q0 (F : Nat) (a0_Rects : List Rect) (a0_Cuts : List Rect) (a0_Forms : List Rect) (a0_Bends : List Bend) (Q : List Rect → List Rect → List Rect → List Bend → Int → Prop) : Prop := g_Q0_e a0_Rects a0_Cuts a0_Forms a0_Bends Q (n_Q0_0 F Q)
/-! ### sheetmetal/flat.Quarter -/
def M_Q1 : Nat → Nat → Canon UU := fun b r => cond (Nat.beq b 0) (cond (Nat.beq r 0) ⟨[1, 2, 4, 7, 25, 26, 47, 48, 49, 50, 51, 52, 53, 56, 57, 58, 59, 60, 61, 62], [2, 4, 7], [], []⟩ (⟨[1, 2, 4, 7, 25, 26, 47, 48, 49, 50, 51, 52, 53, 56, 57, 58, 59, 60, 61, 62], [2, 4, 7], [(.cell 7 0, 108, .rect), (.cell 7 1, 109, .rect), (.cell 7 2, 110, .rect), (.cell 7 3, 111, .bend)], []⟩)) (cond (Nat.beq b 2) ⟨[1, 4, 7, 32, 33, 34], [4, 7], [(.cell 7 0, 108, .rect), (.cell 7 1, 109, .rect), (.cell 7 2, 110, .rect), (.cell 7 3, 111, .bend)], []⟩ (⟨[], [], [], []⟩))
def st_Q1_0 (t1 : Int) (t25 : Int) (t26 : Int) (c2_0 : List Rect) (c2_1 : List Rect) (c2_2 : List Rect) (c2_3 : List Bend) (c7_0 : List Rect) (c7_1 : List Rect) (c7_2 : List Rect) (c7_3 : List Bend) : ASt UU := ⟨fun u => cond (Nat.beq u 1) (.int .i64 t1) (cond (Nat.beq u 2) (.ptr 2 0) (cond (Nat.beq u 4) (.ptr 4 0) (cond (Nat.beq u 7) (.ptr 7 0) (cond (Nat.beq u 25) (.int .i64 t25) (cond (Nat.beq u 26) (.int .i64 t26) (cond (Nat.beq u 47) (.raw undef) (cond (Nat.beq u 48) (.raw undef) (cond (Nat.beq u 49) (.raw undef) (cond (Nat.beq u 50) (.raw undef) (cond (Nat.beq u 51) (.raw undef) (cond (Nat.beq u 52) (.raw undef) (cond (Nat.beq u 53) (.raw undef) (cond (Nat.beq u 56) (.raw undef) (cond (Nat.beq u 57) (.raw undef) (cond (Nat.beq u 58) (.raw undef) (cond (Nat.beq u 59) (.raw undef) (cond (Nat.beq u 60) (.raw undef) (cond (Nat.beq u 61) (.raw undef) (cond (Nat.beq u 62) (.raw undef) (.any)))))))))))))))))))), fun u => cond (Nat.beq u 2) (some (.cells [.sl .rect c2_0, .sl .rect c2_1, .sl .rect c2_2, .sl .bend c2_3])) (cond (Nat.beq u 4) (some (.cells [.nils, .nils, .nils, .nils])) (cond (Nat.beq u 7) (some (.cells [.sl .rect c7_0, .sl .rect c7_1, .sl .rect c7_2, .sl .bend c7_3])) (none)))⟩
def st_Q1_0_1 (t1 : Int) (t25 : Int) (t26 : Int) (c2_0 : List Rect) (c2_1 : List Rect) (c2_2 : List Rect) (c2_3 : List Bend) (l108 : List Rect) (l109 : List Rect) (l110 : List Rect) (l111 : List Bend) : ASt UU := ⟨fun u => cond (Nat.beq u 1) (.int .i64 t1) (cond (Nat.beq u 2) (.ptr 2 0) (cond (Nat.beq u 4) (.ptr 4 0) (cond (Nat.beq u 7) (.ptr 7 0) (cond (Nat.beq u 25) (.int .i64 t25) (cond (Nat.beq u 26) (.int .i64 t26) (cond (Nat.beq u 47) (.raw undef) (cond (Nat.beq u 48) (.raw undef) (cond (Nat.beq u 49) (.raw undef) (cond (Nat.beq u 50) (.raw undef) (cond (Nat.beq u 51) (.raw undef) (cond (Nat.beq u 52) (.raw undef) (cond (Nat.beq u 53) (.raw undef) (cond (Nat.beq u 56) (.raw undef) (cond (Nat.beq u 57) (.raw undef) (cond (Nat.beq u 58) (.raw undef) (cond (Nat.beq u 59) (.raw undef) (cond (Nat.beq u 60) (.raw undef) (cond (Nat.beq u 61) (.raw undef) (cond (Nat.beq u 62) (.raw undef) (.any)))))))))))))))))))), fun u => cond (Nat.beq u 108) (some (.row .rect 0 l108)) (cond (Nat.beq u 109) (some (.row .rect 0 l109)) (cond (Nat.beq u 110) (some (.row .rect 0 l110)) (cond (Nat.beq u 111) (some (.row .bend 0 l111)) (cond (Nat.beq u 2) (some (.cells [.sl .rect c2_0, .sl .rect c2_1, .sl .rect c2_2, .sl .bend c2_3])) (cond (Nat.beq u 4) (some (.cells [.nils, .nils, .nils, .nils])) (cond (Nat.beq u 7) (some (.cells [.osl 108 0, .osl 109 0, .osl 110 0, .osl 111 0])) (none)))))))⟩
def st_Q1_1 (t1 : Int) (t25 : Int) (t26 : Int) (c2_0 : List Rect) (c2_1 : List Rect) (c2_2 : List Rect) (c2_3 : List Bend) (l108 : List Rect) (l109 : List Rect) (l110 : List Rect) (l111 : List Bend) : ASt UU := ⟨fun u => cond (Nat.beq u 1) (.int .i64 t1) (cond (Nat.beq u 2) (.ptr 2 0) (cond (Nat.beq u 4) (.ptr 4 0) (cond (Nat.beq u 7) (.ptr 7 0) (cond (Nat.beq u 25) (.int .i64 t25) (cond (Nat.beq u 26) (.int .i64 t26) (cond (Nat.beq u 47) (.raw undef) (cond (Nat.beq u 48) (.raw undef) (cond (Nat.beq u 49) (.raw undef) (cond (Nat.beq u 50) (.raw undef) (cond (Nat.beq u 51) (.raw undef) (cond (Nat.beq u 52) (.raw undef) (cond (Nat.beq u 53) (.raw undef) (cond (Nat.beq u 56) (.raw undef) (cond (Nat.beq u 57) (.raw undef) (cond (Nat.beq u 58) (.raw undef) (cond (Nat.beq u 59) (.raw undef) (cond (Nat.beq u 60) (.raw undef) (cond (Nat.beq u 61) (.raw undef) (cond (Nat.beq u 62) (.raw undef) (.any)))))))))))))))))))), fun u => cond (Nat.beq u 108) (some (.row .rect 0 l108)) (cond (Nat.beq u 109) (some (.row .rect 0 l109)) (cond (Nat.beq u 110) (some (.row .rect 0 l110)) (cond (Nat.beq u 111) (some (.row .bend 0 l111)) (cond (Nat.beq u 2) (some (.cells [.sl .rect c2_0, .sl .rect c2_1, .sl .rect c2_2, .sl .bend c2_3])) (cond (Nat.beq u 4) (some (.cells [.nils, .nils, .nils, .nils])) (cond (Nat.beq u 7) (some (.cells [.osl 108 0, .osl 109 0, .osl 110 0, .osl 111 0])) (none)))))))⟩
def st_Q1_2 (t1 : Int) (t32 : List Bend) (t33 : Int) (t34 : Int) (l108 : List Rect) (l109 : List Rect) (l110 : List Rect) (l111 : List Bend) : ASt UU := ⟨fun u => cond (Nat.beq u 1) (.int .i64 t1) (cond (Nat.beq u 4) (.ptr 4 0) (cond (Nat.beq u 7) (.ptr 7 0) (cond (Nat.beq u 32) (.sl .bend t32) (cond (Nat.beq u 33) (.int .i64 t33) (cond (Nat.beq u 34) (.int .i64 t34) (.any)))))), fun u => cond (Nat.beq u 108) (some (.row .rect 0 l108)) (cond (Nat.beq u 109) (some (.row .rect 0 l109)) (cond (Nat.beq u 110) (some (.row .rect 0 l110)) (cond (Nat.beq u 111) (some (.row .bend 0 l111)) (cond (Nat.beq u 4) (some (.cells [.nils, .nils, .nils, .nils])) (cond (Nat.beq u 7) (some (.cells [.osl 108 0, .osl 109 0, .osl 110 0, .osl 111 0])) (none))))))⟩
def g_Q1_e (a0_Rects : List Rect) (a0_Cuts : List Rect) (a0_Forms : List Rect) (a0_Bends : List Bend) (a1 : Int) (Q : List Rect → List Rect → List Rect → List Bend → Int → Prop) (i0 : Int → Int → Int → List Rect → List Rect → List Rect → List Bend → List Rect → List Rect → List Rect → List Bend → Prop) : Prop := (let r0 := (sp_flat_check a0_Rects a0_Cuts a0_Forms a0_Bends); ((pre_flat_check a0_Rects a0_Cuts a0_Forms a0_Bends) ∧ cond (((r0 != 0) || (decide (a1 < 0))) || (decide (3 < a1))) (Q ([]) ([]) ([]) ([]) 1) (i0 a1 a1 0 a0_Rects a0_Cuts a0_Forms a0_Bends a0_Rects a0_Cuts a0_Forms a0_Bends)))
def g_Q1_s0 (rec : Int → Int → Int → List Rect → List Rect → List Rect → List Bend → List Rect → List Rect → List Rect → List Bend → Prop) (x0 : Int → Int → Int → List Rect → List Rect → List Rect → List Bend → List Rect → List Rect → List Rect → List Bend → Prop) (x1 : Int → Int → Int → List Rect → List Rect → List Rect → List Bend → List Rect → List Rect → List Rect → List Bend → Prop) (t1 : Int) (t25 : Int) (t26 : Int) (c2_0 : List Rect) (c2_1 : List Rect) (c2_2 : List Rect) (c2_3 : List Bend) (c7_0 : List Rect) (c7_1 : List Rect) (c7_2 : List Rect) (c7_3 : List Bend) : Prop := cond (decide (t26 < t25)) ((let r0 := (sp_flat_quarter c7_0 c7_1 c7_2 c7_3); ((pre_flat_quarter c7_0 c7_1 c7_2 c7_3) ∧ rec t1 t25 (w64 (t26 + 1)) c2_0 c2_1 c2_2 c2_3 r0.1 r0.2.1 r0.2.2.1 r0.2.2.2))) (x0 t1 t25 t26 c2_0 c2_1 c2_2 c2_3 c7_0 c7_1 c7_2 c7_3)
def g_Q1_c0_0 (Q : List Rect → List Rect → List Rect → List Bend → Int → Prop) (t1 : Int) (t25 : Int) (t26 : Int) (c2_0 : List Rect) (c2_1 : List Rect) (c2_2 : List Rect) (c2_3 : List Bend) (c7_0 : List Rect) (c7_1 : List Rect) (c7_2 : List Rect) (c7_3 : List Bend) : Prop := False
def g_Q1_c0_1 (Q : List Rect → List Rect → List Rect → List Bend → Int → Prop) (t1 : Int) (t25 : Int) (t26 : Int) (c2_0 : List Rect) (c2_1 : List Rect) (c2_2 : List Rect) (c2_3 : List Bend) (l108 : List Rect) (l109 : List Rect) (l110 : List Rect) (l111 : List Bend) (i2 : Int → List Bend → Int → Int → List Rect → List Rect → List Rect → List Bend → Prop) : Prop := i2 t1 c2_3 (c2_3.length : Int) 0 l108 l109 l110 l111
def g_Q1_s1 (rec : Int → Int → Int → List Rect → List Rect → List Rect → List Bend → List Rect → List Rect → List Rect → List Bend → Prop) (x0 : Int → Int → Int → List Rect → List Rect → List Rect → List Bend → List Rect → List Rect → List Rect → List Bend → Prop) (x1 : Int → Int → Int → List Rect → List Rect → List Rect → List Bend → List Rect → List Rect → List Rect → List Bend → Prop) (t1 : Int) (t25 : Int) (t26 : Int) (c2_0 : List Rect) (c2_1 : List Rect) (c2_2 : List Rect) (c2_3 : List Bend) (l108 : List Rect) (l109 : List Rect) (l110 : List Rect) (l111 : List Bend) : Prop := cond (decide (t26 < t25)) ((let r0 := (sp_flat_quarter l108 l109 l110 l111); ((pre_flat_quarter l108 l109 l110 l111) ∧ rec t1 t25 (w64 (t26 + 1)) c2_0 c2_1 c2_2 c2_3 r0.1 r0.2.1 r0.2.2.1 r0.2.2.2))) (x1 t1 t25 t26 c2_0 c2_1 c2_2 c2_3 l108 l109 l110 l111)
def g_Q1_s2 (rec : Int → List Bend → Int → Int → List Rect → List Rect → List Rect → List Bend → Prop) (x0 : Int → List Bend → Int → Int → List Rect → List Rect → List Rect → List Bend → Prop) (t1 : Int) (t32 : List Bend) (t33 : Int) (t34 : Int) (l108 : List Rect) (l109 : List Rect) (l110 : List Rect) (l111 : List Bend) : Prop := cond (decide (t34 < t33)) ((let e0 := (t32.getD t34.toNat default); ((0 ≤ t34 ∧ t34 < t32.length) ∧ ((0 ≤ t34 ∧ t34 < l111.length) ∧ cond (((decide (0 < t1)) && (decide (e0.Line_X1 ≤ e0.Line_X2))) && (decide (e0.Line_Y1 ≤ e0.Line_Y2))) ((let v1 := mi ((l111.getD t34.toNat default).Line_X1) ((l111.getD t34.toNat default).Line_X2); (let v2 := mi ((l111.getD t34.toNat default).Line_Y1) ((l111.getD t34.toNat default).Line_Y2); (let v3 := ma ((l111.getD t34.toNat default).Line_X1) ((l111.getD t34.toNat default).Line_X2); (let v4 := ma ((l111.getD t34.toNat default).Line_Y1) ((l111.getD t34.toNat default).Line_Y2); rec t1 t32 t33 (w64 (t34 + 1)) l108 l109 l110 (l111.set t34.toNat (Bend.mk ((l111.getD t34.toNat default).Flange) ((l111.getD t34.toNat default).Parent) v1 v2 v3 v4 ((l111.getD t34.toNat default).Angle) ((l111.getD t34.toNat default).Deduct)))))))) (rec t1 t32 t33 (w64 (t34 + 1)) l108 l109 l110 l111))))) (x0 t1 t32 t33 t34 l108 l109 l110 l111)
def g_Q1_c2_0 (Q : List Rect → List Rect → List Rect → List Bend → Int → Prop) (t1 : Int) (t32 : List Bend) (t33 : Int) (t34 : Int) (l108 : List Rect) (l109 : List Rect) (l110 : List Rect) (l111 : List Bend) : Prop := (let r0 := (sp_flat_settled l108 l109 l110 l111); ((pre_flat_settled l108 l109 l110 l111) ∧ Q r0.1 r0.2.1 r0.2.2.1 r0.2.2.2.1 r0.2.2.2.2))
def w_Q1_2 (F : Nat) (x0 : Int → List Bend → Int → Int → List Rect → List Rect → List Rect → List Bend → Prop) : Nat → Int → List Bend → Int → Int → List Rect → List Rect → List Rect → List Bend → Prop
  | 0, _, _, _, _, _, _, _, _ => False
  | n + 1, t1, t32, t33, t34, l108, l109, l110, l111 => g_Q1_s2 (w_Q1_2 F x0 n) x0 t1 t32 t33 t34 l108 l109 l110 l111
def n_Q1_2 (F : Nat) (Q : List Rect → List Rect → List Rect → List Bend → Int → Prop) (t1 : Int) (t32 : List Bend) (t33 : Int) (t34 : Int) (l108 : List Rect) (l109 : List Rect) (l110 : List Rect) (l111 : List Bend) : Prop := w_Q1_2 F (fun t1 t32 t33 t34 l108 l109 l110 l111 => g_Q1_c2_0 Q t1 t32 t33 t34 l108 l109 l110 l111) (F + 1) t1 t32 t33 t34 l108 l109 l110 l111
def w_Q1_1 (F : Nat) (x0 : Int → Int → Int → List Rect → List Rect → List Rect → List Bend → List Rect → List Rect → List Rect → List Bend → Prop) (x1 : Int → Int → Int → List Rect → List Rect → List Rect → List Bend → List Rect → List Rect → List Rect → List Bend → Prop) : Nat → Int → Int → Int → List Rect → List Rect → List Rect → List Bend → List Rect → List Rect → List Rect → List Bend → Prop
  | 0, _, _, _, _, _, _, _, _, _, _, _ => False
  | n + 1, t1, t25, t26, c2_0, c2_1, c2_2, c2_3, l108, l109, l110, l111 => g_Q1_s1 (w_Q1_1 F x0 x1 n) x0 x1 t1 t25 t26 c2_0 c2_1 c2_2 c2_3 l108 l109 l110 l111
def w_Q1_0 (F : Nat) (x0 : Int → Int → Int → List Rect → List Rect → List Rect → List Bend → List Rect → List Rect → List Rect → List Bend → Prop) (x1 : Int → Int → Int → List Rect → List Rect → List Rect → List Bend → List Rect → List Rect → List Rect → List Bend → Prop) (t1 : Int) (t25 : Int) (t26 : Int) (c2_0 : List Rect) (c2_1 : List Rect) (c2_2 : List Rect) (c2_3 : List Bend) (c7_0 : List Rect) (c7_1 : List Rect) (c7_2 : List Rect) (c7_3 : List Bend) : Prop := g_Q1_s0 (w_Q1_1 F x0 x1 F) x0 x1 t1 t25 t26 c2_0 c2_1 c2_2 c2_3 c7_0 c7_1 c7_2 c7_3
def n_Q1_0 (F : Nat) (Q : List Rect → List Rect → List Rect → List Bend → Int → Prop) (t1 : Int) (t25 : Int) (t26 : Int) (c2_0 : List Rect) (c2_1 : List Rect) (c2_2 : List Rect) (c2_3 : List Bend) (c7_0 : List Rect) (c7_1 : List Rect) (c7_2 : List Rect) (c7_3 : List Bend) : Prop := w_Q1_0 F (fun t1 t25 t26 c2_0 c2_1 c2_2 c2_3 c7_0 c7_1 c7_2 c7_3 => g_Q1_c0_0 Q t1 t25 t26 c2_0 c2_1 c2_2 c2_3 c7_0 c7_1 c7_2 c7_3) (fun t1 t25 t26 c2_0 c2_1 c2_2 c2_3 l108 l109 l110 l111 => g_Q1_c0_1 Q t1 t25 t26 c2_0 c2_1 c2_2 c2_3 l108 l109 l110 l111 (n_Q1_2 F Q))  t1 t25 t26 c2_0 c2_1 c2_2 c2_3 c7_0 c7_1 c7_2 c7_3
def w_Q1 (F : Nat) (a0_Rects : List Rect) (a0_Cuts : List Rect) (a0_Forms : List Rect) (a0_Bends : List Bend) (a1 : Int) (Q : List Rect → List Rect → List Rect → List Bend → Int → Prop) : Prop := g_Q1_e a0_Rects a0_Cuts a0_Forms a0_Bends a1 Q (n_Q1_0 F Q)
/-! ### sheetmetal/sheetmetallaw03.Long -/
def M_law03_Long : Nat → Nat → Canon UU := fun b r => ⟨[], [], [], []⟩
def g_law03_Long_e (a0_Rects : List Rect) (a0_Cuts : List Rect) (a0_Forms : List Rect) (a0_Bends : List Bend) (Q : Bool → Prop) : Prop := Q ((((decide (60 < (a0_Rects.length : Int))) || (decide (60 < (a0_Cuts.length : Int)))) || (decide (60 < (a0_Forms.length : Int)))) || (decide (60 < (a0_Bends.length : Int))))
def w_law03_Long (F : Nat) (a0_Rects : List Rect) (a0_Cuts : List Rect) (a0_Forms : List Rect) (a0_Bends : List Bend) (Q : Bool → Prop) : Prop := g_law03_Long_e a0_Rects a0_Cuts a0_Forms a0_Bends Q
def sp_law03_Long (a0_Rects : List Rect) (a0_Cuts : List Rect) (a0_Forms : List Rect) (a0_Bends : List Bend) : Bool := ((((decide (60 < (a0_Rects.length : Int))) || (decide (60 < (a0_Cuts.length : Int)))) || (decide (60 < (a0_Forms.length : Int)))) || (decide (60 < (a0_Bends.length : Int))))
theorem ok_law03_Long (a0_Rects : List Rect) (a0_Cuts : List Rect) (a0_Forms : List Rect) (a0_Bends : List Bend) : ∃ F, ∀ Q : Bool → Prop, Q (sp_law03_Long a0_Rects a0_Cuts a0_Forms a0_Bends) → w_law03_Long F a0_Rects a0_Cuts a0_Forms a0_Bends Q := by
  refine ⟨0, fun Q h => ?_⟩
  unfold w_law03_Long g_law03_Long_e
  unfold sp_law03_Long at h
  exact h
end
end Go.Proofs.Ytohecfbnmmgimaa

namespace Go.Proofs.Ytohecfbnmmgimaa
open Go.Vm Go.RowKit
set_option linter.unusedVariables false
noncomputable section

def ordB (e : Bend) : Bool := decide (e.Line_X1 ≤ e.Line_X2) && decide (e.Line_Y1 ≤ e.Line_Y2)
def sortL (b : Bend) : Bend := Bend.mk b.Flange b.Parent (mi b.Line_X1 b.Line_X2) (mi b.Line_Y1 b.Line_Y2) (ma b.Line_X1 b.Line_X2) (ma b.Line_Y1 b.Line_Y2) b.Angle b.Deduct
def fixL : List Bend → List Bend → List Bend
  | e :: l, b :: m => (bif ordB e then sortL b else b) :: fixL l m
  | _, m => m
def qF : Nat → Flat4 → Flat4
  | 0, f => f
  | n + 1, f => qF n (sp_flat_quarter f.1 f.2.1 f.2.2.1 f.2.2.2)
def shF4 (f : Flat4) : Prop := shF f.1 f.2.1 f.2.2.1 f.2.2.2
theorem qF_sh : ∀ (n : Nat) (f : Flat4), shF4 f → shF4 (qF n f)
  | 0, _, h => h
  | n + 1, f, h => qF_sh n _ (by
      obtain ⟨h1, h2, h3, h4⟩ := h
      unfold sh at *
      refine ⟨?_, ?_, ?_, ?_⟩
      all_goals
        unfold sh
        simp only [sp_flat_quarter, sp_mapQ, List.length_map]
        assumption)
theorem qF_len : ∀ (n : Nat) (f : Flat4), (qF n f).2.2.2.length = f.2.2.2.length
  | 0, _ => rfl
  | n + 1, f => by
    rw [qF, qF_len n]
    simp only [sp_flat_quarter, sp_mapQ, List.length_map]
def turned (R C M : List Rect) (B : List Bend) (t : Int) : Flat4 :=
  let f := qF t.toNat (R, C, M, B)
  (f.1, f.2.1, f.2.2.1, bif decide (0 < t) then fixL B f.2.2.2 else f.2.2.2)
def badQ (R C M : List Rect) (B : List Bend) (t : Int) : Bool := ((sp_flat_check R C M B != 0) || decide (t < 0)) || decide (3 < t)
def pre_flat_Quarter (R C M : List Rect) (B : List Bend) (t : Int) : Prop :=
  shF R C M B ∧ (badQ R C M B t = false → let f := turned R C M B t; pre_flat_settled f.1 f.2.1 f.2.2.1 f.2.2.2)
def sp_flat_Quarter (R C M : List Rect) (B : List Bend) (t : Int) : List Rect × List Rect × List Rect × List Bend × Int :=
  bif badQ R C M B t then ([], [], [], [], 1) else let f := turned R C M B t; sp_flat_settled f.1 f.2.1 f.2.2.1 f.2.2.2

theorem lp_Q0_1 (F : Nat) (x0 : Int → List Bend → Int → Int → List Rect → List Rect → List Rect → List Bend → Prop) (l : List Bend) (R C M : List Rect) (m : List Bend) (hl : sh l) (hm : m.length = l.length) : ∀ (n i : Nat), i ≤ l.length → l.length < i + n →
    x0 0 l l.length l.length R C M m → w_Q0_1 F x0 n 0 l l.length i R C M m := by
  intro n
  induction n with
  | zero => intro i h1 h2; omega
  | succ n ih =>
    intro i h1 h2 e
    show g_Q0_s1 (w_Q0_1 F x0 n) x0 0 l l.length i R C M m
    unfold g_Q0_s1
    by_cases h : i < l.length
    · rw [dec_t (by omega), cond_true]
      refine ⟨by omega, by omega, ?_⟩
      rw [dec_f (by omega : ¬ (0 : Int) < 0), Bool.false_and, Bool.false_and, cond_false]
      rw [w64_succ h (by unfold sh at hl; omega)]
      exact ih _ (by omega) (by omega) e
    · rw [dec_f (by omega), cond_false]
      have he : i = l.length := by omega
      rw [he]
      exact e
theorem ok_Q0 (a0_Rects : List Rect) (a0_Cuts : List Rect) (a0_Forms : List Rect) (a0_Bends : List Bend) (h : pre_flat_Quarter a0_Rects a0_Cuts a0_Forms a0_Bends 0) : ∃ F, ∀ Q : List Rect → List Rect → List Rect → List Bend → Int → Prop, Q ((sp_flat_Quarter a0_Rects a0_Cuts a0_Forms a0_Bends 0).1) ((sp_flat_Quarter a0_Rects a0_Cuts a0_Forms a0_Bends 0).2.1) ((sp_flat_Quarter a0_Rects a0_Cuts a0_Forms a0_Bends 0).2.2.1) ((sp_flat_Quarter a0_Rects a0_Cuts a0_Forms a0_Bends 0).2.2.2.1) ((sp_flat_Quarter a0_Rects a0_Cuts a0_Forms a0_Bends 0).2.2.2.2) → w_Q0 F a0_Rects a0_Cuts a0_Forms a0_Bends Q := by
  refine ⟨1002, fun Q hQ => ?_⟩
  obtain ⟨⟨h1, h2, h3, h4⟩, hp⟩ := h
  unfold w_Q0 g_Q0_e n_Q0_0
  refine ⟨h4, ?_⟩
  unfold sp_flat_Quarter at hQ
  have hb : badQ a0_Rects a0_Cuts a0_Forms a0_Bends 0 = (((sp_flat_check a0_Rects a0_Cuts a0_Forms a0_Bends != 0) || false) || false) := rfl
  rw [hb] at hQ hp
  cases hc : (((sp_flat_check a0_Rects a0_Cuts a0_Forms a0_Bends != 0) || false) || false)
  · rw [hc] at hQ
    rw [cond_false]
    show g_Q0_s0 _ _ _ _ _ _ _ _ _ _ _ _ _
    unfold g_Q0_s0
    rw [dec_f (by omega : ¬ (0 : Int) < 0), cond_false]
    refine lp_Q0_1 _ _ a0_Bends _ _ _ a0_Bends h4 rfl _ 0 (by omega) (by unfold sh at h4; omega) ?_
    exact ⟨hp hc, hQ⟩
  · rw [hc] at hQ
    exact hQ

theorem take_set {α : Type} [Inhabited α] (m : List α) (i : Nat) (h : i < m.length) (x : α) : (m.set i x).take (i + 1) = m.take i ++ [x] := by
  rw [List.take_set, List.take_succ_eq_append_getElem h, List.set_append_right]
  · simp [Nat.min_eq_left (Nat.le_of_lt h)]
  · simp [Nat.min_eq_left (Nat.le_of_lt h)]
theorem lp_Q1_2 (F : Nat) (x0 : Int → List Bend → Int → Int → List Rect → List Rect → List Rect → List Bend → Prop) (t : Int) (ht : 0 < t) (l : List Bend) (R C M : List Rect) (hl : sh l) : ∀ (n i : Nat) (m : List Bend), m.length = l.length → i ≤ l.length → l.length < i + n →
    x0 t l l.length l.length R C M (m.take i ++ fixL (l.drop i) (m.drop i)) → w_Q1_2 F x0 n t l l.length i R C M m := by
  intro n
  induction n with
  | zero => intro i m hm h1 h2; omega
  | succ n ih =>
    intro i m hm h1 h2 e
    show g_Q1_s2 (w_Q1_2 F x0 n) x0 t l l.length i R C M m
    unfold g_Q1_s2
    by_cases h : i < l.length
    · rw [dec_t (by omega), cond_true, Int.toNat_natCast]
      rw [drop_getD l i h, drop_getD m i (by omega), fixL] at e
      refine ⟨by omega, by omega, ?_⟩
      rw [dec_t ht, Bool.true_and]
      change cond (ordB (l.getD i default)) (w_Q1_2 F x0 n t l l.length (w64 (i + 1)) R C M (m.set i (sortL (m.getD i default)))) _
      rw [w64_succ h (by unfold sh at hl; omega)]
      cases ho : ordB (l.getD i default)
      · rw [ho] at e
        refine ih _ m hm (by omega) (by omega) ?_
        rw [cond_false] at e
        have : m.take (i + 1) = m.take i ++ [m.getD i default] := by
          have hi : i < m.length := by omega
          rw [List.take_succ_eq_append_getElem hi]
          simp [List.getD, hi]
        rw [this, List.append_assoc]
        exact e
      · rw [ho] at e
        refine ih _ _ (by rw [List.length_set]; exact hm) (by omega) (by omega) ?_
        rw [cond_true] at e
        rw [take_set m i (by omega), List.append_assoc, List.drop_set_of_lt (by omega)]
        exact e
    · rw [dec_f (by omega), cond_false]
      have he : i = l.length := by omega
      rw [he] at e ⊢
      rw [List.drop_length, ← hm, List.drop_length, List.take_length] at e
      rw [fixL, List.append_nil] at e
      rw [← hm]
      exact e
      all_goals simp
theorem lp_Q1_1 (F : Nat) (x0 x1 : Int → Int → Int → List Rect → List Rect → List Rect → List Bend → List Rect → List Rect → List Rect → List Bend → Prop) (t : Nat) (ht : t ≤ 3) (R C M : List Rect) (B : List Bend) : ∀ (n i : Nat) (f : Flat4), shF4 f → i ≤ t → t < i + n →
    (∀ g : Flat4, g = qF (t - i) f → x1 t t t R C M B g.1 g.2.1 g.2.2.1 g.2.2.2) → w_Q1_1 F x0 x1 n t t i R C M B f.1 f.2.1 f.2.2.1 f.2.2.2 := by
  intro n
  induction n with
  | zero => intro i f hf h1 h2; omega
  | succ n ih =>
    intro i f hf h1 h2 e
    show g_Q1_s1 (w_Q1_1 F x0 x1 n) x0 x1 t t i R C M B f.1 f.2.1 f.2.2.1 f.2.2.2
    unfold g_Q1_s1
    by_cases h : i < t
    · rw [dec_t (by omega), cond_true]
      refine ⟨hf, ?_⟩
      rw [w64_succ h (by omega)]
      refine ih _ (sp_flat_quarter f.1 f.2.1 f.2.2.1 f.2.2.2) (qF_sh 1 f hf) (by omega) (by omega) ?_
      rw [show t - i = (t - (i + 1)) + 1 by omega] at e
      exact e
    · rw [dec_f (by omega), cond_false]
      have he : i = t := by omega
      rw [he] at e ⊢
      rw [Nat.sub_self] at e
      exact e f rfl
theorem ok_Q1 (a0_Rects : List Rect) (a0_Cuts : List Rect) (a0_Forms : List Rect) (a0_Bends : List Bend) (a1 : Int) (h : pre_flat_Quarter a0_Rects a0_Cuts a0_Forms a0_Bends a1) (hz : ¬ a1 = 0) : ∃ F, ∀ Q : List Rect → List Rect → List Rect → List Bend → Int → Prop, Q ((sp_flat_Quarter a0_Rects a0_Cuts a0_Forms a0_Bends a1).1) ((sp_flat_Quarter a0_Rects a0_Cuts a0_Forms a0_Bends a1).2.1) ((sp_flat_Quarter a0_Rects a0_Cuts a0_Forms a0_Bends a1).2.2.1) ((sp_flat_Quarter a0_Rects a0_Cuts a0_Forms a0_Bends a1).2.2.2.1) ((sp_flat_Quarter a0_Rects a0_Cuts a0_Forms a0_Bends a1).2.2.2.2) → w_Q1 F a0_Rects a0_Cuts a0_Forms a0_Bends a1 Q := by
  refine ⟨1002, fun Q hQ => ?_⟩
  obtain ⟨hsh, hp⟩ := h
  unfold w_Q1 g_Q1_e n_Q1_0
  refine ⟨hsh.2.2.2, ?_⟩
  unfold sp_flat_Quarter at hQ
  change cond (badQ a0_Rects a0_Cuts a0_Forms a0_Bends a1) _ _
  cases hc : badQ a0_Rects a0_Cuts a0_Forms a0_Bends a1
  · rw [hc] at hQ
    have hq := hp hc
    rw [cond_false] at hQ ⊢
    have hr : 0 ≤ a1 ∧ a1 ≤ 3 := by
      unfold badQ at hc
      simp only [Bool.or_eq_false_iff, decide_eq_false_iff_not] at hc
      omega
    obtain ⟨t, rfl⟩ : ∃ t : Nat, a1 = t := ⟨a1.toNat, by omega⟩
    show g_Q1_s0 _ _ _ _ _ _ _ _ _ _ _ _ _ _
    unfold g_Q1_s0
    rw [dec_t (by omega : (0 : Int) < t), cond_true]
    refine ⟨hsh, ?_⟩
    refine lp_Q1_1 _ _ _ t (by omega) _ _ _ _ _ 1 (sp_flat_quarter a0_Rects a0_Cuts a0_Forms a0_Bends) (qF_sh 1 (a0_Rects, a0_Cuts, a0_Forms, a0_Bends) hsh) (by omega) (by omega) ?_
    intro g hg
    have hg' : g = qF t (a0_Rects, a0_Cuts, a0_Forms, a0_Bends) := by
      rw [hg, show t = (t - 1) + 1 by omega]
      rfl
    have hgl : g.2.2.2.length = a0_Bends.length := by rw [hg', qF_len]
    have htu : turned a0_Rects a0_Cuts a0_Forms a0_Bends t = (g.1, g.2.1, g.2.2.1, fixL a0_Bends g.2.2.2) := by
      unfold turned
      rw [Int.toNat_natCast, ← hg', dec_t (by omega : (0 : Int) < t)]
      rfl
    rw [htu] at hQ hq
    refine lp_Q1_2 _ _ t (by omega) a0_Bends _ _ _ hsh.2.2.2 _ 0 g.2.2.2 hgl (by omega) (by have := hsh.2.2.2; unfold sh at this; omega) ?_
    rw [List.take_zero, List.nil_append, List.drop_zero, List.drop_zero]
    exact ⟨hq, hQ⟩
  · rw [hc] at hQ
    exact hQ
end
end Go.Proofs.Ytohecfbnmmgimaa

namespace Go.Proofs.Ytohecfbnmmgimaa
open Go.Vm Go.RowKit
set_option linter.unusedVariables false
noncomputable section
/-! ### sheetmetal/sheetmetallaw03.FlatSettles -/
def M_law03_FlatSettles : Nat → Nat → Canon UU := fun b r => cond (Nat.beq b 0) ⟨[2, 5, 14, 18, 19, 99, 100, 101, 104], [2, 5, 14], [(.cell 5 0, 106, .rect), (.cell 5 1, 107, .rect), (.cell 5 2, 108, .rect), (.cell 5 3, 109, .bend), (.cell 14 0, 110, .rect), (.cell 14 1, 111, .rect), (.cell 14 2, 112, .rect), (.cell 14 3, 113, .bend)], []⟩ (⟨[], [], [], []⟩)
def st_law03_FlatSettles_0 (t18 : Bool) (t19 : Int) (c2_0 : List Rect) (c2_1 : List Rect) (c2_2 : List Rect) (c2_3 : List Bend) (l106 : List Rect) (l107 : List Rect) (l108 : List Rect) (l109 : List Bend) (l110 : List Rect) (l111 : List Rect) (l112 : List Rect) (l113 : List Bend) : ASt UU := ⟨fun u => cond (Nat.beq u 2) (.ptr 2 0) (cond (Nat.beq u 5) (.ptr 5 0) (cond (Nat.beq u 14) (.ptr 14 0) (cond (Nat.beq u 18) (.bool t18) (cond (Nat.beq u 19) (.int .i64 t19) (cond (Nat.beq u 99) (.raw undef) (cond (Nat.beq u 100) (.raw undef) (cond (Nat.beq u 101) (.raw undef) (cond (Nat.beq u 104) (.raw undef) (.any))))))))), fun u => cond (Nat.beq u 106) (some (.row .rect 0 l106)) (cond (Nat.beq u 107) (some (.row .rect 0 l107)) (cond (Nat.beq u 108) (some (.row .rect 0 l108)) (cond (Nat.beq u 109) (some (.row .bend 0 l109)) (cond (Nat.beq u 110) (some (.row .rect 0 l110)) (cond (Nat.beq u 111) (some (.row .rect 0 l111)) (cond (Nat.beq u 112) (some (.row .rect 0 l112)) (cond (Nat.beq u 113) (some (.row .bend 0 l113)) (cond (Nat.beq u 2) (some (.cells [.sl .rect c2_0, .sl .rect c2_1, .sl .rect c2_2, .sl .bend c2_3])) (cond (Nat.beq u 5) (some (.cells [.osl 106 0, .osl 107 0, .osl 108 0, .osl 109 0])) (cond (Nat.beq u 14) (some (.cells [.osl 110 0, .osl 111 0, .osl 112 0, .osl 113 0])) (none)))))))))))⟩
def g_law03_FlatSettles_e (a0_Rects : List Rect) (a0_Cuts : List Rect) (a0_Forms : List Rect) (a0_Bends : List Bend) (a1 : Int) (Q : Bool → Prop) (i0 : Bool → Int → List Rect → List Rect → List Rect → List Bend → List Rect → List Rect → List Rect → List Bend → List Rect → List Rect → List Rect → List Bend → Prop) : Prop := (let r0 := (sp_law03_Long a0_Rects a0_Cuts a0_Forms a0_Bends); cond r0 (((pre_law03_known ) ∧ Q sp_law03_known)) ((let r1 := (sp_ref03_Copy a0_Rects a0_Cuts a0_Forms a0_Bends); ((pre_ref03_Copy a0_Rects a0_Cuts a0_Forms a0_Bends) ∧ (let r2 := (sp_flat_Bounds r1.1 r1.2.1 r1.2.2.1 r1.2.2.2); ((pre_flat_Bounds r1.1 r1.2.1 r1.2.2.1 r1.2.2.2) ∧ (let r3 := (sp_ref03_Bounds a0_Rects a0_Cuts a0_Forms a0_Bends); ((pre_ref03_Bounds a0_Rects a0_Cuts a0_Forms a0_Bends) ∧ (let r4 := (sp_flat_Settle r1.1 r1.2.1 r1.2.2.1 r1.2.2.2); ((pre_flat_Settle r1.1 r1.2.1 r1.2.2.1 r1.2.2.2) ∧ (let r5 := (sp_ref03_Quarter a0_Rects a0_Cuts a0_Forms a0_Bends 0); ((pre_ref03_Quarter a0_Rects a0_Cuts a0_Forms a0_Bends 0) ∧ (let r6 := (sp_flat_Quarter r1.1 r1.2.1 r1.2.2.1 r1.2.2.2 a1); ((pre_flat_Quarter r1.1 r1.2.1 r1.2.2.1 r1.2.2.2 a1) ∧ (let r7 := (sp_ref03_Quarter a0_Rects a0_Cuts a0_Forms a0_Bends a1); ((pre_ref03_Quarter a0_Rects a0_Cuts a0_Forms a0_Bends a1) ∧ (let r8 := (sp_ref03_SameFlat r4.1 r4.2.1 r4.2.2.1 r4.2.2.2.1 r5.1 r5.2.1 r5.2.2.1 r5.2.2.2.1); (let r9 := (sp_ref03_SameFlat r6.1 r6.2.1 r6.2.2.1 r6.2.2.2.1 r7.1 r7.2.1 r7.2.2.1 r7.2.2.2.1); ((((((r2.1 == r3.1) && ((r2.2.1 == r3.2.1) && ((r2.2.2.1 == r3.2.2.1) && ((r2.2.2.2.1 == r3.2.2.2.1) && true)))) && (r2.2.2.2.2 == r3.2.2.2.2)) = true → pre_ref03_SameFlat r4.1 r4.2.1 r4.2.2.1 r4.2.2.2.1 r5.1 r5.2.1 r5.2.2.1 r5.2.2.2.1) ∧ ((((((r2.1 == r3.1) && ((r2.2.1 == r3.2.1) && ((r2.2.2.1 == r3.2.2.1) && ((r2.2.2.2.1 == r3.2.2.2.1) && true)))) && (r2.2.2.2.2 == r3.2.2.2.2)) && r8) && (r4.2.2.2.2 == r5.2.2.2.2)) = true → pre_ref03_SameFlat r6.1 r6.2.1 r6.2.2.1 r6.2.2.2.1 r7.1 r7.2.1 r7.2.2.1 r7.2.2.2.1)) ∧ i0 (((((((r2.1 == r3.1) && ((r2.2.1 == r3.2.1) && ((r2.2.2.1 == r3.2.2.1) && ((r2.2.2.2.1 == r3.2.2.2.1) && true)))) && (r2.2.2.2.2 == r3.2.2.2.2)) && r8) && (r4.2.2.2.2 == r5.2.2.2.2)) && r9) && (r6.2.2.2.2 == r7.2.2.2.2)) 0 a0_Rects a0_Cuts a0_Forms a0_Bends r1.1 r1.2.1 r1.2.2.1 r1.2.2.2 r6.1 r6.2.1 r6.2.2.1 r6.2.2.2.1)))))))))))))))))))
def g_law03_FlatSettles_s0 (rec : Bool → Int → List Rect → List Rect → List Rect → List Bend → List Rect → List Rect → List Rect → List Bend → List Rect → List Rect → List Rect → List Bend → Prop) (x0 : Bool → Int → List Rect → List Rect → List Rect → List Bend → List Rect → List Rect → List Rect → List Bend → List Rect → List Rect → List Rect → List Bend → Prop) (t18 : Bool) (t19 : Int) (c2_0 : List Rect) (c2_1 : List Rect) (c2_2 : List Rect) (c2_3 : List Bend) (l106 : List Rect) (l107 : List Rect) (l108 : List Rect) (l109 : List Bend) (l110 : List Rect) (l111 : List Rect) (l112 : List Rect) (l113 : List Bend) : Prop := cond (decide (t19 < (l110.length : Int))) (((0 ≤ t19 ∧ t19 < l110.length) ∧ rec t18 (w64 (t19 + 1)) c2_0 c2_1 c2_2 c2_3 l106 l107 l108 l109 (l110.set t19.toNat (Rect.mk (-5) ((l110.getD t19.toNat default).Y) ((l110.getD t19.toNat default).W) ((l110.getD t19.toNat default).H))) l111 l112 l113)) (x0 t18 t19 c2_0 c2_1 c2_2 c2_3 l106 l107 l108 l109 l110 l111 l112 l113)
def g_law03_FlatSettles_c0_0 (Q : Bool → Prop) (t18 : Bool) (t19 : Int) (c2_0 : List Rect) (c2_1 : List Rect) (c2_2 : List Rect) (c2_3 : List Bend) (l106 : List Rect) (l107 : List Rect) (l108 : List Rect) (l109 : List Bend) (l110 : List Rect) (l111 : List Rect) (l112 : List Rect) (l113 : List Bend) : Prop := (let r0 := (sp_ref03_SameFlat l106 l107 l108 l109 c2_0 c2_1 c2_2 c2_3); (((t18 = true → pre_ref03_SameFlat l106 l107 l108 l109 c2_0 c2_1 c2_2 c2_3) ∧ ((t18 && r0) = true → pre_law03_known )) ∧ Q ((t18 && r0) && sp_law03_known)))
def w_law03_FlatSettles_0 (F : Nat) (x0 : Bool → Int → List Rect → List Rect → List Rect → List Bend → List Rect → List Rect → List Rect → List Bend → List Rect → List Rect → List Rect → List Bend → Prop) : Nat → Bool → Int → List Rect → List Rect → List Rect → List Bend → List Rect → List Rect → List Rect → List Bend → List Rect → List Rect → List Rect → List Bend → Prop
  | 0, _, _, _, _, _, _, _, _, _, _, _, _, _, _ => False
  | n + 1, t18, t19, c2_0, c2_1, c2_2, c2_3, l106, l107, l108, l109, l110, l111, l112, l113 => g_law03_FlatSettles_s0 (w_law03_FlatSettles_0 F x0 n) x0 t18 t19 c2_0 c2_1 c2_2 c2_3 l106 l107 l108 l109 l110 l111 l112 l113
def n_law03_FlatSettles_0 (F : Nat) (Q : Bool → Prop) (t18 : Bool) (t19 : Int) (c2_0 : List Rect) (c2_1 : List Rect) (c2_2 : List Rect) (c2_3 : List Bend) (l106 : List Rect) (l107 : List Rect) (l108 : List Rect) (l109 : List Bend) (l110 : List Rect) (l111 : List Rect) (l112 : List Rect) (l113 : List Bend) : Prop := w_law03_FlatSettles_0 F (fun t18 t19 c2_0 c2_1 c2_2 c2_3 l106 l107 l108 l109 l110 l111 l112 l113 => g_law03_FlatSettles_c0_0 Q t18 t19 c2_0 c2_1 c2_2 c2_3 l106 l107 l108 l109 l110 l111 l112 l113) F t18 t19 c2_0 c2_1 c2_2 c2_3 l106 l107 l108 l109 l110 l111 l112 l113
def w_law03_FlatSettles (F : Nat) (a0_Rects : List Rect) (a0_Cuts : List Rect) (a0_Forms : List Rect) (a0_Bends : List Bend) (a1 : Int) (Q : Bool → Prop) : Prop := g_law03_FlatSettles_e a0_Rects a0_Cuts a0_Forms a0_Bends a1 Q (n_law03_FlatSettles_0 F Q)
end
end Go.Proofs.Ytohecfbnmmgimaa

namespace Go.Proofs.Ytohecfbnmmgimaa
open Go.Vm Go.RowKit
set_option linter.unusedVariables false
noncomputable section
/-! ### sheetmetal/geom.rects -/
def M_geom_rects : Nat → Nat → Canon UU := fun b r => cond (Nat.beq b 0) ⟨[0, 2, 9, 10, 11], [], [], []⟩ (cond (Nat.beq b 2) ⟨[2, 19, 20, 21], [], [], []⟩ (cond (Nat.beq b 4) ⟨[2, 19, 20, 21, 25, 26, 27], [], [], []⟩ (⟨[], [], [], []⟩)))
def st_geom_rects_0 (t0 : List (List Rect)) (t2 : Int) (t9 : List (List Rect)) (t10 : Int) (t11 : Int) : ASt UU := ⟨fun u => cond (Nat.beq u 0) (.sl .rects t0) (cond (Nat.beq u 2) (.int .i64 t2) (cond (Nat.beq u 9) (.sl .rects t9) (cond (Nat.beq u 10) (.int .i64 t10) (cond (Nat.beq u 11) (.int .i64 t11) (.any))))), fun u => none⟩
def st_geom_rects_1 (t2 : Int) (t19 : List (List Rect)) (t20 : Int) (t21 : Int) : ASt UU := ⟨fun u => cond (Nat.beq u 2) (.int .i64 t2) (cond (Nat.beq u 19) (.sl .rects t19) (cond (Nat.beq u 20) (.int .i64 t20) (cond (Nat.beq u 21) (.int .i64 t21) (.any)))), fun u => none⟩
def st_geom_rects_2 (t2 : Int) (t19 : List (List Rect)) (t20 : Int) (t21 : Int) (t25 : List Rect) (t26 : Int) (t27 : Int) : ASt UU := ⟨fun u => cond (Nat.beq u 2) (.int .i64 t2) (cond (Nat.beq u 19) (.sl .rects t19) (cond (Nat.beq u 20) (.int .i64 t20) (cond (Nat.beq u 21) (.int .i64 t21) (cond (Nat.beq u 25) (.sl .rect t25) (cond (Nat.beq u 26) (.int .i64 t26) (cond (Nat.beq u 27) (.int .i64 t27) (.any))))))), fun u => none⟩
def g_geom_rects_e (a0 : List (List Rect)) (Q : Int → Prop) (i0 : List (List Rect) → Int → List (List Rect) → Int → Int → Prop) : Prop := i0 a0 0 a0 (a0.length : Int) 0
def g_geom_rects_s0 (rec : List (List Rect) → Int → List (List Rect) → Int → Int → Prop) (x0 : List (List Rect) → Int → List (List Rect) → Int → Int → Prop) (x1 : List (List Rect) → Int → List (List Rect) → Int → Int → Prop) (t0 : List (List Rect)) (t2 : Int) (t9 : List (List Rect)) (t10 : Int) (t11 : Int) : Prop := cond (decide (t11 < t10)) ((let e0 := (t9.getD t11.toNat default); ((0 ≤ t11 ∧ t11 < t9.length) ∧ cond (decide (48 < (e0.length : Int))) (x0 t0 4 t9 t10 t11) (rec t0 t2 t9 t10 (w64 (t11 + 1)))))) (x1 t0 t2 t9 t10 t11)
def g_geom_rects_c0_0 (Q : Int → Prop) (t0 : List (List Rect)) (t2 : Int) (t9 : List (List Rect)) (t10 : Int) (t11 : Int) : Prop := Q t2
def g_geom_rects_c0_1 (Q : Int → Prop) (t0 : List (List Rect)) (t2 : Int) (t9 : List (List Rect)) (t10 : Int) (t11 : Int) (i1 : Int → List (List Rect) → Int → Int → Prop) : Prop := i1 t2 t0 (t0.length : Int) 0
def g_geom_rects_s1 (rec : Int → List (List Rect) → Int → Int → Prop) (x0 : Int → List (List Rect) → Int → Int → Prop) (x1 : Int → List (List Rect) → Int → Int → Prop) (t2 : Int) (t19 : List (List Rect)) (t20 : Int) (t21 : Int) (i2 : Int → List (List Rect) → Int → Int → List Rect → Int → Int → Prop) : Prop := cond (decide (t21 < t20)) ((let e0 := (t19.getD t21.toNat default); ((0 ≤ t21 ∧ t21 < t19.length) ∧ i2 t2 t19 t20 t21 e0 (e0.length : Int) 0))) (x0 t2 t19 t20 t21)
def g_geom_rects_c1_0 (Q : Int → Prop) (t2 : Int) (t19 : List (List Rect)) (t20 : Int) (t21 : Int) : Prop := Q 0
def g_geom_rects_c1_1 (Q : Int → Prop) (t2 : Int) (t19 : List (List Rect)) (t20 : Int) (t21 : Int) : Prop := Q t2
def g_geom_rects_s2 (rec : Int → List (List Rect) → Int → Int → List Rect → Int → Int → Prop) (x0 : Int → List (List Rect) → Int → Int → List Rect → Int → Int → Prop) (x1 : Int → List (List Rect) → Int → Int → List Rect → Int → Int → Prop) (t2 : Int) (t19 : List (List Rect)) (t20 : Int) (t21 : Int) (t25 : List Rect) (t26 : Int) (t27 : Int) : Prop := cond (decide (t27 < t26)) ((let e0 := (t25.getD t27.toNat default); ((0 ≤ t27 ∧ t27 < t25.length) ∧ cond (!(sp_geom_ValidRect e0.X e0.Y e0.W e0.H)) (x0 1 t19 t20 t21 t25 t26 t27) (rec t2 t19 t20 t21 t25 t26 (w64 (t27 + 1)))))) (x1 t2 t19 t20 t21 t25 t26 t27)
def g_geom_rects_c2_0 (rec : Int → List (List Rect) → Int → Int → Prop) (x0 : Int → List (List Rect) → Int → Int → Prop) (x1 : Int → List (List Rect) → Int → Int → Prop) (t2 : Int) (t19 : List (List Rect)) (t20 : Int) (t21 : Int) (t25 : List Rect) (t26 : Int) (t27 : Int) : Prop := x1 t2 t19 t20 t21
def g_geom_rects_c2_1 (rec : Int → List (List Rect) → Int → Int → Prop) (x0 : Int → List (List Rect) → Int → Int → Prop) (x1 : Int → List (List Rect) → Int → Int → Prop) (t2 : Int) (t19 : List (List Rect)) (t20 : Int) (t21 : Int) (t25 : List Rect) (t26 : Int) (t27 : Int) : Prop := rec t2 t19 t20 (w64 (t21 + 1))
def w_geom_rects_2 (F : Nat) (x0 : Int → List (List Rect) → Int → Int → List Rect → Int → Int → Prop) (x1 : Int → List (List Rect) → Int → Int → List Rect → Int → Int → Prop) : Nat → Int → List (List Rect) → Int → Int → List Rect → Int → Int → Prop
  | 0, _, _, _, _, _, _, _ => False
  | n + 1, t2, t19, t20, t21, t25, t26, t27 => g_geom_rects_s2 (w_geom_rects_2 F x0 x1 n) x0 x1 t2 t19 t20 t21 t25 t26 t27
def n_geom_rects_2 (F : Nat) (rec : Int → List (List Rect) → Int → Int → Prop) (x0 : Int → List (List Rect) → Int → Int → Prop) (x1 : Int → List (List Rect) → Int → Int → Prop) (t2 : Int) (t19 : List (List Rect)) (t20 : Int) (t21 : Int) (t25 : List Rect) (t26 : Int) (t27 : Int) : Prop := w_geom_rects_2 F (fun t2 t19 t20 t21 t25 t26 t27 => g_geom_rects_c2_0 rec x0 x1 t2 t19 t20 t21 t25 t26 t27) (fun t2 t19 t20 t21 t25 t26 t27 => g_geom_rects_c2_1 rec x0 x1 t2 t19 t20 t21 t25 t26 t27) F t2 t19 t20 t21 t25 t26 t27
def w_geom_rects_1 (F : Nat) (x0 : Int → List (List Rect) → Int → Int → Prop) (x1 : Int → List (List Rect) → Int → Int → Prop) : Nat → Int → List (List Rect) → Int → Int → Prop
  | 0, _, _, _, _ => False
  | n + 1, t2, t19, t20, t21 => g_geom_rects_s1 (w_geom_rects_1 F x0 x1 n) x0 x1 t2 t19 t20 t21 (n_geom_rects_2 F (w_geom_rects_1 F x0 x1 n) x0 x1)
def n_geom_rects_1 (F : Nat) (Q : Int → Prop) (t2 : Int) (t19 : List (List Rect)) (t20 : Int) (t21 : Int) : Prop := w_geom_rects_1 F (fun t2 t19 t20 t21 => g_geom_rects_c1_0 Q t2 t19 t20 t21) (fun t2 t19 t20 t21 => g_geom_rects_c1_1 Q t2 t19 t20 t21) F t2 t19 t20 t21
def w_geom_rects_0 (F : Nat) (x0 : List (List Rect) → Int → List (List Rect) → Int → Int → Prop) (x1 : List (List Rect) → Int → List (List Rect) → Int → Int → Prop) : Nat → List (List Rect) → Int → List (List Rect) → Int → Int → Prop
  | 0, _, _, _, _, _ => False
  | n + 1, t0, t2, t9, t10, t11 => g_geom_rects_s0 (w_geom_rects_0 F x0 x1 n) x0 x1 t0 t2 t9 t10 t11
def n_geom_rects_0 (F : Nat) (Q : Int → Prop) (t0 : List (List Rect)) (t2 : Int) (t9 : List (List Rect)) (t10 : Int) (t11 : Int) : Prop := w_geom_rects_0 F (fun t0 t2 t9 t10 t11 => g_geom_rects_c0_0 Q t0 t2 t9 t10 t11) (fun t0 t2 t9 t10 t11 => g_geom_rects_c0_1 Q t0 t2 t9 t10 t11 (n_geom_rects_1 F Q)) F t0 t2 t9 t10 t11
def w_geom_rects (F : Nat) (a0 : List (List Rect)) (Q : Int → Prop) : Prop := g_geom_rects_e a0 Q (n_geom_rects_0 F Q)
/-! ### sheetmetal/flat.meet -/
def M_flat_meet : Nat → Nat → Canon UU := fun b r => ⟨[], [], [], []⟩
def g_flat_meet_e (a0_X : Int) (a0_Y : Int) (a0_W : Int) (a0_H : Int) (a1_X : Int) (a1_Y : Int) (a1_W : Int) (a1_H : Int) (Q : Int → Int → Int → Int → Bool → Prop) : Prop := cond (decide (0 < (w64 ((mi (w64 (a0_X + a0_W)) (w64 (a1_X + a1_W))) - (ma a0_X a1_X))))) (Q (ma a0_X a1_X) (ma a0_Y a1_Y) (w64 ((mi (w64 (a0_X + a0_W)) (w64 (a1_X + a1_W))) - (ma a0_X a1_X))) (w64 ((mi (w64 (a0_Y + a0_H)) (w64 (a1_Y + a1_H))) - (ma a0_Y a1_Y))) (decide (0 < (w64 ((mi (w64 (a0_Y + a0_H)) (w64 (a1_Y + a1_H))) - (ma a0_Y a1_Y)))))) (Q (ma a0_X a1_X) (ma a0_Y a1_Y) (w64 ((mi (w64 (a0_X + a0_W)) (w64 (a1_X + a1_W))) - (ma a0_X a1_X))) (w64 ((mi (w64 (a0_Y + a0_H)) (w64 (a1_Y + a1_H))) - (ma a0_Y a1_Y))) false)
def w_flat_meet (F : Nat) (a0_X : Int) (a0_Y : Int) (a0_W : Int) (a0_H : Int) (a1_X : Int) (a1_Y : Int) (a1_W : Int) (a1_H : Int) (Q : Int → Int → Int → Int → Bool → Prop) : Prop := g_flat_meet_e a0_X a0_Y a0_W a0_H a1_X a1_Y a1_W a1_H Q
def sp_flat_meet (a0_X : Int) (a0_Y : Int) (a0_W : Int) (a0_H : Int) (a1_X : Int) (a1_Y : Int) (a1_W : Int) (a1_H : Int) : Int × Int × Int × Int × Bool := cond (decide (0 < (w64 ((mi (w64 (a0_X + a0_W)) (w64 (a1_X + a1_W))) - (ma a0_X a1_X))))) ((ma a0_X a1_X, ma a0_Y a1_Y, w64 ((mi (w64 (a0_X + a0_W)) (w64 (a1_X + a1_W))) - (ma a0_X a1_X)), w64 ((mi (w64 (a0_Y + a0_H)) (w64 (a1_Y + a1_H))) - (ma a0_Y a1_Y)), decide (0 < (w64 ((mi (w64 (a0_Y + a0_H)) (w64 (a1_Y + a1_H))) - (ma a0_Y a1_Y)))))) ((ma a0_X a1_X, ma a0_Y a1_Y, w64 ((mi (w64 (a0_X + a0_W)) (w64 (a1_X + a1_W))) - (ma a0_X a1_X)), w64 ((mi (w64 (a0_Y + a0_H)) (w64 (a1_Y + a1_H))) - (ma a0_Y a1_Y)), false))
theorem ok_flat_meet (a0_X : Int) (a0_Y : Int) (a0_W : Int) (a0_H : Int) (a1_X : Int) (a1_Y : Int) (a1_W : Int) (a1_H : Int) : ∃ F, ∀ Q : Int → Int → Int → Int → Bool → Prop, Q ((sp_flat_meet a0_X a0_Y a0_W a0_H a1_X a1_Y a1_W a1_H).1) ((sp_flat_meet a0_X a0_Y a0_W a0_H a1_X a1_Y a1_W a1_H).2.1) ((sp_flat_meet a0_X a0_Y a0_W a0_H a1_X a1_Y a1_W a1_H).2.2.1) ((sp_flat_meet a0_X a0_Y a0_W a0_H a1_X a1_Y a1_W a1_H).2.2.2.1) ((sp_flat_meet a0_X a0_Y a0_W a0_H a1_X a1_Y a1_W a1_H).2.2.2.2) → w_flat_meet F a0_X a0_Y a0_W a0_H a1_X a1_Y a1_W a1_H Q := by
  refine ⟨0, fun Q h => ?_⟩
  unfold w_flat_meet g_flat_meet_e
  unfold sp_flat_meet at h
  cases hb0 : (decide (0 < (w64 ((mi (w64 (a0_X + a0_W)) (w64 (a1_X + a1_W))) - (ma a0_X a1_X)))))
  · try simp only [hb0, cond_false] at h ⊢
    exact h
  · try simp only [hb0, cond_true] at h ⊢
    exact h
/-! ### sheetmetal/flat.insert -/
def M_flat_insert : Nat → Nat → Canon UU := fun b r => cond (Nat.beq b 0) ⟨[0, 1, 5, 26, 27, 28, 29, 30, 31], [], [], []⟩ (⟨[], [], [], []⟩)
def st_flat_insert_0 (t0 : List Int) (t1 : Int) (t5 : Int) : ASt UU := ⟨fun u => cond (Nat.beq u 0) (.sl .int t0) (cond (Nat.beq u 1) (.int .i64 t1) (cond (Nat.beq u 5) (.int .i64 t5) (cond (Nat.beq u 26) (.raw undef) (cond (Nat.beq u 27) (.raw undef) (cond (Nat.beq u 28) (.raw undef) (cond (Nat.beq u 29) (.raw undef) (cond (Nat.beq u 30) (.raw undef) (cond (Nat.beq u 31) (.raw undef) (.any))))))))), fun u => none⟩
def g_flat_insert_e (a0 : List Int) (a1 : Int) (Q : List Int → Prop) (i0 : List Int → Int → Int → Prop) : Prop := i0 a0 a1 0
def g_flat_insert_s0 (rec : List Int → Int → Int → Prop) (x0 : List Int → Int → Int → Prop) (t0 : List Int) (t1 : Int) (t5 : Int) : Prop := (let e0 := (t0.getD t5.toNat default); (((decide (t5 < (t0.length : Int))) = true → 0 ≤ t5 ∧ t5 < t0.length) ∧ cond ((decide (t5 < (t0.length : Int))) && (decide (e0 < t1))) (rec t0 t1 (w64 (t5 + 1))) (x0 t0 t1 t5)))
def g_flat_insert_c0_0 (Q : List Int → Prop) (t0 : List Int) (t1 : Int) (t5 : Int) : Prop := (let e0 := (t0.getD t5.toNat default); (((decide (t5 < (t0.length : Int))) = true → 0 ≤ t5 ∧ t5 < t0.length) ∧ cond ((decide (t5 < (t0.length : Int))) && (e0 == t1)) (Q t0) ((((0 ≤ t5 ∧ t5 ≤ t0.length) ∧ ((t0.take t5.toNat).length * 8 ≤ 140737488355328)) ∧ ((((t0.take t5.toNat).length + ([t1]).length) * 8 ≤ 140737488355328) ∧ ((0 ≤ t5 ∧ t5 ≤ t0.length) ∧ (((((t0.take t5.toNat) ++ ([t1])).length + (t0.drop t5.toNat).length) * 8 ≤ 140737488355328) ∧ Q (((t0.take t5.toNat) ++ ([t1])) ++ (t0.drop t5.toNat)))))))))
def w_flat_insert_0 (F : Nat) (x0 : List Int → Int → Int → Prop) : Nat → List Int → Int → Int → Prop
  | 0, _, _, _ => False
  | n + 1, t0, t1, t5 => g_flat_insert_s0 (w_flat_insert_0 F x0 n) x0 t0 t1 t5
def n_flat_insert_0 (F : Nat) (Q : List Int → Prop) (t0 : List Int) (t1 : Int) (t5 : Int) : Prop := w_flat_insert_0 F (fun t0 t1 t5 => g_flat_insert_c0_0 Q t0 t1 t5) F t0 t1 t5
def w_flat_insert (F : Nat) (a0 : List Int) (a1 : Int) (Q : List Int → Prop) : Prop := g_flat_insert_e a0 a1 Q (n_flat_insert_0 F Q)
/-! ### sheetmetal/sheetmetallaw03.ordered -/
def M_law03_ordered : Nat → Nat → Canon UU := fun b r => cond (Nat.beq b 0) ⟨[1, 2, 3], [1], [], []⟩ (⟨[], [], [], []⟩)
def st_law03_ordered_0 (t2 : Bool) (t3 : Int) (c1_0 : List Rect) (c1_1 : List Rect) (c1_2 : List Rect) (c1_3 : List Bend) : ASt UU := ⟨fun u => cond (Nat.beq u 1) (.ptr 1 0) (cond (Nat.beq u 2) (.bool t2) (cond (Nat.beq u 3) (.int .i64 t3) (.any))), fun u => cond (Nat.beq u 1) (some (.cells [.sl .rect c1_0, .sl .rect c1_1, .sl .rect c1_2, .sl .bend c1_3])) (none)⟩
def g_law03_ordered_e (a0_Rects : List Rect) (a0_Cuts : List Rect) (a0_Forms : List Rect) (a0_Bends : List Bend) (Q : Bool → Prop) (i0 : Bool → Int → List Rect → List Rect → List Rect → List Bend → Prop) : Prop := i0 false 0 a0_Rects a0_Cuts a0_Forms a0_Bends
def g_law03_ordered_s0 (rec : Bool → Int → List Rect → List Rect → List Rect → List Bend → Prop) (x0 : Bool → Int → List Rect → List Rect → List Rect → List Bend → Prop) (x1 : Bool → Int → List Rect → List Rect → List Rect → List Bend → Prop) (t2 : Bool) (t3 : Int) (c1_0 : List Rect) (c1_1 : List Rect) (c1_2 : List Rect) (c1_3 : List Bend) : Prop := cond (decide (t3 < (c1_3.length : Int))) ((let e0 := (c1_3.getD t3.toNat default); ((0 ≤ t3 ∧ t3 < c1_3.length) ∧ cond ((decide (e0.Line_X2 < e0.Line_X1)) || (decide (e0.Line_Y2 < e0.Line_Y1))) (x0 false t3 c1_0 c1_1 c1_2 c1_3) (rec t2 (w64 (t3 + 1)) c1_0 c1_1 c1_2 c1_3)))) (x1 t2 t3 c1_0 c1_1 c1_2 c1_3)
def g_law03_ordered_c0_0 (Q : Bool → Prop) (t2 : Bool) (t3 : Int) (c1_0 : List Rect) (c1_1 : List Rect) (c1_2 : List Rect) (c1_3 : List Bend) : Prop := Q t2
def g_law03_ordered_c0_1 (Q : Bool → Prop) (t2 : Bool) (t3 : Int) (c1_0 : List Rect) (c1_1 : List Rect) (c1_2 : List Rect) (c1_3 : List Bend) : Prop := Q true
def w_law03_ordered_0 (F : Nat) (x0 : Bool → Int → List Rect → List Rect → List Rect → List Bend → Prop) (x1 : Bool → Int → List Rect → List Rect → List Rect → List Bend → Prop) : Nat → Bool → Int → List Rect → List Rect → List Rect → List Bend → Prop
  | 0, _, _, _, _, _, _ => False
  | n + 1, t2, t3, c1_0, c1_1, c1_2, c1_3 => g_law03_ordered_s0 (w_law03_ordered_0 F x0 x1 n) x0 x1 t2 t3 c1_0 c1_1 c1_2 c1_3
def n_law03_ordered_0 (F : Nat) (Q : Bool → Prop) (t2 : Bool) (t3 : Int) (c1_0 : List Rect) (c1_1 : List Rect) (c1_2 : List Rect) (c1_3 : List Bend) : Prop := w_law03_ordered_0 F (fun t2 t3 c1_0 c1_1 c1_2 c1_3 => g_law03_ordered_c0_0 Q t2 t3 c1_0 c1_1 c1_2 c1_3) (fun t2 t3 c1_0 c1_1 c1_2 c1_3 => g_law03_ordered_c0_1 Q t2 t3 c1_0 c1_1 c1_2 c1_3) F t2 t3 c1_0 c1_1 c1_2 c1_3
def w_law03_ordered (F : Nat) (a0_Rects : List Rect) (a0_Cuts : List Rect) (a0_Forms : List Rect) (a0_Bends : List Bend) (Q : Bool → Prop) : Prop := g_law03_ordered_e a0_Rects a0_Cuts a0_Forms a0_Bends Q (n_law03_ordered_0 F Q)
/-! ### (sheetmetal/geom.grid).covered -/
def M_geom_grid_covered : Nat → Nat → Canon UU := fun b r => cond (Nat.beq b 0) ⟨[1, 2, 5, 17, 18], [2], [(.tmp 5, 97, .bools)], []⟩ (cond (Nat.beq b 2) ⟨[1, 2, 5, 6, 17, 18, 33, 34, 52, 53, 54, 55, 56, 57, 58, 59, 60, 61, 62, 65, 66, 67, 68, 69, 70, 71, 72, 75, 76, 77, 78, 79, 80, 81, 82, 83, 84, 85], [2, 27, 97], [], []⟩ (cond (Nat.beq b 4) ⟨[1, 2, 5, 6, 7, 17, 18, 33, 34, 37, 38, 39], [2, 27, 97], [], []⟩ (⟨[], [], [], []⟩)))
def st_geom_grid_covered_0 (t1 : List Rect) (t17 : Int) (t18 : Int) (c2_0 : List Int) (c2_1 : List Int) (l97 : List (List Bool)) : ASt UU := ⟨fun u => cond (Nat.beq u 1) (.sl .rect t1) (cond (Nat.beq u 2) (.ptr 2 0) (cond (Nat.beq u 5) (.osl 97 0) (cond (Nat.beq u 17) (.int .i64 t17) (cond (Nat.beq u 18) (.int .i64 t18) (.any))))), fun u => cond (Nat.beq u 97) (some (.row .bools 0 l97)) (cond (Nat.beq u 2) (some (.cells [.sl .int c2_0, .sl .int c2_1])) (none))⟩
def st_geom_grid_covered_1 (t1 : List Rect) (t6 : Int) (t17 : Int) (t18 : Int) (t33 : Int) (t34 : Int) (c2_0 : List Int) (c2_1 : List Int) (l27 : List Bool) (l97 : List (List Bool)) (i97 : Nat) : ASt UU := ⟨fun u => cond (Nat.beq u 1) (.sl .rect t1) (cond (Nat.beq u 2) (.ptr 2 0) (cond (Nat.beq u 5) (.osl 97 0) (cond (Nat.beq u 6) (.int .i64 t6) (cond (Nat.beq u 17) (.int .i64 t17) (cond (Nat.beq u 18) (.int .i64 t18) (cond (Nat.beq u 33) (.int .i64 t33) (cond (Nat.beq u 34) (.int .i64 t34) (cond (Nat.beq u 52) (.any) (cond (Nat.beq u 53) (.any) (cond (Nat.beq u 54) (.any) (cond (Nat.beq u 55) (.any) (cond (Nat.beq u 56) (.any) (cond (Nat.beq u 57) (.any) (cond (Nat.beq u 58) (.any) (cond (Nat.beq u 59) (.any) (cond (Nat.beq u 60) (.any) (cond (Nat.beq u 61) (.any) (cond (Nat.beq u 62) (.any) (cond (Nat.beq u 65) (.any) (cond (Nat.beq u 66) (.any) (cond (Nat.beq u 67) (.any) (cond (Nat.beq u 68) (.any) (cond (Nat.beq u 69) (.any) (cond (Nat.beq u 70) (.any) (cond (Nat.beq u 71) (.any) (cond (Nat.beq u 72) (.any) (cond (Nat.beq u 75) (.any) (cond (Nat.beq u 76) (.any) (cond (Nat.beq u 77) (.any) (cond (Nat.beq u 78) (.any) (cond (Nat.beq u 79) (.any) (cond (Nat.beq u 80) (.any) (cond (Nat.beq u 81) (.any) (cond (Nat.beq u 82) (.any) (cond (Nat.beq u 83) (.any) (cond (Nat.beq u 84) (.any) (cond (Nat.beq u 85) (.any) (.any)))))))))))))))))))))))))))))))))))))), fun u => cond (Nat.beq u 2) (some (.cells [.sl .int c2_0, .sl .int c2_1])) (cond (Nat.beq u 27) (some (.row .bool 0 l27)) (cond (Nat.beq u 97) (some (.rowF .bools 0 l97 i97 27 0)) (none)))⟩
def st_geom_grid_covered_2 (t1 : List Rect) (t6 : Int) (t7 : Int) (t17 : Int) (t18 : Int) (t33 : Int) (t34 : Int) (t37 : List Rect) (t38 : Int) (t39 : Int) (c2_0 : List Int) (c2_1 : List Int) (l27 : List Bool) (l97 : List (List Bool)) (i97 : Nat) : ASt UU := ⟨fun u => cond (Nat.beq u 1) (.sl .rect t1) (cond (Nat.beq u 2) (.ptr 2 0) (cond (Nat.beq u 5) (.osl 97 0) (cond (Nat.beq u 6) (.int .i64 t6) (cond (Nat.beq u 7) (.int .i64 t7) (cond (Nat.beq u 17) (.int .i64 t17) (cond (Nat.beq u 18) (.int .i64 t18) (cond (Nat.beq u 33) (.int .i64 t33) (cond (Nat.beq u 34) (.int .i64 t34) (cond (Nat.beq u 37) (.sl .rect t37) (cond (Nat.beq u 38) (.int .i64 t38) (cond (Nat.beq u 39) (.int .i64 t39) (.any)))))))))))), fun u => cond (Nat.beq u 2) (some (.cells [.sl .int c2_0, .sl .int c2_1])) (cond (Nat.beq u 27) (some (.row .bool 0 l27)) (cond (Nat.beq u 97) (some (.rowF .bools 0 l97 i97 27 0)) (none)))⟩
def g_geom_grid_covered_e (a0_x : List Int) (a0_y : List Int) (a1 : List Rect) (Q : List (List Bool) → Prop) (i0 : List Rect → Int → Int → List Int → List Int → List (List Bool) → Prop) : Prop := ((0 ≤ (ma 0 (w64 ((a0_x.length : Int) - 1))) ∧ (ma 0 (w64 ((a0_x.length : Int) - 1))) = (ma 0 (w64 ((a0_x.length : Int) - 1))) ∧ (ma 0 (w64 ((a0_x.length : Int) - 1))) * 24 ≤ 140737488355328) ∧ (let v0 := ((List.replicate ((ma 0 (w64 ((a0_x.length : Int) - 1))).toNat) ([] : List Bool)).length : Int); i0 a1 v0 0 a0_x a0_y (List.replicate ((ma 0 (w64 ((a0_x.length : Int) - 1))).toNat) ([] : List Bool))))
def g_geom_grid_covered_s0 (rec : List Rect → Int → Int → List Int → List Int → List (List Bool) → Prop) (x0 : List Rect → Int → Int → List Int → List Int → List (List Bool) → Prop) (t1 : List Rect) (t17 : Int) (t18 : Int) (c2_0 : List Int) (c2_1 : List Int) (l97 : List (List Bool)) (i1 : List Rect → Int → Int → Int → Int → Int → List Int → List Int → List Bool → List (List Bool) → Nat → Prop) : Prop := cond (decide (t18 < t17)) ((((0 ≤ (w64 ((c2_1.length : Int) - 1)) ∧ (w64 ((c2_1.length : Int) - 1)) = (w64 ((c2_1.length : Int) - 1)) ∧ (w64 ((c2_1.length : Int) - 1)) * 1 ≤ 140737488355328) ∧ (0 ≤ t18 ∧ t18 < l97.length)) ∧ (let v0 := ((List.replicate ((w64 ((c2_1.length : Int) - 1)).toNat) (false : Bool)).length : Int); (((0 ≤ t18 ∧ t18 < l97.length) ∧ (t18.toNat = t18.toNat)) ∧ i1 t1 t18 t17 t18 v0 0 c2_0 c2_1 (List.replicate ((w64 ((c2_1.length : Int) - 1)).toNat) (false : Bool)) l97 t18.toNat)))) (x0 t1 t17 t18 c2_0 c2_1 l97)
def g_geom_grid_covered_c0_0 (Q : List (List Bool) → Prop) (t1 : List Rect) (t17 : Int) (t18 : Int) (c2_0 : List Int) (c2_1 : List Int) (l97 : List (List Bool)) : Prop := Q l97
def g_geom_grid_covered_s1 (rec : List Rect → Int → Int → Int → Int → Int → List Int → List Int → List Bool → List (List Bool) → Nat → Prop) (x0 : List Rect → Int → Int → Int → Int → Int → List Int → List Int → List Bool → List (List Bool) → Nat → Prop) (t1 : List Rect) (t6 : Int) (t17 : Int) (t18 : Int) (t33 : Int) (t34 : Int) (c2_0 : List Int) (c2_1 : List Int) (l27 : List Bool) (l97 : List (List Bool)) (i97 : Nat) (i2 : List Rect → Int → Int → Int → Int → Int → Int → List Rect → Int → Int → List Int → List Int → List Bool → List (List Bool) → Nat → Prop) : Prop := cond (decide (t34 < t33)) (i2 t1 t6 t34 t17 t18 t33 t34 t1 (t1.length : Int) 0 c2_0 c2_1 l27 l97 i97) (x0 t1 t6 t17 t18 t33 t34 c2_0 c2_1 l27 l97 i97)
def g_geom_grid_covered_c1_0 (rec : List Rect → Int → Int → List Int → List Int → List (List Bool) → Prop) (x0 : List Rect → Int → Int → List Int → List Int → List (List Bool) → Prop) (t1 : List Rect) (t6 : Int) (t17 : Int) (t18 : Int) (t33 : Int) (t34 : Int) (c2_0 : List Int) (c2_1 : List Int) (l27 : List Bool) (l97 : List (List Bool)) (i97 : Nat) : Prop := rec t1 t17 (w64 (t18 + 1)) c2_0 c2_1 (l97.set i97 l27)
def g_geom_grid_covered_s2 (rec : List Rect → Int → Int → Int → Int → Int → Int → List Rect → Int → Int → List Int → List Int → List Bool → List (List Bool) → Nat → Prop) (x0 : List Rect → Int → Int → Int → Int → Int → Int → List Rect → Int → Int → List Int → List Int → List Bool → List (List Bool) → Nat → Prop) (t1 : List Rect) (t6 : Int) (t7 : Int) (t17 : Int) (t18 : Int) (t33 : Int) (t34 : Int) (t37 : List Rect) (t38 : Int) (t39 : Int) (c2_0 : List Int) (c2_1 : List Int) (l27 : List Bool) (l97 : List (List Bool)) (i97 : Nat) : Prop := cond (decide (t39 < t38)) ((let e0 := (t37.getD t39.toNat default); ((0 ≤ t39 ∧ t39 < t37.length) ∧ (let e1 := (c2_0.getD t6.toNat default); ((0 ≤ t6 ∧ t6 < c2_0.length) ∧ cond (decide (e0.X ≤ e1)) ((let e2 := (c2_0.getD t6.toNat default); ((0 ≤ t6 ∧ t6 < c2_0.length) ∧ cond (decide (e2 < (w64 (e0.X + e0.W)))) ((let e3 := (c2_1.getD t7.toNat default); ((0 ≤ t7 ∧ t7 < c2_1.length) ∧ cond (decide (e0.Y ≤ e3)) ((let e4 := (c2_1.getD t7.toNat default); ((0 ≤ t7 ∧ t7 < c2_1.length) ∧ cond (decide (e4 < (w64 (e0.Y + e0.H)))) ((((0 ≤ t6 ∧ t6 < l97.length) ∧ ((t6.toNat = i97) ∧ (0 ≤ t7 ∧ t7 < l27.length))) ∧ rec t1 t6 t7 t17 t18 t33 t34 t37 t38 (w64 (t39 + 1)) c2_0 c2_1 (l27.set t7.toNat true) l97 i97)) (rec t1 t6 t7 t17 t18 t33 t34 t37 t38 (w64 (t39 + 1)) c2_0 c2_1 l27 l97 i97)))) (rec t1 t6 t7 t17 t18 t33 t34 t37 t38 (w64 (t39 + 1)) c2_0 c2_1 l27 l97 i97)))) (rec t1 t6 t7 t17 t18 t33 t34 t37 t38 (w64 (t39 + 1)) c2_0 c2_1 l27 l97 i97)))) (rec t1 t6 t7 t17 t18 t33 t34 t37 t38 (w64 (t39 + 1)) c2_0 c2_1 l27 l97 i97)))))) (x0 t1 t6 t7 t17 t18 t33 t34 t37 t38 t39 c2_0 c2_1 l27 l97 i97)
def g_geom_grid_covered_c2_0 (rec : List Rect → Int → Int → Int → Int → Int → List Int → List Int → List Bool → List (List Bool) → Nat → Prop) (x0 : List Rect → Int → Int → Int → Int → Int → List Int → List Int → List Bool → List (List Bool) → Nat → Prop) (t1 : List Rect) (t6 : Int) (t7 : Int) (t17 : Int) (t18 : Int) (t33 : Int) (t34 : Int) (t37 : List Rect) (t38 : Int) (t39 : Int) (c2_0 : List Int) (c2_1 : List Int) (l27 : List Bool) (l97 : List (List Bool)) (i97 : Nat) : Prop := rec t1 t6 t17 t18 t33 (w64 (t34 + 1)) c2_0 c2_1 l27 l97 i97
def w_geom_grid_covered_2 (F : Nat) (x0 : List Rect → Int → Int → Int → Int → Int → Int → List Rect → Int → Int → List Int → List Int → List Bool → List (List Bool) → Nat → Prop) : Nat → List Rect → Int → Int → Int → Int → Int → Int → List Rect → Int → Int → List Int → List Int → List Bool → List (List Bool) → Nat → Prop
  | 0, _, _, _, _, _, _, _, _, _, _, _, _, _, _, _ => False
  | n + 1, t1, t6, t7, t17, t18, t33, t34, t37, t38, t39, c2_0, c2_1, l27, l97, i97 => g_geom_grid_covered_s2 (w_geom_grid_covered_2 F x0 n) x0 t1 t6 t7 t17 t18 t33 t34 t37 t38 t39 c2_0 c2_1 l27 l97 i97
def n_geom_grid_covered_2 (F : Nat) (rec : List Rect → Int → Int → Int → Int → Int → List Int → List Int → List Bool → List (List Bool) → Nat → Prop) (x0 : List Rect → Int → Int → Int → Int → Int → List Int → List Int → List Bool → List (List Bool) → Nat → Prop) (t1 : List Rect) (t6 : Int) (t7 : Int) (t17 : Int) (t18 : Int) (t33 : Int) (t34 : Int) (t37 : List Rect) (t38 : Int) (t39 : Int) (c2_0 : List Int) (c2_1 : List Int) (l27 : List Bool) (l97 : List (List Bool)) (i97 : Nat) : Prop := w_geom_grid_covered_2 F (fun t1 t6 t7 t17 t18 t33 t34 t37 t38 t39 c2_0 c2_1 l27 l97 i97 => g_geom_grid_covered_c2_0 rec x0 t1 t6 t7 t17 t18 t33 t34 t37 t38 t39 c2_0 c2_1 l27 l97 i97) F t1 t6 t7 t17 t18 t33 t34 t37 t38 t39 c2_0 c2_1 l27 l97 i97
def w_geom_grid_covered_1 (F : Nat) (x0 : List Rect → Int → Int → Int → Int → Int → List Int → List Int → List Bool → List (List Bool) → Nat → Prop) : Nat → List Rect → Int → Int → Int → Int → Int → List Int → List Int → List Bool → List (List Bool) → Nat → Prop
  | 0, _, _, _, _, _, _, _, _, _, _, _ => False
  | n + 1, t1, t6, t17, t18, t33, t34, c2_0, c2_1, l27, l97, i97 => g_geom_grid_covered_s1 (w_geom_grid_covered_1 F x0 n) x0 t1 t6 t17 t18 t33 t34 c2_0 c2_1 l27 l97 i97 (n_geom_grid_covered_2 F (w_geom_grid_covered_1 F x0 n) x0)
def n_geom_grid_covered_1 (F : Nat) (rec : List Rect → Int → Int → List Int → List Int → List (List Bool) → Prop) (x0 : List Rect → Int → Int → List Int → List Int → List (List Bool) → Prop) (t1 : List Rect) (t6 : Int) (t17 : Int) (t18 : Int) (t33 : Int) (t34 : Int) (c2_0 : List Int) (c2_1 : List Int) (l27 : List Bool) (l97 : List (List Bool)) (i97 : Nat) : Prop := w_geom_grid_covered_1 F (fun t1 t6 t17 t18 t33 t34 c2_0 c2_1 l27 l97 i97 => g_geom_grid_covered_c1_0 rec x0 t1 t6 t17 t18 t33 t34 c2_0 c2_1 l27 l97 i97) F t1 t6 t17 t18 t33 t34 c2_0 c2_1 l27 l97 i97
def w_geom_grid_covered_0 (F : Nat) (x0 : List Rect → Int → Int → List Int → List Int → List (List Bool) → Prop) : Nat → List Rect → Int → Int → List Int → List Int → List (List Bool) → Prop
  | 0, _, _, _, _, _, _ => False
  | n + 1, t1, t17, t18, c2_0, c2_1, l97 => g_geom_grid_covered_s0 (w_geom_grid_covered_0 F x0 n) x0 t1 t17 t18 c2_0 c2_1 l97 (n_geom_grid_covered_1 F (w_geom_grid_covered_0 F x0 n) x0)
def n_geom_grid_covered_0 (F : Nat) (Q : List (List Bool) → Prop) (t1 : List Rect) (t17 : Int) (t18 : Int) (c2_0 : List Int) (c2_1 : List Int) (l97 : List (List Bool)) : Prop := w_geom_grid_covered_0 F (fun t1 t17 t18 c2_0 c2_1 l97 => g_geom_grid_covered_c0_0 Q t1 t17 t18 c2_0 c2_1 l97) F t1 t17 t18 c2_0 c2_1 l97
def w_geom_grid_covered (F : Nat) (a0_x : List Int) (a0_y : List Int) (a1 : List Rect) (Q : List (List Bool) → Prop) : Prop := g_geom_grid_covered_e a0_x a0_y a1 Q (n_geom_grid_covered_0 F Q)
end
end Go.Proofs.Ytohecfbnmmgimaa

namespace Go.Proofs.Ytohecfbnmmgimaa
open Go.Vm Go.RowKit
set_option linter.unusedVariables false
noncomputable section

/-! ### lists of rectangles -/
def sp_geom_rects (L : List (List Rect)) : Int := bif L.any (fun l => decide (48 < l.length)) then 4 else bif L.all (·.all vR) then 0 else 1
theorem lp_rects0 (F : Nat) (x0 x1 : List (List Rect) → Int → List (List Rect) → Int → Int → Prop) (t0 : List (List Rect)) (t2 : Int) (L : List (List Rect)) (hL : sh L) : ∀ (n i : Nat), i ≤ L.length → L.length < i + n →
    (∀ j, (L.drop i).any (fun l => decide (48 < l.length)) = true → x0 t0 4 L L.length j) → ((L.drop i).any (fun l => decide (48 < l.length)) = false → x1 t0 t2 L L.length L.length) → w_geom_rects_0 F x0 x1 n t0 t2 L L.length i := by
  intro n
  induction n with
  | zero => intro i h1 h2; omega
  | succ n ih =>
    intro i h1 h2 e0 e1
    show g_geom_rects_s0 (w_geom_rects_0 F x0 x1 n) x0 x1 t0 t2 L L.length i
    unfold g_geom_rects_s0
    by_cases h : i < L.length
    · rw [dec_t (by omega), cond_true, Int.toNat_natCast]
      rw [drop_getD L i h, List.any_cons] at e0 e1
      refine ⟨by omega, ?_⟩
      revert e0 e1
      generalize L.getD i default = l
      intro e0 e1
      by_cases h48 : 48 < l.length
      · rw [dec_t (by omega), cond_true]
        rw [dec_t h48] at e0
        exact e0 _ rfl
      · rw [dec_f (by omega), cond_false]
        rw [dec_f h48, Bool.false_or] at e0 e1
        rw [w64_succ h (by unfold sh at hL; omega)]
        exact ih _ (by omega) (by omega) e0 e1
    · rw [dec_f (by omega), cond_false]
      have he : i = L.length := by omega
      rw [he] at e1 ⊢
      exact e1 (by simp)
theorem lp_rects2 (F : Nat) (x0 x1 : Int → List (List Rect) → Int → Int → List Rect → Int → Int → Prop) (t2 : Int) (L : List (List Rect)) (a b : Int) (l : List Rect) (hl : sh l) : ∀ (n i : Nat), i ≤ l.length → l.length < i + n →
    (∀ j, (l.drop i).all vR = false → x0 1 L a b l l.length j) → ((l.drop i).all vR = true → x1 t2 L a b l l.length l.length) → w_geom_rects_2 F x0 x1 n t2 L a b l l.length i := by
  intro n
  induction n with
  | zero => intro i h1 h2; omega
  | succ n ih =>
    intro i h1 h2 e0 e1
    show g_geom_rects_s2 (w_geom_rects_2 F x0 x1 n) x0 x1 t2 L a b l l.length i
    unfold g_geom_rects_s2
    by_cases h : i < l.length
    · rw [dec_t (by omega), cond_true, Int.toNat_natCast]
      rw [drop_getD l i h, List.all_cons] at e0 e1
      refine ⟨by omega, ?_⟩
      change (cond (!(vG (l.getD i default))) _ _)
      rw [vG_vR]
      cases hr : vR (l.getD i default)
      · rw [hr] at e0
        exact e0 _ rfl
      · rw [hr] at e0 e1
        simp only [Bool.not_true, cond_false]
        rw [w64_succ h (by unfold sh at hl; omega)]
        exact ih _ (by omega) (by omega) e0 e1
    · rw [dec_f (by omega), cond_false]
      have he : i = l.length := by omega
      rw [he] at e1 ⊢
      exact e1 (by simp)
theorem lp_rects1 (F : Nat) (hF : 1000 < F) (x0 x1 : Int → List (List Rect) → Int → Int → Prop) (t2 : Int) (L : List (List Rect)) (hL : sh L) (h48 : ∀ l ∈ L, l.length ≤ 48) : ∀ (n i : Nat), i ≤ L.length → L.length < i + n →
    (∀ j, (L.drop i).all (·.all vR) = false → x1 1 L L.length j) → ((L.drop i).all (·.all vR) = true → x0 t2 L L.length L.length) → w_geom_rects_1 F x0 x1 n t2 L L.length i := by
  intro n
  induction n with
  | zero => intro i h1 h2; omega
  | succ n ih =>
    intro i h1 h2 e0 e1
    show g_geom_rects_s1 (w_geom_rects_1 F x0 x1 n) x0 x1 t2 L L.length i (n_geom_rects_2 F (w_geom_rects_1 F x0 x1 n) x0 x1)
    unfold g_geom_rects_s1
    by_cases h : i < L.length
    · rw [dec_t (by omega), cond_true, Int.toNat_natCast]
      have hm : L.getD i default ∈ L := by simp [List.getD, h]
      have hl48 := h48 _ hm
      rw [drop_getD L i h, List.all_cons] at e0 e1
      refine ⟨by omega, ?_⟩
      revert e0 e1 hl48
      generalize L.getD i default = l
      intro e0 e1 hl48
      refine lp_rects2 F _ _ t2 L _ _ l (by unfold sh; omega) F 0 (by omega) (by omega) (fun j e => ?_) (fun e => ?_)
      · rw [List.drop_zero] at e
        rw [e] at e0
        exact e0 _ rfl
      · rw [List.drop_zero] at e
        rw [e] at e0 e1
        show w_geom_rects_1 F x0 x1 n t2 L _ (w64 _)
        rw [w64_succ h (by unfold sh at hL; omega)]
        exact ih _ (by omega) (by omega) e0 e1
    · rw [dec_f (by omega), cond_false]
      have he : i = L.length := by omega
      rw [he] at e1 ⊢
      exact e1 (by simp)
def pre_geom_rects (L : List (List Rect)) : Prop := sh L
theorem ok_geom_rects (a0 : List (List Rect)) (h : pre_geom_rects a0) : ∃ F, ∀ Q : Int → Prop, Q (sp_geom_rects a0) → w_geom_rects F a0 Q := by
  refine ⟨1001, fun Q hQ => ?_⟩
  unfold w_geom_rects g_geom_rects_e n_geom_rects_0
  unfold sp_geom_rects at hQ
  have hs : a0.length ≤ 1000 := h
  refine lp_rects0 1001 _ _ a0 0 a0 h 1001 0 (by omega) (by omega) (fun j e => ?_) (fun e => ?_)
  · rw [List.drop_zero] at e
    rw [e] at hQ
    exact hQ
  · rw [List.drop_zero] at e
    rw [e] at hQ
    simp only [cond_false] at hQ
    have h48 : ∀ l ∈ a0, l.length ≤ 48 := fun l hl => by
      have := List.any_eq_false.1 e l hl
      simp only [decide_eq_true_eq] at this
      omega
    refine lp_rects1 1001 (by omega) _ _ 0 a0 h h48 1001 0 (by omega) (by omega) (fun j e2 => ?_) (fun e2 => ?_)
    all_goals
      rw [List.drop_zero] at e2
      rw [e2] at hQ
      exact hQ

/-! ### lines in order -/
def pre_law03_ordered (R C M : List Rect) (B : List Bend) : Prop := sh B
def sp_law03_ordered (R C M : List Rect) (B : List Bend) : Bool := B.all ordB
theorem lp_ordered (F : Nat) (x0 x1 : Bool → Int → List Rect → List Rect → List Rect → List Bend → Prop) (t2 : Bool) (R C M : List Rect) (l : List Bend) (hl : sh l) : ∀ (n i : Nat), i ≤ l.length → l.length < i + n →
    (∀ j, (l.drop i).all ordB = false → x0 false j R C M l) → ((l.drop i).all ordB = true → x1 t2 l.length R C M l) → w_law03_ordered_0 F x0 x1 n t2 i R C M l := by
  intro n
  induction n with
  | zero => intro i h1 h2; omega
  | succ n ih =>
    intro i h1 h2 e0 e1
    show g_law03_ordered_s0 (w_law03_ordered_0 F x0 x1 n) x0 x1 t2 i R C M l
    unfold g_law03_ordered_s0
    by_cases h : i < l.length
    · rw [dec_t (by omega), cond_true, Int.toNat_natCast]
      rw [drop_getD l i h, List.all_cons] at e0 e1
      refine ⟨by omega, ?_⟩
      revert e0 e1
      generalize l.getD i default = b
      intro e0 e1
      have hb : (decide (b.Line_X2 < b.Line_X1) || decide (b.Line_Y2 < b.Line_Y1)) = !ordB b := by
        unfold ordB
        rw [Bool.not_and, ← decide_not, ← decide_not]
        congr 1 <;> exact decide_eq_decide.2 (by omega)
      rw [hb]
      cases hr : ordB b
      · rw [hr] at e0
        exact e0 _ rfl
      · rw [hr] at e0 e1
        simp only [Bool.not_true, cond_false]
        rw [w64_succ h (by unfold sh at hl; omega)]
        exact ih _ (by omega) (by omega) e0 e1
    · rw [dec_f (by omega), cond_false]
      have he : i = l.length := by omega
      rw [he] at e1 ⊢
      exact e1 (by simp)
theorem ok_law03_ordered (a0_Rects : List Rect) (a0_Cuts : List Rect) (a0_Forms : List Rect) (a0_Bends : List Bend) (h : pre_law03_ordered a0_Rects a0_Cuts a0_Forms a0_Bends) : ∃ F, ∀ Q : Bool → Prop, Q (sp_law03_ordered a0_Rects a0_Cuts a0_Forms a0_Bends) → w_law03_ordered F a0_Rects a0_Cuts a0_Forms a0_Bends Q := by
  refine ⟨1001, fun Q hQ => ?_⟩
  unfold w_law03_ordered g_law03_ordered_e n_law03_ordered_0
  unfold sp_law03_ordered at hQ
  have hs : a0_Bends.length ≤ 1000 := h
  refine lp_ordered 1001 _ _ false _ _ _ a0_Bends h 1001 0 (by omega) (by omega) (fun j e => ?_) (fun e => ?_)
  all_goals
    rw [List.drop_zero] at e
    rw [e] at hQ
    exact hQ

/-! ### places in order -/
def pos (l : List Int) (a : Int) : Nat := (l.takeWhile fun b => decide (b < a)).length
def insI (l : List Int) (a : Int) : List Int := cond (decide (pos l a < l.length) && (l.getD (pos l a) default == a)) l ((l.take (pos l a) ++ [a]) ++ l.drop (pos l a))
def insR : List Int → Int → List Int
  | [], a => [a]
  | b :: l, a => if b < a then b :: insR l a else if b = a then b :: l else a :: b :: l
theorem pos_le (l : List Int) (a : Int) : pos l a ≤ l.length := by
  unfold pos
  induction l with
  | nil => simp
  | cons b l ih =>
    rw [List.takeWhile_cons]
    split
    · simp only [List.length_cons]; omega
    · simp
theorem pos_cons (b : Int) (l : List Int) (a : Int) : pos (b :: l) a = if b < a then pos l a + 1 else 0 := by
  unfold pos
  rw [List.takeWhile_cons]
  by_cases h : b < a
  · simp [h]
  · simp [h]
theorem insI_insR (l : List Int) (a : Int) : insI l a = insR l a := by
  induction l with
  | nil => rfl
  | cons b l ih =>
    unfold insI at ih ⊢
    rw [pos_cons]
    unfold insR
    by_cases h : b < a
    · rw [if_pos h, if_pos h]
      rw [← ih]
      have e1 : (b :: l).getD (pos l a + 1) default = l.getD (pos l a) default := by simp
      have e2 : decide (pos l a + 1 < (b :: l).length) = decide (pos l a < l.length) := decide_eq_decide.2 (by simp)
      rw [e1, e2]
      cases (decide (pos l a < l.length) && (l.getD (pos l a) default == a))
      · simp
      · rfl
    · rw [if_neg h, if_neg h]
      by_cases h2 : b = a
      · subst h2
        simp
      · rw [if_neg h2]
        have : (b == a) = false := by simpa using h2
        simp [this]
def pre_flat_insert (l : List Int) (a : Int) : Prop := l.length ≤ 100000
def sp_flat_insert (l : List Int) (a : Int) : List Int := insR l a
theorem lp_insert (F : Nat) (x0 : List Int → Int → Int → Prop) (l : List Int) (a : Int) (hl : l.length ≤ 100000) : ∀ (n i : Nat), i ≤ l.length → l.length < i + n →
    x0 l a ((i + pos (l.drop i) a : Nat) : Int) → w_flat_insert_0 F x0 n l a i := by
  intro n
  induction n with
  | zero => intro i h1 h2; omega
  | succ n ih =>
    intro i h1 h2 e
    show g_flat_insert_s0 (w_flat_insert_0 F x0 n) x0 l a i
    unfold g_flat_insert_s0
    refine ⟨fun hd => by have := of_decide_eq_true hd; omega, ?_⟩
    rw [Int.toNat_natCast]
    by_cases h : i < l.length
    · rw [dec_t (by omega), Bool.true_and]
      rw [drop_getD l i h, pos_cons] at e
      revert e
      generalize l.getD i default = b
      intro e
      by_cases hb : b < a
      · rw [dec_t hb, cond_true, w64_succ h (by omega)]
        rw [if_pos hb] at e
        refine ih _ (by omega) (by omega) ?_
        have : i + 1 + pos (l.drop (i + 1)) a = i + (pos (l.drop (i + 1)) a + 1) := by omega
        rw [this]
        exact e
      · rw [dec_f hb, cond_false]
        rw [if_neg hb] at e
        exact e
    · rw [dec_f (by omega), Bool.false_and, cond_false]
      have he : i = l.length := by omega
      have : pos (l.drop i) a = 0 := by rw [he]; simp [pos]
      rw [this] at e
      exact e
theorem ok_flat_insert (a0 : List Int) (a1 : Int) (h : pre_flat_insert a0 a1) : ∃ F, ∀ Q : List Int → Prop, Q (sp_flat_insert a0 a1) → w_flat_insert F a0 a1 Q := by
  refine ⟨100001, fun Q hQ => ?_⟩
  unfold w_flat_insert g_flat_insert_e n_flat_insert_0
  have hs : a0.length ≤ 100000 := h
  refine lp_insert 100001 _ a0 a1 h 100001 0 (by omega) (by omega) ?_
  unfold sp_flat_insert at hQ
  rw [← insI_insR] at hQ
  rw [List.drop_zero, Nat.zero_add]
  have hp := pos_le a0 a1
  unfold g_flat_insert_c0_0
  rw [Int.toNat_natCast]
  refine ⟨fun hd => by have := of_decide_eq_true hd; omega, ?_⟩
  unfold insI at hQ
  have hd : decide (((pos a0 a1 : Nat) : Int) < (a0.length : Int)) = decide (pos a0 a1 < a0.length) := decide_eq_decide.2 (by omega)
  rw [hd]
  cases hc : (decide (pos a0 a1 < a0.length) && (a0.getD (pos a0 a1) default == a1))
  · rw [hc, cond_false] at hQ
    rw [cond_false]
    have hl1 : (a0.take (pos a0 a1)).length ≤ 100000 := by simp; omega
    refine ⟨⟨by omega, by omega⟩, ?_, by omega, ?_, hQ⟩
    · simp only [List.length_singleton]; omega
    · simp only [List.length_append, List.length_singleton, List.length_drop]; omega
  · rw [hc, cond_true] at hQ
    rw [cond_true]
    exact hQ
/-- Numbers as a set in order. -/
def srt (l : List Int) : List Int := l.foldr (fun a s => insR s a) []

/-! ### the cells of a grid -/
def inB (r : Rect) (a b : Int) : Bool := decide (r.X ≤ a) && (decide (a < r.X + r.W) && (decide (r.Y ≤ b) && decide (b < r.Y + r.H)))
def covB (l : List Rect) (a b : Int) : Bool := l.any fun r => inB r a b
def pre_geom_grid_covered (x y : List Int) (l : List Rect) : Prop := sh x ∧ sh y ∧ (x ≠ [] → y ≠ []) ∧ sh l ∧ ∀ r ∈ l, vR r = true
def sp_geom_grid_covered (x y : List Int) (l : List Rect) : List (List Bool) := x.dropLast.map fun a => y.dropLast.map fun b => covB l a b
theorem lp_cov2 (F : Nat) (x0 : List Rect → Int → Int → Int → Int → Int → Int → List Rect → Int → Int → List Int → List Int → List Bool → List (List Bool) → Nat → Prop) (t1 : List Rect) (i j : Nat) (t17 t18 t33 t34 : Int) (l : List Rect) (x y : List Int) (L : List (List Bool)) (hl : sh l) (hv : ∀ r ∈ l, vR r = true)
    (hi : i < x.length) (hj : j < y.length) (hL : i < L.length) : ∀ (n k : Nat) (row : List Bool), j < row.length → k ≤ l.length → l.length < k + n →
    x0 t1 i j t17 t18 t33 t34 l l.length l.length x y (cond (covB (l.drop k) (x.getD i default) (y.getD j default)) (row.set j true) row) L i → w_geom_grid_covered_2 F x0 n t1 i j t17 t18 t33 t34 l l.length k x y row L i := by
  intro n
  induction n with
  | zero => intro k row h0 h1 h2; omega
  | succ n ih =>
    intro k row hr h1 h2 e
    show g_geom_grid_covered_s2 (w_geom_grid_covered_2 F x0 n) x0 t1 i j t17 t18 t33 t34 l l.length k x y row L i
    unfold g_geom_grid_covered_s2
    by_cases h : k < l.length
    · rw [dec_t (by omega), cond_true]
      rw [Int.toNat_natCast, Int.toNat_natCast, Int.toNat_natCast]
      have hm : l.getD k default ∈ l := by simp [List.getD, h]
      have hb := (vR_iff _).1 (hv _ hm)
      rw [drop_getD l k h] at e
      unfold covB at e
      rw [List.any_cons] at e
      change x0 t1 i j t17 t18 t33 t34 l l.length l.length x y (cond (_ || covB (l.drop (k + 1)) _ _) _ _) L i at e
      rw [w64_succ h (by unfold sh at hl; omega)]
      revert e hb ih
      generalize l.getD k default = r
      generalize x.getD i default = a
      generalize y.getD j default = b
      intro ih hb e
      dsimp only
      rw [w64_of (n := r.X + r.W) (by omega) (by omega), w64_of (n := r.Y + r.H) (by omega) (by omega)]
      unfold inB at e
      refine ⟨by omega, by omega, ?_⟩
      cases c1 : decide (r.X ≤ a)
      · rw [cond_false]
        rw [c1, Bool.false_and, Bool.false_or] at e
        exact ih _ _ hr (by omega) (by omega) e
      · rw [cond_true]
        rw [c1, Bool.true_and] at e
        refine ⟨by omega, ?_⟩
        cases c2 : decide (a < r.X + r.W)
        · rw [cond_false]
          rw [c2, Bool.false_and, Bool.false_or] at e
          exact ih _ _ hr (by omega) (by omega) e
        · rw [cond_true]
          rw [c2, Bool.true_and] at e
          refine ⟨by omega, ?_⟩
          cases c3 : decide (r.Y ≤ b)
          · rw [cond_false]
            rw [c3, Bool.false_and, Bool.false_or] at e
            exact ih _ _ hr (by omega) (by omega) e
          · rw [cond_true]
            rw [c3, Bool.true_and] at e
            refine ⟨by omega, ?_⟩
            cases c4 : decide (b < r.Y + r.H)
            · rw [cond_false]
              rw [c4, Bool.false_or] at e
              exact ih _ _ hr (by omega) (by omega) e
            · rw [cond_true]
              rw [c4, Bool.true_or, cond_true] at e
              refine ⟨⟨by omega, rfl, by omega⟩, ?_⟩
              refine ih _ _ (by simpa using hr) (by omega) (by omega) ?_
              have : (cond (covB (l.drop (k + 1)) a b) ((row.set j true).set j true) (row.set j true)) = row.set j true := by
                rw [List.set_set]
                cases covB (l.drop (k + 1)) a b <;> rfl
              rw [this]
              exact e
    · rw [dec_f (by omega), cond_false]
      have he : k = l.length := by omega
      rw [he] at e ⊢
      rw [List.drop_length] at e
      exact e
theorem set_mid {α : Type} (l : List α) (k m : Nat) (z v : α) (hl : l.length = k) (hk : k < m) : (l ++ List.replicate (m - k) z).set k v = (l ++ [v]) ++ List.replicate (m - (k + 1)) z := by
  have e : m - k = (m - (k + 1)) + 1 := by omega
  rw [List.set_append_right k v (by omega), hl, Nat.sub_self, e, List.replicate_succ, List.set_cons_zero]
  simp
theorem take_snoc (y : List Int) (k : Nat) (h : k < y.length) : y.take (k + 1) = y.take k ++ [y.getD k default] := by
  rw [List.take_succ_eq_append_getElem h]
  simp [h]
theorem lp_cov1 (F : Nat) (hF : 1000 < F) (rec x0 : List Rect → Int → Int → List Int → List Int → List (List Bool) → Prop) (l : List Rect) (i : Nat) (t17 : Int) (x y : List Int) (L : List (List Bool)) (m : Nat) (hm : m + 1 = y.length) (hy : sh y) (hl : sh l) (hv : ∀ r ∈ l, vR r = true)
    (hi : i < x.length) (hL : i < L.length) : ∀ (n j : Nat), j ≤ m → m < j + n →
    rec l t17 (w64 (i + 1)) x y (L.set i ((y.take m).map fun b => covB l (x.getD i default) b)) →
    w_geom_grid_covered_1 F (fun t1 t6 t17 t18 t33 t34 c2_0 c2_1 l27 l97 i97 => g_geom_grid_covered_c1_0 rec x0 t1 t6 t17 t18 t33 t34 c2_0 c2_1 l27 l97 i97) n l i t17 i m j x y (((y.take j).map fun b => covB l (x.getD i default) b) ++ List.replicate (m - j) false) L i := by
  intro n
  induction n with
  | zero => intro j h1 h2; omega
  | succ n ih =>
    intro j h1 h2 e
    show g_geom_grid_covered_s1 (w_geom_grid_covered_1 F _ n) _ l i t17 i m j x y _ L i (n_geom_grid_covered_2 F (w_geom_grid_covered_1 F _ n) _)
    unfold g_geom_grid_covered_s1
    by_cases h : j < m
    · rw [dec_t (by omega), cond_true]
      have hjl : ((y.take j).map fun b => covB l (x.getD i default) b).length = j := by simp; omega
      refine lp_cov2 F _ l i j _ _ _ _ l x y L hl hv hi (by omega) hL F 0 _ (by simp; omega) (by omega) (by unfold sh at hl; omega) ?_
      rw [List.drop_zero]
      show w_geom_grid_covered_1 F _ n l i t17 i m (w64 (j + 1)) x y _ L i
      rw [w64_succ h (by unfold sh at hy; omega)]
      have := ih (j + 1) (by omega) (by omega) e
      rw [take_snoc y j (by omega), List.map_append, List.map_singleton] at this
      cases hc : covB l (x.getD i default) (y.getD j default)
      · rw [hc] at this
        rw [cond_false]
        have e1 : m - j = (m - (j + 1)) + 1 := by omega
        rw [e1, List.replicate_succ]
        rw [List.append_assoc] at this
        exact this
      · rw [hc] at this
        rw [cond_true, set_mid _ j m false true hjl h]
        exact this
    · rw [dec_f (by omega), cond_false]
      have he : j = m := by omega
      subst he
      rw [Nat.sub_self, List.replicate_zero, List.append_nil]
      exact e
theorem dropLast_take (y : List Int) : y.dropLast = y.take (y.length - 1) := List.dropLast_eq_take
theorem lp_cov0 (F : Nat) (hF : 1000 < F) (x0 : List Rect → Int → Int → List Int → List Int → List (List Bool) → Prop) (l : List Rect) (x y : List Int) (k m : Nat) (hk : k < x.length) (hm : m + 1 = y.length) (hx : sh x) (hy : sh y) (hl : sh l) (hv : ∀ r ∈ l, vR r = true) : ∀ (n i : Nat), i ≤ k → k < i + n →
    x0 l k k x y ((x.take k).map fun a => (y.take m).map fun b => covB l a b) →
    w_geom_grid_covered_0 F x0 n l k i x y (((x.take i).map fun a => (y.take m).map fun b => covB l a b) ++ List.replicate (k - i) []) := by
  intro n
  induction n with
  | zero => intro i h1 h2; omega
  | succ n ih =>
    intro i h1 h2 e
    show g_geom_grid_covered_s0 (w_geom_grid_covered_0 F x0 n) x0 l k i x y _ (n_geom_grid_covered_1 F (w_geom_grid_covered_0 F x0 n) x0)
    unfold g_geom_grid_covered_s0
    have hil : ((x.take i).map fun a => (y.take m).map fun b => covB l a b).length = i := by simp; omega
    by_cases h : i < k
    · rw [dec_t (by omega), cond_true]
      have hw : w64 ((y.length : Int) - 1) = (m : Int) := by rw [w64_of (by omega) (by unfold sh at hy; omega)]; omega
      have hll : (((x.take i).map fun a => (y.take m).map fun b => covB l a b) ++ List.replicate (k - i) []).length = k := by simp; omega
      rw [hw]
      refine ⟨⟨⟨by omega, rfl, by unfold sh at hy; omega⟩, by omega, by rw [hll]; omega⟩, ⟨⟨by omega, by rw [hll]; omega⟩, rfl⟩, ?_⟩
      rw [Int.toNat_natCast, Int.toNat_natCast, List.length_replicate]
      have := lp_cov1 F hF (w_geom_grid_covered_0 F x0 n) x0 l i k x y (((x.take i).map fun a => (y.take m).map fun b => covB l a b) ++ List.replicate (k - i) []) m hm hy hl hv (by omega) (by rw [hll]; omega) F 0 (by omega) (by unfold sh at hy; omega) ?_
      · rw [List.take_zero, List.map_nil, List.nil_append, Nat.sub_zero] at this
        exact this
      · rw [w64_succ h (by unfold sh at hx; omega), set_mid _ i k [] _ hil h]
        have := ih (i + 1) (by omega) (by omega) e
        rw [take_snoc x i (by omega), List.map_append, List.map_singleton] at this
        exact this
    · rw [dec_f (by omega), cond_false]
      have he : i = k := by omega
      subst he
      rw [Nat.sub_self, List.replicate_zero, List.append_nil]
      exact e
theorem ok_geom_grid_covered (a0_x : List Int) (a0_y : List Int) (a1 : List Rect) (h : pre_geom_grid_covered a0_x a0_y a1) : ∃ F, ∀ Q : List (List Bool) → Prop, Q (sp_geom_grid_covered a0_x a0_y a1) → w_geom_grid_covered F a0_x a0_y a1 Q := by
  refine ⟨1001, fun Q hQ => ?_⟩
  obtain ⟨hx, hy, hn, hl, hv⟩ := h
  unfold w_geom_grid_covered g_geom_grid_covered_e n_geom_grid_covered_0
  unfold sp_geom_grid_covered at hQ
  rw [dropLast_take, dropLast_take] at hQ
  have hxl : a0_x.length ≤ 1000 := hx
  have hw : ma 0 (w64 ((a0_x.length : Int) - 1)) = ((a0_x.length - 1 : Nat) : Int) := by
    rw [ma_max, w64_of (by omega) (by omega)]
    omega
  rw [hw, Int.toNat_natCast]
  refine ⟨⟨by omega, rfl, by omega⟩, ?_⟩
  rw [List.length_replicate]
  cases hc : a0_x with
  | nil =>
    subst hc
    show w_geom_grid_covered_0 1001 _ 1001 a1 (0 : Nat) 0 [] a0_y []
    show g_geom_grid_covered_s0 _ _ _ _ _ _ _ _ _
    unfold g_geom_grid_covered_s0
    exact hQ
  | cons a l =>
    have hyl : 0 < a0_y.length := List.length_pos_iff.2 (hn (by rw [hc]; simp))
    rw [← hc]
    have := lp_cov0 1001 (by omega) (fun t1 t17 t18 c2_0 c2_1 l97 => g_geom_grid_covered_c0_0 Q t1 t17 t18 c2_0 c2_1 l97) a1 a0_x a0_y (a0_x.length - 1) (a0_y.length - 1) (by rw [hc]; simp) (by omega) hx hy hl hv 1001 0 (by omega) (by omega) hQ
    simpa using this
end
end Go.Proofs.Ytohecfbnmmgimaa

namespace Go.Proofs.Ytohecfbnmmgimaa
open Go.Vm Go.RowKit
set_option linter.unusedVariables false
noncomputable section
/-! ### sheetmetal/geom.newGrid -/
def M_geom_newGrid : Nat → Nat → Canon UU := fun b r => cond (Nat.beq b 0) ⟨[2, 3, 8, 9, 10], [2, 3], [(.cell 3 0, 55, .int), (.cell 3 1, 56, .int)], []⟩ (cond (Nat.beq b 2) ⟨[2, 3, 8, 9, 10, 14, 15, 16], [2, 3], [(.cell 3 0, 55, .int), (.cell 3 1, 56, .int)], []⟩ (⟨[], [], [], []⟩))
def st_geom_newGrid_0 (t8 : List (List Rect)) (t9 : Int) (t10 : Int) (l55 : List Int) (l56 : List Int) : ASt UU := ⟨fun u => cond (Nat.beq u 2) (.ptr 2 0) (cond (Nat.beq u 3) (.ptr 3 0) (cond (Nat.beq u 8) (.sl .rects t8) (cond (Nat.beq u 9) (.int .i64 t9) (cond (Nat.beq u 10) (.int .i64 t10) (.any))))), fun u => cond (Nat.beq u 55) (some (.row .int 0 l55)) (cond (Nat.beq u 56) (some (.row .int 0 l56)) (cond (Nat.beq u 2) (some (.cells [.nils, .nils])) (cond (Nat.beq u 3) (some (.cells [.osl 55 0, .osl 56 0])) (none))))⟩
def st_geom_newGrid_1 (t8 : List (List Rect)) (t9 : Int) (t10 : Int) (t14 : List Rect) (t15 : Int) (t16 : Int) (l55 : List Int) (l56 : List Int) : ASt UU := ⟨fun u => cond (Nat.beq u 2) (.ptr 2 0) (cond (Nat.beq u 3) (.ptr 3 0) (cond (Nat.beq u 8) (.sl .rects t8) (cond (Nat.beq u 9) (.int .i64 t9) (cond (Nat.beq u 10) (.int .i64 t10) (cond (Nat.beq u 14) (.sl .rect t14) (cond (Nat.beq u 15) (.int .i64 t15) (cond (Nat.beq u 16) (.int .i64 t16) (.any)))))))), fun u => cond (Nat.beq u 55) (some (.row .int 0 l55)) (cond (Nat.beq u 56) (some (.row .int 0 l56)) (cond (Nat.beq u 2) (some (.cells [.nils, .nils])) (cond (Nat.beq u 3) (some (.cells [.osl 55 0, .osl 56 0])) (none))))⟩
def g_geom_newGrid_e (a0 : List (List Rect)) (Q : List Int → List Int → Prop) (i0 : List (List Rect) → Int → Int → List Int → List Int → Prop) : Prop := i0 a0 (a0.length : Int) 0 ([]) ([])
def g_geom_newGrid_s0 (rec : List (List Rect) → Int → Int → List Int → List Int → Prop) (x0 : List (List Rect) → Int → Int → List Int → List Int → Prop) (t8 : List (List Rect)) (t9 : Int) (t10 : Int) (l55 : List Int) (l56 : List Int) (i1 : List (List Rect) → Int → Int → List Rect → Int → Int → List Int → List Int → Prop) : Prop := cond (decide (t10 < t9)) ((let e0 := (t8.getD t10.toNat default); ((0 ≤ t10 ∧ t10 < t8.length) ∧ i1 t8 t9 t10 e0 (e0.length : Int) 0 l55 l56))) (x0 t8 t9 t10 l55 l56)
def g_geom_newGrid_c0_0 (Q : List Int → List Int → Prop) (t8 : List (List Rect)) (t9 : Int) (t10 : Int) (l55 : List Int) (l56 : List Int) : Prop := ((l55.length ≤ 1000) ∧ ((l56.length ≤ 1000) ∧ Q (srt l55) (srt l56)))
def g_geom_newGrid_s1 (rec : List (List Rect) → Int → Int → List Rect → Int → Int → List Int → List Int → Prop) (x0 : List (List Rect) → Int → Int → List Rect → Int → Int → List Int → List Int → Prop) (t8 : List (List Rect)) (t9 : Int) (t10 : Int) (t14 : List Rect) (t15 : Int) (t16 : Int) (l55 : List Int) (l56 : List Int) : Prop := cond (decide (t16 < t15)) ((let e0 := (t14.getD t16.toNat default); ((0 ≤ t16 ∧ t16 < t14.length) ∧ (((l55.length + ([e0.X, w64 (e0.X + e0.W)]).length) * 8 ≤ 140737488355328) ∧ (((l56.length + ([e0.Y, w64 (e0.Y + e0.H)]).length) * 8 ≤ 140737488355328) ∧ rec t8 t9 t10 t14 t15 (w64 (t16 + 1)) (l55 ++ ([e0.X, w64 (e0.X + e0.W)])) (l56 ++ ([e0.Y, w64 (e0.Y + e0.H)]))))))) (x0 t8 t9 t10 t14 t15 t16 l55 l56)
def g_geom_newGrid_c1_0 (rec : List (List Rect) → Int → Int → List Int → List Int → Prop) (x0 : List (List Rect) → Int → Int → List Int → List Int → Prop) (t8 : List (List Rect)) (t9 : Int) (t10 : Int) (t14 : List Rect) (t15 : Int) (t16 : Int) (l55 : List Int) (l56 : List Int) : Prop := rec t8 t9 (w64 (t10 + 1)) l55 l56
def w_geom_newGrid_1 (F : Nat) (x0 : List (List Rect) → Int → Int → List Rect → Int → Int → List Int → List Int → Prop) : Nat → List (List Rect) → Int → Int → List Rect → Int → Int → List Int → List Int → Prop
  | 0, _, _, _, _, _, _, _, _ => False
  | n + 1, t8, t9, t10, t14, t15, t16, l55, l56 => g_geom_newGrid_s1 (w_geom_newGrid_1 F x0 n) x0 t8 t9 t10 t14 t15 t16 l55 l56
def n_geom_newGrid_1 (F : Nat) (rec : List (List Rect) → Int → Int → List Int → List Int → Prop) (x0 : List (List Rect) → Int → Int → List Int → List Int → Prop) (t8 : List (List Rect)) (t9 : Int) (t10 : Int) (t14 : List Rect) (t15 : Int) (t16 : Int) (l55 : List Int) (l56 : List Int) : Prop := w_geom_newGrid_1 F (fun t8 t9 t10 t14 t15 t16 l55 l56 => g_geom_newGrid_c1_0 rec x0 t8 t9 t10 t14 t15 t16 l55 l56) F t8 t9 t10 t14 t15 t16 l55 l56
def w_geom_newGrid_0 (F : Nat) (x0 : List (List Rect) → Int → Int → List Int → List Int → Prop) : Nat → List (List Rect) → Int → Int → List Int → List Int → Prop
  | 0, _, _, _, _, _ => False
  | n + 1, t8, t9, t10, l55, l56 => g_geom_newGrid_s0 (w_geom_newGrid_0 F x0 n) x0 t8 t9 t10 l55 l56 (n_geom_newGrid_1 F (w_geom_newGrid_0 F x0 n) x0)
def n_geom_newGrid_0 (F : Nat) (Q : List Int → List Int → Prop) (t8 : List (List Rect)) (t9 : Int) (t10 : Int) (l55 : List Int) (l56 : List Int) : Prop := w_geom_newGrid_0 F (fun t8 t9 t10 l55 l56 => g_geom_newGrid_c0_0 Q t8 t9 t10 l55 l56) F t8 t9 t10 l55 l56
def w_geom_newGrid (F : Nat) (a0 : List (List Rect)) (Q : List Int → List Int → Prop) : Prop := g_geom_newGrid_e a0 Q (n_geom_newGrid_0 F Q)
/-! ### sheetmetal/flat.width -/
def M_flat_width : Nat → Nat → Canon UU := fun b r => cond (Nat.beq b 0) ⟨[0, 1, 5, 12, 13, 14, 59, 60, 61, 62, 63, 64, 65, 68, 69, 70, 71, 72, 73, 74, 75, 78, 79, 80, 81, 82, 83, 84, 85, 86, 87, 88], [], [], [(.tmp 5, .int)]⟩ (cond (Nat.beq b 2) ⟨[0, 1, 5, 8, 9], [], [], []⟩ (cond (Nat.beq b 4) ⟨[0, 1, 5, 8, 9, 48, 49, 50], [], [], []⟩ (⟨[], [], [], []⟩)))
def st_flat_width_0 (t0 : List Rect) (t1 : Int) (t5 : List Int) (t12 : List Rect) (t13 : Int) (t14 : Int) : ASt UU := ⟨fun u => cond (Nat.beq u 0) (.sl .rect t0) (cond (Nat.beq u 1) (.int .i64 t1) (cond (Nat.beq u 5) (.sl .int t5) (cond (Nat.beq u 12) (.sl .rect t12) (cond (Nat.beq u 13) (.int .i64 t13) (cond (Nat.beq u 14) (.int .i64 t14) (cond (Nat.beq u 59) (.raw undef) (cond (Nat.beq u 60) (.raw undef) (cond (Nat.beq u 61) (.raw undef) (cond (Nat.beq u 62) (.raw undef) (cond (Nat.beq u 63) (.raw undef) (cond (Nat.beq u 64) (.raw undef) (cond (Nat.beq u 65) (.raw undef) (cond (Nat.beq u 68) (.raw undef) (cond (Nat.beq u 69) (.raw undef) (cond (Nat.beq u 70) (.raw undef) (cond (Nat.beq u 71) (.raw undef) (cond (Nat.beq u 72) (.raw undef) (cond (Nat.beq u 73) (.raw undef) (cond (Nat.beq u 74) (.raw undef) (cond (Nat.beq u 75) (.raw undef) (cond (Nat.beq u 78) (.raw undef) (cond (Nat.beq u 79) (.raw undef) (cond (Nat.beq u 80) (.raw undef) (cond (Nat.beq u 81) (.raw undef) (cond (Nat.beq u 82) (.raw undef) (cond (Nat.beq u 83) (.raw undef) (cond (Nat.beq u 84) (.raw undef) (cond (Nat.beq u 85) (.raw undef) (cond (Nat.beq u 86) (.raw undef) (cond (Nat.beq u 87) (.raw undef) (cond (Nat.beq u 88) (.raw undef) (.any)))))))))))))))))))))))))))))))), fun u => none⟩
def st_flat_width_1 (t0 : List Rect) (t1 : Int) (t5 : List Int) (t8 : Int) (t9 : Int) : ASt UU := ⟨fun u => cond (Nat.beq u 0) (.sl .rect t0) (cond (Nat.beq u 1) (.int .i64 t1) (cond (Nat.beq u 5) (.sl .int t5) (cond (Nat.beq u 8) (.int .i64 t8) (cond (Nat.beq u 9) (.int .i64 t9) (.any))))), fun u => none⟩
def st_flat_width_2 (t0 : List Rect) (t1 : Int) (t5 : List Int) (t8 : Int) (t9 : Int) (t48 : List Rect) (t49 : Int) (t50 : Int) : ASt UU := ⟨fun u => cond (Nat.beq u 0) (.sl .rect t0) (cond (Nat.beq u 1) (.int .i64 t1) (cond (Nat.beq u 5) (.sl .int t5) (cond (Nat.beq u 8) (.int .i64 t8) (cond (Nat.beq u 9) (.int .i64 t9) (cond (Nat.beq u 48) (.sl .rect t48) (cond (Nat.beq u 49) (.int .i64 t49) (cond (Nat.beq u 50) (.int .i64 t50) (.any)))))))), fun u => none⟩
def g_flat_width_e (a0 : List Rect) (a1 : Int) (Q : Int → Prop) (i0 : List Rect → Int → List Int → List Rect → Int → Int → Prop) : Prop := i0 a0 a1 ([]) a0 (a0.length : Int) 0
def g_flat_width_s0 (rec : List Rect → Int → List Int → List Rect → Int → Int → Prop) (x0 : List Rect → Int → List Int → List Rect → Int → Int → Prop) (t0 : List Rect) (t1 : Int) (t5 : List Int) (t12 : List Rect) (t13 : Int) (t14 : Int) : Prop := cond (decide (t14 < t13)) ((let e0 := (t12.getD t14.toNat default); ((0 ≤ t14 ∧ t14 < t12.length) ∧ cond ((decide (e0.Y ≤ t1)) && (decide (t1 < (w64 (e0.Y + e0.H))))) (((pre_flat_insert t5 e0.X) ∧ (let r1 := (sp_flat_insert (sp_flat_insert t5 e0.X) (w64 (e0.X + e0.W))); ((pre_flat_insert (sp_flat_insert t5 e0.X) (w64 (e0.X + e0.W))) ∧ rec t0 t1 r1 t12 t13 (w64 (t14 + 1)))))) (rec t0 t1 t5 t12 t13 (w64 (t14 + 1)))))) (x0 t0 t1 t5 t12 t13 t14)
def g_flat_width_c0_0 (Q : Int → Prop) (t0 : List Rect) (t1 : Int) (t5 : List Int) (t12 : List Rect) (t13 : Int) (t14 : Int) (i1 : List Rect → Int → List Int → Int → Int → Prop) : Prop := i1 t0 t1 t5 0 1
def g_flat_width_s1 (rec : List Rect → Int → List Int → Int → Int → Prop) (x0 : List Rect → Int → List Int → Int → Int → Prop) (t0 : List Rect) (t1 : Int) (t5 : List Int) (t8 : Int) (t9 : Int) (i2 : List Rect → Int → List Int → Int → Int → List Rect → Int → Int → Prop) : Prop := cond (decide (t9 < (t5.length : Int))) (i2 t0 t1 t5 t8 t9 t0 (t0.length : Int) 0) (x0 t0 t1 t5 t8 t9)
def g_flat_width_c1_0 (Q : Int → Prop) (t0 : List Rect) (t1 : Int) (t5 : List Int) (t8 : Int) (t9 : Int) : Prop := Q t8
def g_flat_width_s2 (rec : List Rect → Int → List Int → Int → Int → List Rect → Int → Int → Prop) (x0 : List Rect → Int → List Int → Int → Int → List Rect → Int → Int → Prop) (t0 : List Rect) (t1 : Int) (t5 : List Int) (t8 : Int) (t9 : Int) (t48 : List Rect) (t49 : Int) (t50 : Int) : Prop := cond (decide (t50 < t49)) ((let e0 := (t48.getD t50.toNat default); ((0 ≤ t50 ∧ t50 < t48.length) ∧ cond (decide (e0.Y ≤ t1)) (cond (decide (t1 < (w64 (e0.Y + e0.H)))) ((let e1 := (t5.getD ((w64 (t9 - 1)).toNat) default); ((0 ≤ (w64 (t9 - 1)) ∧ (w64 (t9 - 1)) < t5.length) ∧ cond (decide (e0.X ≤ e1)) ((let e2 := (t5.getD ((w64 (t9 - 1)).toNat) default); ((0 ≤ (w64 (t9 - 1)) ∧ (w64 (t9 - 1)) < t5.length) ∧ cond (decide (e2 < (w64 (e0.X + e0.W)))) ((let e3 := (t5.getD t9.toNat default); ((0 ≤ t9 ∧ t9 < t5.length) ∧ (let e4 := (t5.getD ((w64 (t9 - 1)).toNat) default); ((0 ≤ (w64 (t9 - 1)) ∧ (w64 (t9 - 1)) < t5.length) ∧ x0 t0 t1 t5 (w64 (t8 + (w64 (e3 - e4)))) t9 t48 t49 t50))))) (rec t0 t1 t5 t8 t9 t48 t49 (w64 (t50 + 1)))))) (rec t0 t1 t5 t8 t9 t48 t49 (w64 (t50 + 1)))))) (rec t0 t1 t5 t8 t9 t48 t49 (w64 (t50 + 1)))) (rec t0 t1 t5 t8 t9 t48 t49 (w64 (t50 + 1)))))) (x0 t0 t1 t5 t8 t9 t48 t49 t50)
def g_flat_width_c2_0 (rec : List Rect → Int → List Int → Int → Int → Prop) (x0 : List Rect → Int → List Int → Int → Int → Prop) (t0 : List Rect) (t1 : Int) (t5 : List Int) (t8 : Int) (t9 : Int) (t48 : List Rect) (t49 : Int) (t50 : Int) : Prop := rec t0 t1 t5 t8 (w64 (t9 + 1))
def w_flat_width_2 (F : Nat) (x0 : List Rect → Int → List Int → Int → Int → List Rect → Int → Int → Prop) : Nat → List Rect → Int → List Int → Int → Int → List Rect → Int → Int → Prop
  | 0, _, _, _, _, _, _, _, _ => False
  | n + 1, t0, t1, t5, t8, t9, t48, t49, t50 => g_flat_width_s2 (w_flat_width_2 F x0 n) x0 t0 t1 t5 t8 t9 t48 t49 t50
def n_flat_width_2 (F : Nat) (rec : List Rect → Int → List Int → Int → Int → Prop) (x0 : List Rect → Int → List Int → Int → Int → Prop) (t0 : List Rect) (t1 : Int) (t5 : List Int) (t8 : Int) (t9 : Int) (t48 : List Rect) (t49 : Int) (t50 : Int) : Prop := w_flat_width_2 F (fun t0 t1 t5 t8 t9 t48 t49 t50 => g_flat_width_c2_0 rec x0 t0 t1 t5 t8 t9 t48 t49 t50) F t0 t1 t5 t8 t9 t48 t49 t50
def w_flat_width_1 (F : Nat) (x0 : List Rect → Int → List Int → Int → Int → Prop) : Nat → List Rect → Int → List Int → Int → Int → Prop
  | 0, _, _, _, _, _ => False
  | n + 1, t0, t1, t5, t8, t9 => g_flat_width_s1 (w_flat_width_1 F x0 n) x0 t0 t1 t5 t8 t9 (n_flat_width_2 F (w_flat_width_1 F x0 n) x0)
def n_flat_width_1 (F : Nat) (Q : Int → Prop) (t0 : List Rect) (t1 : Int) (t5 : List Int) (t8 : Int) (t9 : Int) : Prop := w_flat_width_1 F (fun t0 t1 t5 t8 t9 => g_flat_width_c1_0 Q t0 t1 t5 t8 t9) F t0 t1 t5 t8 t9
def w_flat_width_0 (F : Nat) (x0 : List Rect → Int → List Int → List Rect → Int → Int → Prop) : Nat → List Rect → Int → List Int → List Rect → Int → Int → Prop
  | 0, _, _, _, _, _, _ => False
  | n + 1, t0, t1, t5, t12, t13, t14 => g_flat_width_s0 (w_flat_width_0 F x0 n) x0 t0 t1 t5 t12 t13 t14
def n_flat_width_0 (F : Nat) (Q : Int → Prop) (t0 : List Rect) (t1 : Int) (t5 : List Int) (t12 : List Rect) (t13 : Int) (t14 : Int) : Prop := w_flat_width_0 F (fun t0 t1 t5 t12 t13 t14 => g_flat_width_c0_0 Q t0 t1 t5 t12 t13 t14 (n_flat_width_1 F Q)) F t0 t1 t5 t12 t13 t14
def w_flat_width (F : Nat) (a0 : List Rect) (a1 : Int) (Q : Int → Prop) : Prop := g_flat_width_e a0 a1 Q (n_flat_width_0 F Q)
end
end Go.Proofs.Ytohecfbnmmgimaa

namespace Go.Proofs.Ytohecfbnmmgimaa
open Go.Vm Go.RowKit
set_option linter.unusedVariables false
noncomputable section

def asc (l : List Int) : Prop := l.Pairwise (· < ·)
theorem mem_insR (l : List Int) (a x : Int) : x ∈ insR l a ↔ x = a ∨ x ∈ l := by
  induction l with
  | nil => simp [insR]
  | cons b l ih =>
    unfold insR
    split
    · rw [List.mem_cons, ih, List.mem_cons]
      constructor
      · rintro (h | h | h)
        · exact .inr (.inl h)
        · exact .inl h
        · exact .inr (.inr h)
      · rintro (h | h | h)
        · exact .inr (.inl h)
        · exact .inl h
        · exact .inr (.inr h)
    · split
      · rename_i h
        subst h
        simp
      · simp
theorem asc_insR (l : List Int) (a : Int) (h : asc l) : asc (insR l a) := by
  induction l with
  | nil => simp [insR, asc]
  | cons b l ih =>
    have h' := List.pairwise_cons.1 h
    unfold insR
    split
    · rename_i hb
      refine List.pairwise_cons.2 ⟨fun x hx => ?_, ih h'.2⟩
      rcases (mem_insR l a x).1 hx with rfl | hx
      · exact hb
      · exact h'.1 x hx
    · split
      · exact h
      · refine List.pairwise_cons.2 ⟨fun x hx => ?_, h⟩
        rcases List.mem_cons.1 hx with rfl | hx
        · omega
        · have := h'.1 x hx
          omega
theorem len_insR (l : List Int) (a : Int) : (insR l a).length ≤ l.length + 1 := by
  induction l with
  | nil => simp [insR]
  | cons b l ih =>
    unfold insR
    split
    · simp only [List.length_cons]; omega
    · split
      · simp only [List.length_cons]; omega
      · simp only [List.length_cons]; omega

/-- The strips between places, each times a number. -/
def strip (f : Int → Int) : List Int → Int
  | a :: b :: l => (b - a) * f a + strip f (b :: l)
  | _ => 0
theorem strip_snoc (f : Int → Int) : ∀ (l : List Int) (i : Nat), i + 1 < l.length → strip f (l.take (i + 2)) = strip f (l.take (i + 1)) + (l.getD (i + 1) default - l.getD i default) * f (l.getD i default) := by
  intro l
  induction l with
  | nil => intro i h; simp at h
  | cons a l ih =>
    intro i h
    cases l with
    | nil => simp at h
    | cons b l =>
      cases i with
      | zero => simp [strip]
      | succ i =>
        have := ih i (by simpa using h)
        simp only [List.take_succ_cons, List.getD_cons_succ] at this ⊢
        simp only [strip]
        rw [this]
        omega
theorem strip_bd0 (f : Int → Int) (B hi : Int) (hB : 0 ≤ B) : ∀ (l : List Int) (a : Int), asc (a :: l) → (∀ x ∈ a :: l, 0 ≤ f x ∧ f x ≤ B) → (∀ x ∈ a :: l, x ≤ hi) → 0 ≤ strip f (a :: l) ∧ strip f (a :: l) ≤ (hi - a) * B := by
  intro l
  induction l with
  | nil =>
    intro a _ _ h
    have := h a (List.mem_cons_self ..)
    exact ⟨Int.le_refl _, Int.mul_nonneg (by omega) hB⟩
  | cons b l ih =>
    intro a h1 h2 h3
    have h1' := List.pairwise_cons.1 h1
    have hab := h1'.1 b (List.mem_cons_self ..)
    obtain ⟨i1, i2⟩ := ih b h1'.2 (fun x hx => h2 x (List.mem_cons_of_mem _ hx)) (fun x hx => h3 x (List.mem_cons_of_mem _ hx))
    have hf := h2 a (List.mem_cons_self ..)
    have e1 : 0 ≤ (b - a) * f a := Int.mul_nonneg (by omega) hf.1
    have e2 : (b - a) * f a ≤ (b - a) * B := Int.mul_le_mul_of_nonneg_left hf.2 (by omega)
    have e3 : (hi - a) * B = (b - a) * B + (hi - b) * B := by rw [← Int.add_mul]; congr 1; omega
    show 0 ≤ (b - a) * f a + strip f (b :: l) ∧ (b - a) * f a + strip f (b :: l) ≤ _
    omega
theorem strip_bd (f : Int → Int) (B lo hi : Int) (hB : 0 ≤ B) (hlh : lo ≤ hi) (l : List Int) (h1 : asc l) (h2 : ∀ x ∈ l, 0 ≤ f x ∧ f x ≤ B) (h3 : ∀ x ∈ l, lo ≤ x ∧ x ≤ hi) : 0 ≤ strip f l ∧ strip f l ≤ (hi - lo) * B := by
  cases l with
  | nil => exact ⟨Int.le_refl _, Int.mul_nonneg (by omega) hB⟩
  | cons a l =>
    obtain ⟨i1, i2⟩ := strip_bd0 f B hi hB l a h1 h2 (fun x hx => (h3 x hx).2)
    refine ⟨i1, Int.le_trans i2 (Int.mul_le_mul_of_nonneg_right ?_ hB)⟩
    have := (h3 a (List.mem_cons_self ..)).1
    omega

/-- A sum over places one after another. -/
def S (f : Int → Int) (lo : Int) : Nat → Int
  | 0 => 0
  | n + 1 => S f lo n + f (lo + n)
theorem S_add (f : Int → Int) (lo : Int) (n : Nat) : ∀ m, S f lo (n + m) = S f lo n + S f (lo + n) m := by
  intro m
  induction m with
  | zero => simp [S]
  | succ m ih =>
    show S f lo (n + m) + f (lo + ((n + m : Nat) : Int)) = S f lo n + (S f (lo + n) m + f (lo + n + m))
    rw [ih, show lo + ((n + m : Nat) : Int) = lo + n + m by omega]
    omega
theorem S_congr {f g : Int → Int} {lo : Int} : ∀ {n : Nat}, (∀ x, lo ≤ x → x < lo + n → f x = g x) → S f lo n = S g lo n := by
  intro n
  induction n with
  | zero => intro _; rfl
  | succ n ih =>
    intro h
    show S f lo n + f (lo + n) = S g lo n + g (lo + n)
    rw [ih (fun x h1 h2 => h x h1 (by omega)), h (lo + n) (by omega) (by omega)]
theorem S_const {f : Int → Int} {lo c : Int} : ∀ {n : Nat}, (∀ x, lo ≤ x → x < lo + n → f x = c) → S f lo n = n * c := by
  intro n
  induction n with
  | zero => intro _; simp [S]
  | succ n ih =>
    intro h
    show S f lo n + f (lo + n) = _
    rw [ih (fun x h1 h2 => h x h1 (by omega)), h (lo + n) (by omega) (by omega)]
    have : ((n + 1 : Nat) : Int) * c = n * c + c := by rw [show ((n + 1 : Nat) : Int) = (n : Int) + 1 by omega, Int.add_mul, Int.one_mul]
    omega
theorem S_plus (f g : Int → Int) (lo : Int) : ∀ n, S (fun x => f x + g x) lo n = S f lo n + S g lo n := by
  intro n
  induction n with
  | zero => rfl
  | succ n ih =>
    show S _ lo n + (f (lo + n) + g (lo + n)) = S f lo n + f (lo + n) + (S g lo n + g (lo + n))
    rw [ih]
    omega
theorem S_zero (lo : Int) : ∀ n, S (fun _ => 0) lo n = 0 := by
  intro n
  induction n with
  | zero => rfl
  | succ n ih => show S _ lo n + 0 = 0; rw [ih]; rfl
theorem S_swap (f : Int → Int → Int) (a b : Int) (m : Nat) : ∀ n, S (fun x => S (fun y => f x y) b m) a n = S (fun y => S (fun x => f x y) a n) b m := by
  intro n
  induction n with
  | zero =>
    show 0 = S (fun y => 0) b m
    rw [S_zero]
  | succ n ih =>
    show S _ a n + S (fun y => f (a + n) y) b m = S (fun y => S (fun x => f x y) a n + f (a + n) y) b m
    rw [ih, S_plus]
theorem S_bd {f : Int → Int} {lo : Int} : ∀ {n : Nat}, (∀ x, 0 ≤ f x) → 0 ≤ S f lo n := by
  intro n
  induction n with
  | zero => intro _; exact Int.le_refl _
  | succ n ih =>
    intro h
    show 0 ≤ S f lo n + f (lo + n)
    have := ih h
    have := h (lo + n)
    omega

/-- Between places that a function does not change at, its sum is that of the strips. -/
theorem strip_S0 (f : Int → Int) : ∀ (l : List Int) (a : Int), asc (a :: l) → (∀ x y, a ≤ x → x ≤ y → (∀ e ∈ a :: l, e ≤ x ∨ y < e) → f x = f y) → ∃ n : Nat, S f a n = strip f (a :: l) ∧ (∀ e ∈ a :: l, e ≤ a + n) ∧ a + (n : Int) ∈ a :: l := by
  intro l
  induction l with
  | nil => intro a _ _; exact ⟨0, rfl, by simp, by simp⟩
  | cons b l ih =>
    intro a h1 h2
    have h1' := List.pairwise_cons.1 h1
    have hab := h1'.1 b (List.mem_cons_self ..)
    obtain ⟨n, e1, e2, e3⟩ := ih b h1'.2 (fun x y hx hxy hn => h2 x y (by omega) hxy (fun e he => by
      rcases List.mem_cons.1 he with rfl | he
      · exact .inl (by omega)
      · exact hn e he))
    have hk : ((b - a).toNat : Int) = b - a := by omega
    refine ⟨(b - a).toNat + n, ?_, fun e he => ?_, ?_⟩
    · rw [S_add, hk, show a + (b - a) = b by omega, e1]
      show _ = (b - a) * f a + strip f (b :: l)
      have h1b : asc (b :: l) := h1'.2
      rw [S_const (c := f a) (fun x h3 h4 => (h2 a x (by omega) h3 (fun e he => by
        rcases List.mem_cons.1 he with rfl | he
        · exact .inl (by omega)
        · have : b ≤ e := by
            rcases List.mem_cons.1 he with rfl | he
            · omega
            · have := (List.pairwise_cons.1 h1b).1 e he
              omega
          exact .inr (by omega))).symm), hk]
    · rcases List.mem_cons.1 he with rfl | he
      · omega
      · have := e2 e he
        omega
    · rw [show a + (((b - a).toNat + n : Nat) : Int) = b + n by omega]
      exact List.mem_cons_of_mem _ e3
theorem strip_S (f : Int → Int) (lo : Int) (N : Nat) (l : List Int) (h1 : asc l) (h3 : ∀ e ∈ l, lo ≤ e ∧ e ≤ lo + N) (h2 : ∀ x y, x ≤ y → (∀ e ∈ l, e ≤ x ∨ y < e) → f x = f y)
    (h4 : ∀ x, (∀ e ∈ l, x < e) ∨ (∀ e ∈ l, e ≤ x) → f x = 0) : S f lo N = strip f l := by
  cases l with
  | nil =>
    rw [S_const (c := 0) (fun x _ _ => h4 x (.inl (fun e he => by cases he)))]
    simp [strip]
  | cons a l =>
    obtain ⟨n, e1, e2, e3⟩ := strip_S0 f l a h1 (fun x y _ hxy hn => h2 x y hxy hn)
    have ha := h3 a (List.mem_cons_self ..)
    have hb := h3 _ e3
    have hk : ((a - lo).toNat : Int) = a - lo := by omega
    have hN : N = (a - lo).toNat + (n + (N - ((a - lo).toNat + n))) := by omega
    rw [hN, S_add, S_add, hk, show lo + (a - lo) = a by omega, e1]
    rw [S_const (c := 0) (lo := lo) (fun x h5 h6 => h4 x (.inl (fun e he => by
      rcases List.mem_cons.1 he with rfl | he
      · omega
      · have := (List.pairwise_cons.1 h1).1 e he
        omega)))]
    rw [S_const (c := 0) (lo := a + n) (fun x h5 h6 => h4 x (.inr (fun e he => by
      have := e2 e he
      omega)))]
    omega
theorem strip_congr {f g : Int → Int} : ∀ {l : List Int}, (∀ x ∈ l, f x = g x) → strip f l = strip g l := by
  intro l
  induction l with
  | nil => intro _; rfl
  | cons a l ih =>
    intro h
    cases l with
    | nil => rfl
    | cons b l =>
      show (b - a) * f a + strip f (b :: l) = (b - a) * g a + strip g (b :: l)
      rw [h a (List.mem_cons_self ..), ih (fun x hx => h x (List.mem_cons_of_mem _ hx))]

/-! ### the plane's unit cells -/
def b2i (b : Bool) : Int := bif b then 1 else 0
def NN : Nat := 2097152
/-- The sum over a line; the surface of a region. -/
def A1 (f : Int → Int) : Int := S f (-1048576) NN
def A (p : Int → Int → Bool) : Int := A1 fun x => A1 fun y => b2i (p x y)
theorem A_swap (p : Int → Int → Bool) : A p = A1 fun y => A1 fun x => b2i (p x y) := S_swap _ _ _ _ _
theorem A1_congr {f g : Int → Int} (h : ∀ x, f x = g x) : A1 f = A1 g := S_congr fun x _ _ => h x
theorem A_congr {p q : Int → Int → Bool} (h : ∀ x y, p x y = q x y) : A p = A q := A1_congr fun x => A1_congr fun y => by rw [h]
theorem A_split (p q : Int → Int → Bool) : A p = A (fun x y => p x y && q x y) + A (fun x y => p x y && !q x y) := by
  unfold A
  have : ∀ f g : Int → Int, A1 f + A1 g = A1 fun x => f x + g x := fun f g => (S_plus f g _ _).symm
  rw [this]
  refine A1_congr fun x => ?_
  rw [this]
  refine A1_congr fun y => ?_
  show b2i (p x y) = b2i (p x y && q x y) + b2i (p x y && !q x y)
  cases p x y <;> cases q x y <;> decide
theorem b2i_bd (b : Bool) : 0 ≤ b2i b ∧ b2i b ≤ 1 := by cases b <;> decide
theorem A_nonneg (p : Int → Int → Bool) : 0 ≤ A p := S_bd fun x => S_bd fun y => (b2i_bd _).1

/-! ### rectangles and their sides -/
theorem inB_same {r : Rect} {x y b : Int} (h1 : r.X ≤ x ∨ y < r.X) (h2 : r.X + r.W ≤ x ∨ y < r.X + r.W) (hxy : x ≤ y) : inB r x b = inB r y b := by
  unfold inB
  congr 1
  · exact decide_eq_decide.2 (by omega)
  · congr 1
    exact decide_eq_decide.2 (by omega)
theorem inB_sameY {r : Rect} {a x y : Int} (h1 : r.Y ≤ x ∨ y < r.Y) (h2 : r.Y + r.H ≤ x ∨ y < r.Y + r.H) (hxy : x ≤ y) : inB r a x = inB r a y := by
  unfold inB
  congr 2
  congr 1
  · exact decide_eq_decide.2 (by omega)
  · exact decide_eq_decide.2 (by omega)
theorem inB_iff (r : Rect) (a b : Int) : inB r a b = true ↔ r.X ≤ a ∧ a < r.X + r.W ∧ r.Y ≤ b ∧ b < r.Y + r.H := by
  unfold inB
  simp only [Bool.and_eq_true, decide_eq_true_eq]
theorem covB_iff (l : List Rect) (a b : Int) : covB l a b = true ↔ ∃ r ∈ l, inB r a b = true := List.any_eq_true
theorem covB_congr {l : List Rect} {a b c d : Int} (h : ∀ r ∈ l, inB r a b = inB r c d) : covB l a b = covB l c d := by
  rw [Bool.eq_iff_iff, covB_iff, covB_iff]
  constructor
  · rintro ⟨r, hr, h1⟩
    exact ⟨r, hr, by rw [← h r hr]; exact h1⟩
  · rintro ⟨r, hr, h1⟩
    exact ⟨r, hr, by rw [h r hr]; exact h1⟩
/-- Both sides of the rectangles (those that a line at y meets) are places of a list. -/
def hasX (l : List Rect) (y : Int) (xs : List Int) : Prop := ∀ r ∈ l, r.Y ≤ y → y < r.Y + r.H → r.X ∈ xs ∧ r.X + r.W ∈ xs
def hasY (l : List Rect) (ys : List Int) : Prop := ∀ r ∈ l, r.Y ∈ ys ∧ r.Y + r.H ∈ ys
def allX (l : List Rect) (xs : List Int) : Prop := ∀ r ∈ l, r.X ∈ xs ∧ r.X + r.W ∈ xs
def inM (xs : List Int) : Prop := ∀ e ∈ xs, -1048576 ≤ e ∧ e ≤ 1048576
theorem inB_out {r : Rect} {y : Int} (h : ¬ (r.Y ≤ y ∧ y < r.Y + r.H)) (x : Int) : inB r x y = false := by
  rw [← Bool.not_eq_true, inB_iff]
  omega
/-- The length of a region at a height. -/
theorem line_x (l : List Rect) (y : Int) (xs : List Int) (h1 : asc xs) (h2 : hasX l y xs) (h3 : inM xs) : A1 (fun x => b2i (covB l x y)) = strip (fun x => b2i (covB l x y)) xs := by
  refine strip_S _ _ _ xs h1 (fun e he => by have := h3 e he; unfold NN; omega) (fun x z hxz hn => ?_) (fun x hx => ?_)
  · congr 1
    refine covB_congr fun r hr => ?_
    by_cases hy : r.Y ≤ y ∧ y < r.Y + r.H
    · obtain ⟨e1, e2⟩ := h2 r hr hy.1 hy.2
      exact inB_same (hn _ e1) (hn _ e2) hxz
    · rw [inB_out hy, inB_out hy]
  · have : covB l x y = false := by
      rw [← Bool.not_eq_true, covB_iff]
      rintro ⟨r, hr, hi⟩
      rw [inB_iff] at hi
      obtain ⟨e1, e2⟩ := h2 r hr hi.2.2.1 hi.2.2.2
      rcases hx with hx | hx
      · have := hx _ e1
        omega
      · have := hx _ e2
        omega
    rw [this]
    rfl
/-- A region by strips between heights. -/
theorem strips_y (l : List Rect) (ys : List Int) (h1 : asc ys) (h2 : hasY l ys) (h3 : inM ys) : A (covB l) = strip (fun y => A1 fun x => b2i (covB l x y)) ys := by
  rw [A_swap]
  refine strip_S _ _ _ ys h1 (fun e he => by have := h3 e he; unfold NN; omega) (fun y z hyz hn => ?_) (fun y hy => ?_)
  · refine A1_congr fun x => ?_
    congr 1
    refine covB_congr fun r hr => ?_
    obtain ⟨e1, e2⟩ := h2 r hr
    exact inB_sameY (hn _ e1) (hn _ e2) hyz
  · refine (A1_congr (g := fun _ => 0) fun x => ?_).trans (S_zero _ _)
    have : covB l x y = false := by
      rw [← Bool.not_eq_true, covB_iff]
      rintro ⟨r, hr, hi⟩
      rw [inB_iff] at hi
      obtain ⟨e1, e2⟩ := h2 r hr
      rcases hy with hy | hy
      · have := hy _ e1
        omega
      · have := hy _ e2
        omega
    rw [this]
    rfl
/-- A region by the cells of a grid. -/
theorem grid_cells (l : List Rect) (xs ys : List Int) (h1 : asc xs) (h1' : asc ys) (h2 : allX l xs) (h2' : hasY l ys) (h3 : inM xs) (h3' : inM ys) :
    A (covB l) = strip (fun x => strip (fun y => b2i (covB l x y)) ys) xs := by
  have key : ∀ x, A1 (fun y => b2i (covB l x y)) = strip (fun y => b2i (covB l x y)) ys := fun x => by
    refine strip_S _ _ _ ys h1' (fun e he => by have := h3' e he; unfold NN; omega) (fun y z hyz hn => ?_) (fun y hy => ?_)
    · congr 1
      refine covB_congr fun r hr => ?_
      obtain ⟨e1, e2⟩ := h2' r hr
      exact inB_sameY (hn _ e1) (hn _ e2) hyz
    · have : covB l x y = false := by
        rw [← Bool.not_eq_true, covB_iff]
        rintro ⟨r, hr, hi⟩
        rw [inB_iff] at hi
        obtain ⟨e1, e2⟩ := h2' r hr
        rcases hy with hy | hy
        · have := hy _ e1
          omega
        · have := hy _ e2
          omega
      rw [this]
      rfl
  have : (fun x => strip (fun y => b2i (covB l x y)) ys) = fun x => A1 fun y => b2i (covB l x y) := funext fun x => (key x).symm
  rw [this]
  refine strip_S _ _ _ xs h1 (fun e he => by have := h3 e he; unfold NN; omega) (fun x z hxz hn => ?_) (fun x hx => ?_)
  · refine A1_congr fun y => ?_
    congr 1
    refine covB_congr fun r hr => ?_
    obtain ⟨e1, e2⟩ := h2 r hr
    exact inB_same (hn _ e1) (hn _ e2) hxz
  · refine (A1_congr (g := fun _ => 0) fun y => ?_).trans (S_zero _ _)
    have : covB l x y = false := by
      rw [← Bool.not_eq_true, covB_iff]
      rintro ⟨r, hr, hi⟩
      rw [inB_iff] at hi
      obtain ⟨e1, e2⟩ := h2 r hr
      rcases hx with hx | hx
      · have := hx _ e1
        omega
      · have := hx _ e2
        omega
    rw [this]
    rfl
theorem A1_bd {f : Int → Int} {B : Int} (hB : 0 ≤ B) (h : ∀ x, 0 ≤ f x ∧ f x ≤ B) : 0 ≤ A1 f ∧ A1 f ≤ 2097152 * B := by
  unfold A1
  have key : ∀ (n : Nat) (lo : Int), 0 ≤ S f lo n ∧ S f lo n ≤ n * B := by
    intro n
    induction n with
    | zero => intro lo; exact ⟨Int.le_refl _, by simp [S]⟩
    | succ n ih =>
      intro lo
      have h1 := ih lo
      have h2 := h (lo + n)
      have : ((n + 1 : Nat) : Int) * B = n * B + B := by rw [show ((n + 1 : Nat) : Int) = (n : Int) + 1 by omega, Int.add_mul, Int.one_mul]
      show 0 ≤ S f lo n + f (lo + n) ∧ S f lo n + f (lo + n) ≤ _
      omega
  have := key NN (-1048576)
  exact this
theorem A_bd (p : Int → Int → Bool) : 0 ≤ A p ∧ A p ≤ 4398046511104 := by
  have := A1_bd (f := fun x => A1 fun y => b2i (p x y)) (B := 2097152) (by omega) (fun x => by
    have := A1_bd (f := fun y => b2i (p x y)) (B := 1) (by omega) (fun y => b2i_bd _)
    omega)
  unfold A
  omega
end
end Go.Proofs.Ytohecfbnmmgimaa

namespace Go.Proofs.Ytohecfbnmmgimaa
open Go.Vm Go.RowKit
set_option linter.unusedVariables false
noncomputable section

def xsOf (l : List Rect) : List Int := l.flatMap fun r => [r.X, r.X + r.W]
def ysOf (l : List Rect) : List Int := l.flatMap fun r => [r.Y, r.Y + r.H]
theorem xsOf_len (l : List Rect) : (xsOf l).length = 2 * l.length := by
  unfold xsOf
  induction l with
  | nil => rfl
  | cons r l ih => rw [List.flatMap_cons, List.length_append, ih]; simp only [List.length_cons, List.length_nil]; omega
theorem ysOf_len (l : List Rect) : (ysOf l).length = 2 * l.length := by
  unfold ysOf
  induction l with
  | nil => rfl
  | cons r l ih => rw [List.flatMap_cons, List.length_append, ih]; simp only [List.length_cons, List.length_nil]; omega
def pre_geom_newGrid (L : List (List Rect)) : Prop := L.length ≤ 4 ∧ ∀ l ∈ L, l.length ≤ 48 ∧ ∀ r ∈ l, vR r = true
def sp_geom_newGrid (L : List (List Rect)) : List Int × List Int := (srt (xsOf L.flatten), srt (ysOf L.flatten))
theorem lp_ng1 (F : Nat) (x0 : List (List Rect) → Int → Int → List Rect → Int → Int → List Int → List Int → Prop) (L : List (List Rect)) (a b : Int) (l : List Rect) (hl : l.length ≤ 48) (hv : ∀ r ∈ l, vR r = true) : ∀ (n k : Nat) (p q : List Int), p.length ≤ 1000 + 2 * k → q.length ≤ 1000 + 2 * k → k ≤ l.length → l.length < k + n →
    x0 L a b l l.length l.length (p ++ xsOf (l.drop k)) (q ++ ysOf (l.drop k)) → w_geom_newGrid_1 F x0 n L a b l l.length k p q := by
  intro n
  induction n with
  | zero => intro k p q hp hq h1 h2; omega
  | succ n ih =>
    intro k p q hp hq h1 h2 e
    show g_geom_newGrid_s1 (w_geom_newGrid_1 F x0 n) x0 L a b l l.length k p q
    unfold g_geom_newGrid_s1
    by_cases h : k < l.length
    · rw [dec_t (by omega), cond_true, Int.toNat_natCast]
      have hm : l.getD k default ∈ l := by simp [List.getD, h]
      have hb := (vR_iff _).1 (hv _ hm)
      rw [drop_getD l k h] at e
      rw [w64_succ h (by omega)]
      revert e hb
      generalize l.getD k default = r
      intro e hb
      dsimp only
      rw [w64_of (n := r.X + r.W) (by omega) (by omega), w64_of (n := r.Y + r.H) (by omega) (by omega)]
      refine ⟨by omega, by simp only [List.length_cons, List.length_nil]; omega, by simp only [List.length_cons, List.length_nil]; omega, ?_⟩
      refine ih _ _ _ (by simp only [List.length_append, List.length_cons, List.length_nil]; omega) (by simp only [List.length_append, List.length_cons, List.length_nil]; omega) (by omega) (by omega) ?_
      rw [List.append_assoc, List.append_assoc]
      exact e
    · rw [dec_f (by omega), cond_false]
      have he : k = l.length := by omega
      rw [he] at e ⊢
      rw [List.drop_length] at e
      unfold xsOf ysOf at e
      simpa using e
theorem lp_ng0 (F : Nat) (hF : 1000 < F) (x0 : List (List Rect) → Int → Int → List Int → List Int → Prop) (L : List (List Rect)) (hL : pre_geom_newGrid L) : ∀ (n i : Nat) (p q : List Int), p.length ≤ 96 * i → q.length ≤ 96 * i → i ≤ L.length → L.length < i + n →
    x0 L L.length L.length (p ++ xsOf (L.drop i).flatten) (q ++ ysOf (L.drop i).flatten) → w_geom_newGrid_0 F x0 n L L.length i p q := by
  intro n
  induction n with
  | zero => intro i p q hp hq h1 h2; omega
  | succ n ih =>
    intro i p q hp hq h1 h2 e
    have hL4 := hL.1
    show g_geom_newGrid_s0 (w_geom_newGrid_0 F x0 n) x0 L L.length i p q (n_geom_newGrid_1 F (w_geom_newGrid_0 F x0 n) x0)
    unfold g_geom_newGrid_s0
    by_cases h : i < L.length
    · rw [dec_t (by omega), cond_true, Int.toNat_natCast]
      have hm : L.getD i default ∈ L := by simp [List.getD, h]
      obtain ⟨h48, hv⟩ := hL.2 _ hm
      rw [drop_getD L i h, List.flatten_cons] at e
      revert e h48 hv
      generalize L.getD i default = l
      intro e h48 hv
      dsimp only
      refine ⟨by omega, ?_⟩
      refine lp_ng1 F _ L _ _ l h48 hv F 0 p q (by omega) (by omega) (by omega) (by omega) ?_
      rw [List.drop_zero]
      show w_geom_newGrid_0 F x0 n L _ (w64 _) _ _
      rw [w64_succ h (by omega)]
      refine ih _ _ _ (by rw [List.length_append, xsOf_len]; omega) (by rw [List.length_append, ysOf_len]; omega) (by omega) (by omega) ?_
      have e1 : xsOf (l ++ (L.drop (i + 1)).flatten) = xsOf l ++ xsOf (L.drop (i + 1)).flatten := by unfold xsOf; rw [List.flatMap_append]
      have e2 : ysOf (l ++ (L.drop (i + 1)).flatten) = ysOf l ++ ysOf (L.drop (i + 1)).flatten := by unfold ysOf; rw [List.flatMap_append]
      rw [e1, e2, ← List.append_assoc, ← List.append_assoc] at e
      exact e
    · rw [dec_f (by omega), cond_false]
      have he : i = L.length := by omega
      rw [he] at e ⊢
      rw [List.drop_length] at e
      simpa [xsOf, ysOf] using e
theorem flat_len (L : List (List Rect)) (h : ∀ l ∈ L, l.length ≤ 48) : L.flatten.length ≤ 48 * L.length := by
  induction L with
  | nil => simp
  | cons l L ih =>
    have := ih (fun x hx => h x (List.mem_cons_of_mem _ hx))
    have := h l (List.mem_cons_self ..)
    rw [List.flatten_cons, List.length_append, List.length_cons]
    omega
theorem ok_geom_newGrid (a0 : List (List Rect)) (h : pre_geom_newGrid a0) : ∃ F, ∀ Q : List Int → List Int → Prop, Q ((sp_geom_newGrid a0).1) ((sp_geom_newGrid a0).2) → w_geom_newGrid F a0 Q := by
  refine ⟨1001, fun Q hQ => ?_⟩
  unfold w_geom_newGrid g_geom_newGrid_e n_geom_newGrid_0
  have h4 := h.1
  have hf := flat_len a0 (fun l hl => (h.2 l hl).1)
  refine lp_ng0 1001 (by omega) _ a0 h 1001 0 [] [] (by simp) (by simp) (by omega) (by omega) ?_
  rw [List.drop_zero, List.nil_append, List.nil_append]
  refine ⟨?_, ?_, hQ⟩
  · rw [xsOf_len]; omega
  · rw [ysOf_len]; omega

/-! ### the length at a height -/
def wx (y : Int) : List Int → List Rect → List Int
  | s, [] => s
  | s, r :: l => wx y (cond (decide (r.Y ≤ y) && decide (y < r.Y + r.H)) (insR (insR s r.X) (r.X + r.W)) s) l
theorem wx_mem (y : Int) : ∀ (l : List Rect) (s : List Int) (x : Int), x ∈ wx y s l ↔ x ∈ s ∨ ∃ r ∈ l, r.Y ≤ y ∧ y < r.Y + r.H ∧ (x = r.X ∨ x = r.X + r.W) := by
  intro l
  induction l with
  | nil => intro s x; simp [wx]
  | cons r l ih =>
    intro s x
    unfold wx
    rw [ih]
    by_cases h : r.Y ≤ y ∧ y < r.Y + r.H
    · rw [dec_t h.1, dec_t h.2, Bool.true_and, cond_true, mem_insR, mem_insR]
      constructor
      · rintro ((h1 | h1 | h1) | ⟨q, hq, h1⟩)
        · exact .inr ⟨r, List.mem_cons_self .., h.1, h.2, .inr h1⟩
        · exact .inr ⟨r, List.mem_cons_self .., h.1, h.2, .inl h1⟩
        · exact .inl h1
        · exact .inr ⟨q, List.mem_cons_of_mem _ hq, h1⟩
      · rintro (h1 | ⟨q, hq, h1⟩)
        · exact .inl (.inr (.inr h1))
        · rcases List.mem_cons.1 hq with rfl | hq
          · rcases h1.2.2 with h1 | h1
            · exact .inl (.inr (.inl h1))
            · exact .inl (.inl h1)
          · exact .inr ⟨q, hq, h1⟩
    · have : (decide (r.Y ≤ y) && decide (y < r.Y + r.H)) = false := by
        rw [← Bool.not_eq_true, Bool.and_eq_true, decide_eq_true_eq, decide_eq_true_eq]
        exact h
      rw [this, cond_false]
      constructor
      · rintro (h1 | ⟨q, hq, h1⟩)
        · exact .inl h1
        · exact .inr ⟨q, List.mem_cons_of_mem _ hq, h1⟩
      · rintro (h1 | ⟨q, hq, h1⟩)
        · exact .inl h1
        · rcases List.mem_cons.1 hq with rfl | hq
          · exact absurd ⟨h1.1, h1.2.1⟩ h
          · exact .inr ⟨q, hq, h1⟩
theorem wx_asc (y : Int) : ∀ (l : List Rect) (s : List Int), asc s → asc (wx y s l) := by
  intro l
  induction l with
  | nil => intro s h; exact h
  | cons r l ih =>
    intro s h
    unfold wx
    refine ih _ ?_
    cases (decide (r.Y ≤ y) && decide (y < r.Y + r.H))
    · exact h
    · exact asc_insR _ _ (asc_insR _ _ h)
def okR (l : List Rect) : Prop := l.length ≤ 10000 ∧ ∀ r ∈ l, vR r = true
def pre_flat_width (l : List Rect) (y : Int) : Prop := okR l
def sp_flat_width (l : List Rect) (y : Int) : Int := strip (fun x => b2i (covB l x y)) (wx y [] l)
theorem wx_in (l : List Rect) (y : Int) (h : ∀ r ∈ l, vR r = true) : inM (wx y [] l) := by
  intro e he
  rcases (wx_mem y l [] e).1 he with h1 | ⟨r, hr, _, _, h1⟩
  · cases h1
  · have := (vR_iff r).1 (h r hr)
    omega
theorem width_A1 (l : List Rect) (y : Int) (h : ∀ r ∈ l, vR r = true) : sp_flat_width l y = A1 (fun x => b2i (covB l x y)) :=
  (line_x l y _ (wx_asc y l [] List.Pairwise.nil) (fun r hr h1 h2 => ⟨(wx_mem y l [] _).2 (.inr ⟨r, hr, h1, h2, .inl rfl⟩), (wx_mem y l [] _).2 (.inr ⟨r, hr, h1, h2, .inr rfl⟩)⟩) (wx_in l y h)).symm
theorem lp_w0 (F : Nat) (x0 : List Rect → Int → List Int → List Rect → Int → Int → Prop) (t0 : List Rect) (y : Int) (l : List Rect) (hl : l.length ≤ 10000) (hv : ∀ r ∈ l, vR r = true) : ∀ (n k : Nat) (s : List Int), s.length ≤ 2 * k → k ≤ l.length → l.length < k + n →
    x0 t0 y (wx y s (l.drop k)) l l.length l.length → w_flat_width_0 F x0 n t0 y s l l.length k := by
  intro n
  induction n with
  | zero => intro k s hs h1 h2; omega
  | succ n ih =>
    intro k s hs h1 h2 e
    show g_flat_width_s0 (w_flat_width_0 F x0 n) x0 t0 y s l l.length k
    unfold g_flat_width_s0
    by_cases h : k < l.length
    · rw [dec_t (by omega), cond_true, Int.toNat_natCast]
      have hm : l.getD k default ∈ l := by simp [List.getD, h]
      have hb := (vR_iff _).1 (hv _ hm)
      rw [drop_getD l k h] at e
      rw [w64_succ h (by omega)]
      revert e hb
      generalize l.getD k default = r
      intro e hb
      dsimp only
      rw [w64_of (n := r.X + r.W) (by omega) (by omega), w64_of (n := r.Y + r.H) (by omega) (by omega)]
      refine ⟨by omega, ?_⟩
      unfold wx at e
      cases hc : (decide (r.Y ≤ y) && decide (y < r.Y + r.H))
      · rw [hc, cond_false] at e
        rw [cond_false]
        exact ih _ _ (by omega) (by omega) (by omega) e
      · rw [hc, cond_true] at e
        rw [cond_true]
        have l1 := len_insR s r.X
        have l2 := len_insR (insR s r.X) (r.X + r.W)
        unfold pre_flat_insert sp_flat_insert
        refine ⟨by omega, by omega, ?_⟩
        exact ih _ _ (by omega) (by omega) (by omega) e
    · rw [dec_f (by omega), cond_false]
      have he : k = l.length := by omega
      rw [he] at e ⊢
      rw [List.drop_length] at e
      exact e
theorem lp_w2 (F : Nat) (x0 : List Rect → Int → List Int → Int → Int → List Rect → Int → Int → Prop) (t0 : List Rect) (y : Int) (xs : List Int) (s : Int) (i : Nat) (l : List Rect) (hl : l.length ≤ 10000) (hv : ∀ r ∈ l, vR r = true)
    (hi : i + 1 < xs.length) (hx : xs.length ≤ 100000) (hM : inM xs) (hs : 0 ≤ s ∧ s ≤ 4294967296) : ∀ (n k : Nat), k ≤ l.length → l.length < k + n →
    (∀ j : Int, x0 t0 y xs (s + (cond (covB (l.drop k) (xs.getD i default) y) (xs.getD (i + 1) default - xs.getD i default) 0)) ((i + 1 : Nat) : Int) l l.length j) → w_flat_width_2 F x0 n t0 y xs s ((i + 1 : Nat) : Int) l l.length k := by
  intro n
  induction n with
  | zero => intro k h1 h2; omega
  | succ n ih =>
    intro k h1 h2 e
    show g_flat_width_s2 (w_flat_width_2 F x0 n) x0 t0 y xs s ((i + 1 : Nat) : Int) l l.length k
    unfold g_flat_width_s2
    by_cases h : k < l.length
    · have hw : w64 (((i + 1 : Nat) : Int) - 1) = (i : Int) := by rw [w64_of (by omega) (by omega)]; omega
      rw [dec_t (by omega), cond_true, hw, Int.toNat_natCast, Int.toNat_natCast, Int.toNat_natCast]
      have hm : l.getD k default ∈ l := by simp [List.getD, h]
      have hb := (vR_iff _).1 (hv _ hm)
      have m1 : xs.getD i default ∈ xs := by simp [List.getD, show i < xs.length by omega]
      have m2 : xs.getD (i + 1) default ∈ xs := by simp [List.getD, hi]
      have b1 := hM _ m1
      have b2 := hM _ m2
      rw [drop_getD l k h] at e
      unfold covB at e
      rw [List.any_cons] at e
      change ∀ j : Int, x0 t0 y xs (s + (cond (_ || covB (l.drop (k + 1)) _ _) _ _)) _ l l.length j at e
      rw [w64_succ h (by omega)]
      revert e hb ih b1 b2
      generalize l.getD k default = r
      generalize xs.getD i default = a
      generalize xs.getD (i + 1) default = b
      intro ih hb b1 b2 e
      dsimp only
      rw [w64_of (n := r.X + r.W) (by omega) (by omega), w64_of (n := r.Y + r.H) (by omega) (by omega), w64_of (n := b - a) (by omega) (by omega), w64_of (n := s + (b - a)) (by omega) (by omega)]
      unfold inB at e
      refine ⟨by omega, ?_⟩
      cases c3 : decide (r.Y ≤ y)
      · rw [cond_false]
        rw [c3, Bool.false_and, Bool.and_false, Bool.and_false, Bool.false_or] at e
        exact ih _ (by omega) (by omega) e
      · rw [cond_true]
        cases c4 : decide (y < r.Y + r.H)
        · rw [cond_false]
          rw [c3, c4, Bool.and_false, Bool.and_false, Bool.and_false, Bool.false_or] at e
          exact ih _ (by omega) (by omega) e
        · rw [cond_true]
          rw [c3, c4, Bool.and_true, Bool.and_true] at e
          refine ⟨by omega, ?_⟩
          cases c1 : decide (r.X ≤ a)
          · rw [cond_false]
            rw [c1, Bool.false_and, Bool.false_or] at e
            exact ih _ (by omega) (by omega) e
          · rw [cond_true]
            refine ⟨by omega, ?_⟩
            cases c2 : decide (a < r.X + r.W)
            · rw [cond_false]
              rw [c1, c2, Bool.and_false, Bool.false_or] at e
              exact ih _ (by omega) (by omega) e
            · rw [cond_true]
              rw [c1, c2, Bool.and_true, Bool.true_or, cond_true] at e
              exact ⟨by omega, by omega, e _⟩
    · rw [dec_f (by omega), cond_false]
      have he : k = l.length := by omega
      rw [he] at e ⊢
      have := e l.length
      rw [List.drop_length] at this
      simpa [covB] using this
theorem lp_w1 (F : Nat) (hF : 100000 < F) (x0 : List Rect → Int → List Int → Int → Int → Prop) (y : Int) (xs : List Int) (l : List Rect) (hl : l.length ≤ 10000) (hv : ∀ r ∈ l, vR r = true)
    (hx : xs.length ≤ 100000) (hM : inM xs) (ha : asc xs) : ∀ (n i : Nat), i + 1 ≤ xs.length → xs.length < i + 1 + n →
    (∀ j : Int, x0 l y xs (strip (fun x => b2i (covB l x y)) xs) j) → w_flat_width_1 F x0 n l y xs (strip (fun x => b2i (covB l x y)) (xs.take (i + 1))) ((i + 1 : Nat) : Int) := by
  intro n
  induction n with
  | zero => intro i h1 h2; omega
  | succ n ih =>
    intro i h1 h2 e
    show g_flat_width_s1 (w_flat_width_1 F x0 n) x0 l y xs _ ((i + 1 : Nat) : Int) (n_flat_width_2 F (w_flat_width_1 F x0 n) x0)
    unfold g_flat_width_s1
    by_cases h : i + 1 < xs.length
    · rw [dec_t (by omega), cond_true]
      have hsb := strip_bd (fun x => b2i (covB l x y)) 1 (-1048576) 1048576 (by omega) (by omega) (xs.take (i + 1)) (List.Pairwise.sublist (List.take_sublist ..) ha) (fun x _ => b2i_bd _) (fun x hx' => hM x (List.mem_of_mem_take hx'))
      refine lp_w2 F _ l y xs _ i l hl hv h hx hM (by omega) F 0 (by omega) (by omega) (fun j => ?_)
      rw [List.drop_zero]
      show w_flat_width_1 F x0 n l y xs _ (w64 _)
      rw [w64_succ h (by omega)]
      have hsn := strip_snoc (fun x => b2i (covB l x y)) xs i h
      have hc : (cond (covB l (xs.getD i default) y) (xs.getD (i + 1) default - xs.getD i default) 0) = (xs.getD (i + 1) default - xs.getD i default) * b2i (covB l (xs.getD i default) y) := by
        cases covB l (xs.getD i default) y
        · simp [b2i]
        · simp [b2i]
      rw [hc, ← hsn]
      exact ih (i + 1) (by omega) (by omega) e
    · rw [dec_f (by omega), cond_false]
      rw [List.take_of_length_le (by omega)]
      exact e _
theorem wx_len (y : Int) : ∀ (l : List Rect) (s : List Int), (wx y s l).length ≤ s.length + 2 * l.length := by
  intro l
  induction l with
  | nil => intro s; simp [wx]
  | cons r l ih =>
    intro s
    unfold wx
    have := ih (cond (decide (r.Y ≤ y) && decide (y < r.Y + r.H)) (insR (insR s r.X) (r.X + r.W)) s)
    have l1 := len_insR s r.X
    have l2 := len_insR (insR s r.X) (r.X + r.W)
    have : (cond (decide (r.Y ≤ y) && decide (y < r.Y + r.H)) (insR (insR s r.X) (r.X + r.W)) s).length ≤ s.length + 2 := by
      cases (decide (r.Y ≤ y) && decide (y < r.Y + r.H))
      · simp
      · simp only [cond_true]; omega
    simp only [List.length_cons]
    omega
theorem ok_flat_width (a0 : List Rect) (a1 : Int) (h : pre_flat_width a0 a1) : ∃ F, ∀ Q : Int → Prop, Q (sp_flat_width a0 a1) → w_flat_width F a0 a1 Q := by
  refine ⟨100001, fun Q hQ => ?_⟩
  obtain ⟨h1, h2⟩ := h
  unfold w_flat_width g_flat_width_e n_flat_width_0
  refine lp_w0 100001 _ a0 a1 a0 h1 h2 100001 0 [] (by simp) (by omega) (by omega) ?_
  rw [List.drop_zero]
  unfold g_flat_width_c0_0 n_flat_width_1
  unfold sp_flat_width at hQ
  have hlen := wx_len a1 a0 []
  rw [List.length_nil] at hlen
  have hM := wx_in a0 a1 h2
  have ha := wx_asc a1 a0 [] List.Pairwise.nil
  revert hQ hlen hM ha
  generalize wx a1 [] a0 = xs
  intro hQ hlen hM ha
  cases xs with
  | nil =>
    show g_flat_width_s1 _ _ _ _ _ _ _ _
    unfold g_flat_width_s1
    exact hQ
  | cons a xs =>
    have := lp_w1 100001 (by omega) (fun t0 t1 t5 t8 t9 => g_flat_width_c1_0 Q t0 t1 t5 t8 t9) a1 (a :: xs) a0 h1 h2 (by omega) hM ha 100001 0 (by simp) (by omega) (fun j => hQ)
    exact this
end
end Go.Proofs.Ytohecfbnmmgimaa

namespace Go.Proofs.Ytohecfbnmmgimaa
open Go.Vm Go.RowKit
set_option linter.unusedVariables false
noncomputable section
/-! ### sheetmetal/geom.Area -/
def M_geom_Area : Nat → Nat → Canon UU := fun b r => cond (Nat.beq b 0) ⟨[5, 6, 22, 23, 24], [5], [(.tmp 22, 67, .bools)], []⟩ (cond (Nat.beq b 2) ⟨[5, 6, 7, 22, 23, 24, 29, 30, 31], [5], [(.tmp 22, 67, .bools)], []⟩ (⟨[], [], [], []⟩))
def st_geom_Area_0 (t6 : Int) (t23 : Int) (t24 : Int) (c5_0 : List Int) (c5_1 : List Int) (l67 : List (List Bool)) : ASt UU := ⟨fun u => cond (Nat.beq u 5) (.ptr 5 0) (cond (Nat.beq u 6) (.int .i64 t6) (cond (Nat.beq u 22) (.osl 67 0) (cond (Nat.beq u 23) (.int .i64 t23) (cond (Nat.beq u 24) (.int .i64 t24) (.any))))), fun u => cond (Nat.beq u 67) (some (.row .bools 0 l67)) (cond (Nat.beq u 5) (some (.cells [.sl .int c5_0, .sl .int c5_1])) (none))⟩
def st_geom_Area_1 (t6 : Int) (t7 : Int) (t23 : Int) (t24 : Int) (t29 : List Bool) (t30 : Int) (t31 : Int) (c5_0 : List Int) (c5_1 : List Int) (l67 : List (List Bool)) : ASt UU := ⟨fun u => cond (Nat.beq u 5) (.ptr 5 0) (cond (Nat.beq u 6) (.int .i64 t6) (cond (Nat.beq u 7) (.int .i64 t7) (cond (Nat.beq u 22) (.osl 67 0) (cond (Nat.beq u 23) (.int .i64 t23) (cond (Nat.beq u 24) (.int .i64 t24) (cond (Nat.beq u 29) (.sl .bool t29) (cond (Nat.beq u 30) (.int .i64 t30) (cond (Nat.beq u 31) (.int .i64 t31) (.any))))))))), fun u => cond (Nat.beq u 67) (some (.row .bools 0 l67)) (cond (Nat.beq u 5) (some (.cells [.sl .int c5_0, .sl .int c5_1])) (none))⟩
def g_geom_Area_e (a0 : List Rect) (Q : Int → Int → Prop) (i0 : Int → Int → Int → List Int → List Int → List (List Bool) → Prop) : Prop := ((pre_geom_rects ([a0])) ∧ cond ((sp_geom_rects ([a0])) != 0) (Q 0 (sp_geom_rects ([a0]))) ((let r0 := (sp_geom_newGrid ([a0])); ((pre_geom_newGrid ([a0])) ∧ (let v1 := ((sp_geom_grid_covered r0.1 r0.2 a0).length : Int); ((pre_geom_grid_covered r0.1 r0.2 a0) ∧ i0 0 v1 0 r0.1 r0.2 (sp_geom_grid_covered r0.1 r0.2 a0)))))))
def g_geom_Area_s0 (rec : Int → Int → Int → List Int → List Int → List (List Bool) → Prop) (x0 : Int → Int → Int → List Int → List Int → List (List Bool) → Prop) (t6 : Int) (t23 : Int) (t24 : Int) (c5_0 : List Int) (c5_1 : List Int) (l67 : List (List Bool)) (i1 : Int → Int → Int → Int → List Bool → Int → Int → List Int → List Int → List (List Bool) → Prop) : Prop := cond (decide (t24 < t23)) (((0 ≤ t24 ∧ t24 < l67.length) ∧ i1 t6 t24 t23 t24 (l67.getD t24.toNat default) ((l67.getD t24.toNat default).length : Int) 0 c5_0 c5_1 l67)) (x0 t6 t23 t24 c5_0 c5_1 l67)
def g_geom_Area_c0_0 (Q : Int → Int → Prop) (t6 : Int) (t23 : Int) (t24 : Int) (c5_0 : List Int) (c5_1 : List Int) (l67 : List (List Bool)) : Prop := Q t6 0
def g_geom_Area_s1 (rec : Int → Int → Int → Int → List Bool → Int → Int → List Int → List Int → List (List Bool) → Prop) (x0 : Int → Int → Int → Int → List Bool → Int → Int → List Int → List Int → List (List Bool) → Prop) (t6 : Int) (t7 : Int) (t23 : Int) (t24 : Int) (t29 : List Bool) (t30 : Int) (t31 : Int) (c5_0 : List Int) (c5_1 : List Int) (l67 : List (List Bool)) : Prop := cond (decide (t31 < t30)) ((let e0 := (t29.getD t31.toNat default); ((0 ≤ t31 ∧ t31 < t29.length) ∧ cond e0 ((let e1 := (c5_0.getD ((w64 (t7 + 1)).toNat) default); ((0 ≤ (w64 (t7 + 1)) ∧ (w64 (t7 + 1)) < c5_0.length) ∧ (let e2 := (c5_0.getD t7.toNat default); ((0 ≤ t7 ∧ t7 < c5_0.length) ∧ (let e3 := (c5_1.getD ((w64 (t31 + 1)).toNat) default); ((0 ≤ (w64 (t31 + 1)) ∧ (w64 (t31 + 1)) < c5_1.length) ∧ (let e4 := (c5_1.getD t31.toNat default); ((0 ≤ t31 ∧ t31 < c5_1.length) ∧ (let v5 := w64 (t6 + (w64 ((w64 (e1 - e2)) * (w64 (e3 - e4))))); rec v5 t7 t23 t24 t29 t30 (w64 (t31 + 1)) c5_0 c5_1 l67)))))))))) (rec t6 t7 t23 t24 t29 t30 (w64 (t31 + 1)) c5_0 c5_1 l67)))) (x0 t6 t7 t23 t24 t29 t30 t31 c5_0 c5_1 l67)
def g_geom_Area_c1_0 (rec : Int → Int → Int → List Int → List Int → List (List Bool) → Prop) (x0 : Int → Int → Int → List Int → List Int → List (List Bool) → Prop) (t6 : Int) (t7 : Int) (t23 : Int) (t24 : Int) (t29 : List Bool) (t30 : Int) (t31 : Int) (c5_0 : List Int) (c5_1 : List Int) (l67 : List (List Bool)) : Prop := rec t6 t23 (w64 (t24 + 1)) c5_0 c5_1 l67
def w_geom_Area_1 (F : Nat) (x0 : Int → Int → Int → Int → List Bool → Int → Int → List Int → List Int → List (List Bool) → Prop) : Nat → Int → Int → Int → Int → List Bool → Int → Int → List Int → List Int → List (List Bool) → Prop
  | 0, _, _, _, _, _, _, _, _, _, _ => False
  | n + 1, t6, t7, t23, t24, t29, t30, t31, c5_0, c5_1, l67 => g_geom_Area_s1 (w_geom_Area_1 F x0 n) x0 t6 t7 t23 t24 t29 t30 t31 c5_0 c5_1 l67
def n_geom_Area_1 (F : Nat) (rec : Int → Int → Int → List Int → List Int → List (List Bool) → Prop) (x0 : Int → Int → Int → List Int → List Int → List (List Bool) → Prop) (t6 : Int) (t7 : Int) (t23 : Int) (t24 : Int) (t29 : List Bool) (t30 : Int) (t31 : Int) (c5_0 : List Int) (c5_1 : List Int) (l67 : List (List Bool)) : Prop := w_geom_Area_1 F (fun t6 t7 t23 t24 t29 t30 t31 c5_0 c5_1 l67 => g_geom_Area_c1_0 rec x0 t6 t7 t23 t24 t29 t30 t31 c5_0 c5_1 l67) F t6 t7 t23 t24 t29 t30 t31 c5_0 c5_1 l67
def w_geom_Area_0 (F : Nat) (x0 : Int → Int → Int → List Int → List Int → List (List Bool) → Prop) : Nat → Int → Int → Int → List Int → List Int → List (List Bool) → Prop
  | 0, _, _, _, _, _, _ => False
  | n + 1, t6, t23, t24, c5_0, c5_1, l67 => g_geom_Area_s0 (w_geom_Area_0 F x0 n) x0 t6 t23 t24 c5_0 c5_1 l67 (n_geom_Area_1 F (w_geom_Area_0 F x0 n) x0)
def n_geom_Area_0 (F : Nat) (Q : Int → Int → Prop) (t6 : Int) (t23 : Int) (t24 : Int) (c5_0 : List Int) (c5_1 : List Int) (l67 : List (List Bool)) : Prop := w_geom_Area_0 F (fun t6 t23 t24 c5_0 c5_1 l67 => g_geom_Area_c0_0 Q t6 t23 t24 c5_0 c5_1 l67) F t6 t23 t24 c5_0 c5_1 l67
def w_geom_Area (F : Nat) (a0 : List Rect) (Q : Int → Int → Prop) : Prop := g_geom_Area_e a0 Q (n_geom_Area_0 F Q)
/-! ### sheetmetal/flat.area -/
def M_flat_area : Nat → Nat → Canon UU := fun b r => cond (Nat.beq b 0) ⟨[0, 3, 8, 9, 10], [], [], [(.tmp 3, .int)]⟩ (cond (Nat.beq b 2) ⟨[0, 3, 6, 7], [], [], []⟩ (⟨[], [], [], []⟩))
def st_flat_area_0 (t0 : List Rect) (t3 : List Int) (t8 : List Rect) (t9 : Int) (t10 : Int) : ASt UU := ⟨fun u => cond (Nat.beq u 0) (.sl .rect t0) (cond (Nat.beq u 3) (.sl .int t3) (cond (Nat.beq u 8) (.sl .rect t8) (cond (Nat.beq u 9) (.int .i64 t9) (cond (Nat.beq u 10) (.int .i64 t10) (.any))))), fun u => none⟩
def st_flat_area_1 (t0 : List Rect) (t3 : List Int) (t6 : Int) (t7 : Int) : ASt UU := ⟨fun u => cond (Nat.beq u 0) (.sl .rect t0) (cond (Nat.beq u 3) (.sl .int t3) (cond (Nat.beq u 6) (.int .i64 t6) (cond (Nat.beq u 7) (.int .i64 t7) (.any)))), fun u => none⟩
def g_flat_area_e (a0 : List Rect) (Q : Int → Prop) (i0 : List Rect → List Int → List Rect → Int → Int → Prop) : Prop := i0 a0 ([]) a0 (a0.length : Int) 0
def g_flat_area_s0 (rec : List Rect → List Int → List Rect → Int → Int → Prop) (x0 : List Rect → List Int → List Rect → Int → Int → Prop) (t0 : List Rect) (t3 : List Int) (t8 : List Rect) (t9 : Int) (t10 : Int) : Prop := cond (decide (t10 < t9)) ((let e0 := (t8.getD t10.toNat default); ((0 ≤ t10 ∧ t10 < t8.length) ∧ ((pre_flat_insert t3 e0.Y) ∧ (let r1 := (sp_flat_insert (sp_flat_insert t3 e0.Y) (w64 (e0.Y + e0.H))); ((pre_flat_insert (sp_flat_insert t3 e0.Y) (w64 (e0.Y + e0.H))) ∧ rec t0 r1 t8 t9 (w64 (t10 + 1)))))))) (x0 t0 t3 t8 t9 t10)
def g_flat_area_c0_0 (Q : Int → Prop) (t0 : List Rect) (t3 : List Int) (t8 : List Rect) (t9 : Int) (t10 : Int) (i1 : List Rect → List Int → Int → Int → Prop) : Prop := i1 t0 t3 0 1
def g_flat_area_s1 (rec : List Rect → List Int → Int → Int → Prop) (x0 : List Rect → List Int → Int → Int → Prop) (t0 : List Rect) (t3 : List Int) (t6 : Int) (t7 : Int) : Prop := cond (decide (t7 < (t3.length : Int))) ((let e0 := (t3.getD t7.toNat default); ((0 ≤ t7 ∧ t7 < t3.length) ∧ (let e1 := (t3.getD ((w64 (t7 - 1)).toNat) default); ((0 ≤ (w64 (t7 - 1)) ∧ (w64 (t7 - 1)) < t3.length) ∧ (let e2 := (t3.getD ((w64 (t7 - 1)).toNat) default); ((0 ≤ (w64 (t7 - 1)) ∧ (w64 (t7 - 1)) < t3.length) ∧ ((pre_flat_width t0 e2) ∧ (let v3 := w64 ((w64 (e0 - e1)) * (sp_flat_width t0 e2)); rec t0 t3 (w64 (t6 + v3)) (w64 (t7 + 1))))))))))) (x0 t0 t3 t6 t7)
def g_flat_area_c1_0 (Q : Int → Prop) (t0 : List Rect) (t3 : List Int) (t6 : Int) (t7 : Int) : Prop := Q t6
def w_flat_area_1 (F : Nat) (x0 : List Rect → List Int → Int → Int → Prop) : Nat → List Rect → List Int → Int → Int → Prop
  | 0, _, _, _, _ => False
  | n + 1, t0, t3, t6, t7 => g_flat_area_s1 (w_flat_area_1 F x0 n) x0 t0 t3 t6 t7
def n_flat_area_1 (F : Nat) (Q : Int → Prop) (t0 : List Rect) (t3 : List Int) (t6 : Int) (t7 : Int) : Prop := w_flat_area_1 F (fun t0 t3 t6 t7 => g_flat_area_c1_0 Q t0 t3 t6 t7) F t0 t3 t6 t7
def w_flat_area_0 (F : Nat) (x0 : List Rect → List Int → List Rect → Int → Int → Prop) : Nat → List Rect → List Int → List Rect → Int → Int → Prop
  | 0, _, _, _, _, _ => False
  | n + 1, t0, t3, t8, t9, t10 => g_flat_area_s0 (w_flat_area_0 F x0 n) x0 t0 t3 t8 t9 t10
def n_flat_area_0 (F : Nat) (Q : Int → Prop) (t0 : List Rect) (t3 : List Int) (t8 : List Rect) (t9 : Int) (t10 : Int) : Prop := w_flat_area_0 F (fun t0 t3 t8 t9 t10 => g_flat_area_c0_0 Q t0 t3 t8 t9 t10 (n_flat_area_1 F Q)) F t0 t3 t8 t9 t10
def w_flat_area (F : Nat) (a0 : List Rect) (Q : Int → Prop) : Prop := g_flat_area_e a0 Q (n_flat_area_0 F Q)
end
end Go.Proofs.Ytohecfbnmmgimaa

namespace Go.Proofs.Ytohecfbnmmgimaa
open Go.Vm Go.RowKit
set_option linter.unusedVariables false
noncomputable section

theorem mulBd {a b P Q : Int} (h1 : 0 ≤ a) (h2 : a ≤ P) (h3 : 0 ≤ b) (h4 : b ≤ Q) : 0 ≤ a * b ∧ a * b ≤ P * Q := ⟨Int.mul_nonneg h1 h3, Int.mul_le_mul h2 h4 h3 (by omega)⟩
theorem getD_memI {xs : List Int} {i : Nat} (h : i < xs.length) : xs.getD i default ∈ xs := by simp [List.getD, h]
theorem asc_getD {xs : List Int} (ha : asc xs) {i : Nat} (h : i + 1 < xs.length) : xs.getD i default < xs.getD (i + 1) default := by
  have := List.pairwise_iff_getElem.1 ha i (i + 1) (by omega) h (by omega)
  simpa [List.getD, h, show i < xs.length by omega] using this

/-! ### by the cells of a grid -/
def pre_geom_Area (l : List Rect) : Prop := True
def sp_geom_Area (l : List Rect) : Int × Int := cond (sp_geom_rects [l] != 0) (0, sp_geom_rects [l]) (A (covB l), 0)
theorem lp_a1 (F : Nat) (x0 : Int → Int → Int → Int → List Bool → Int → Int → List Int → List Int → List (List Bool) → Prop) (f : Int → Bool) (s0 : Int) (i : Nat) (a b : Int) (row : List Bool) (xs ys : List Int) (L : List (List Bool)) (m : Nat) (hm : m + 1 = ys.length) (hrl : row.length = m)
    (hrow : ∀ j, j < m → row.getD j default = f (ys.getD j default)) (hi : i + 1 < xs.length) (hx : xs.length ≤ 1000) (hy : ys.length ≤ 1000) (ax : asc xs) (ay : asc ys) (mx : inM xs) (my : inM ys) (hs : 0 ≤ s0 ∧ s0 ≤ 4398046511104) : ∀ (n j : Nat), j ≤ m → m < j + n →
    x0 (s0 + (xs.getD (i + 1) default - xs.getD i default) * strip (fun y => b2i (f y)) ys) i a b row m m xs ys L →
    w_geom_Area_1 F x0 n (s0 + (xs.getD (i + 1) default - xs.getD i default) * strip (fun y => b2i (f y)) (ys.take (j + 1))) i a b row m j xs ys L := by
  intro n
  induction n with
  | zero => intro j h1 h2; omega
  | succ n ih =>
    intro j h1 h2 e
    show g_geom_Area_s1 (w_geom_Area_1 F x0 n) x0 _ i a b row m j xs ys L
    unfold g_geom_Area_s1
    by_cases h : j < m
    · have hw1 : w64 ((j : Int) + 1) = ((j + 1 : Nat) : Int) := w64_succ h (show m ≤ 1000000000 by omega)
      have hw2 : w64 ((i : Int) + 1) = ((i + 1 : Nat) : Int) := w64_succ (n := xs.length) (by omega) (by omega)
      rw [dec_t (by omega), cond_true, hw1, hw2, Int.toNat_natCast, Int.toNat_natCast, Int.toNat_natCast, Int.toNat_natCast, hrow j h]
      have hj : j + 1 < ys.length := by omega
      have hsn := strip_snoc (fun y => b2i (f y)) ys j hj
      have hnx := ih (j + 1) (by omega) (by omega) e
      rw [hsn] at hnx
      have sb := strip_bd (fun y => b2i (f y)) 1 (-1048576) 1048576 (by omega) (by omega) (ys.take (j + 1)) (List.Pairwise.sublist (List.take_sublist ..) ay) (fun x _ => b2i_bd _) (fun x hx' => my x (List.mem_of_mem_take hx'))
      have p1 := mx _ (getD_memI (show i < xs.length by omega))
      have p2 := mx _ (getD_memI hi)
      have p3 := my _ (getD_memI (show j < ys.length by omega))
      have p4 := my _ (getD_memI hj)
      have q1 := asc_getD ax hi
      have q2 := asc_getD ay hj
      revert hnx sb p1 p2 p3 p4 q1 q2
      generalize strip (fun y => b2i (f y)) (ys.take (j + 1)) = s
      generalize xs.getD (i + 1) default = x2
      generalize xs.getD i default = x1
      generalize ys.getD (j + 1) default = y2
      generalize ys.getD j default = y1
      intro hnx sb p1 p2 p3 p4 q1 q2
      dsimp only
      have d1 := mulBd (a := x2 - x1) (b := s) (P := 2097152) (Q := 2097152) (by omega) (by omega) (by omega) (by omega)
      have d2 := mulBd (a := x2 - x1) (b := y2 - y1) (P := 2097152) (Q := 2097152) (by omega) (by omega) (by omega) (by omega)
      refine ⟨by rw [hrl]; omega, ?_⟩
      cases hf : f y1
      · rw [cond_false]
        rw [hf] at hnx
        simp only [b2i, cond_false, Int.mul_zero, Int.add_zero] at hnx
        exact hnx
      · rw [cond_true]
        rw [hf] at hnx
        simp only [b2i, cond_true, Int.mul_one] at hnx
        rw [w64_of (n := x2 - x1) (by omega) (by omega), w64_of (n := y2 - y1) (by omega) (by omega), w64_of (n := (x2 - x1) * (y2 - y1)) (by omega) (by omega), w64_of (n := s0 + (x2 - x1) * s + (x2 - x1) * (y2 - y1)) (by omega) (by omega)]
        refine ⟨by omega, by omega, by omega, by omega, ?_⟩
        rw [Int.mul_add, ← Int.add_assoc] at hnx
        exact hnx
    · rw [dec_f (by omega), cond_false]
      have he : j = m := by omega
      subst he
      rw [List.take_of_length_le (by omega)]
      exact e
theorem lp_a0 (F : Nat) (hF : 1000 < F) (x0 : Int → Int → Int → List Int → List Int → List (List Bool) → Prop) (l : List Rect) (xs ys : List Int) (k m : Nat) (hk : k + 1 = xs.length) (hm : m + 1 = ys.length) (hx : xs.length ≤ 1000) (hy : ys.length ≤ 1000) (ax : asc xs) (ay : asc ys) (mx : inM xs) (my : inM ys) : ∀ (n i : Nat), i ≤ k → k < i + n →
    x0 (strip (fun x => strip (fun y => b2i (covB l x y)) ys) xs) k k xs ys (sp_geom_grid_covered xs ys l) →
    w_geom_Area_0 F x0 n (strip (fun x => strip (fun y => b2i (covB l x y)) ys) (xs.take (i + 1))) k i xs ys (sp_geom_grid_covered xs ys l) := by
  intro n
  induction n with
  | zero => intro i h1 h2; omega
  | succ n ih =>
    intro i h1 h2 e
    show g_geom_Area_s0 (w_geom_Area_0 F x0 n) x0 _ k i xs ys _ (n_geom_Area_1 F (w_geom_Area_0 F x0 n) x0)
    unfold g_geom_Area_s0
    by_cases h : i < k
    · have hi : i + 1 < xs.length := by omega
      have hL : (sp_geom_grid_covered xs ys l).length = k := by unfold sp_geom_grid_covered; simp; omega
      rw [dec_t (by omega), cond_true, Int.toNat_natCast]
      refine ⟨by rw [hL]; omega, ?_⟩
      have hrow : (sp_geom_grid_covered xs ys l).getD i default = ys.dropLast.map fun b => covB l (xs.getD i default) b := by
        unfold sp_geom_grid_covered
        simp [List.getD, show i < xs.length - 1 by omega, show i < xs.length by omega]
      have hrl : ((sp_geom_grid_covered xs ys l).getD i default).length = m := by rw [hrow]; simp; omega
      rw [hrl]
      have sb := strip_bd (fun x => strip (fun y => b2i (covB l x y)) ys) 2097152 (-1048576) 1048576 (by omega) (by omega) (xs.take (i + 1)) (List.Pairwise.sublist (List.take_sublist ..) ax) (fun x _ => by
        have := strip_bd (fun y => b2i (covB l x y)) 1 (-1048576) 1048576 (by omega) (by omega) ys ay (fun x _ => b2i_bd _) my
        omega) (fun x hx' => mx x (List.mem_of_mem_take hx'))
      have hsn := strip_snoc (fun x => strip (fun y => b2i (covB l x y)) ys) xs i hi
      have hnx := ih (i + 1) (by omega) (by omega) e
      rw [hsn] at hnx
      have := lp_a1 F (fun t6 t7 t23 t24 t29 t30 t31 c5_0 c5_1 l67 => g_geom_Area_c1_0 (w_geom_Area_0 F x0 n) x0 t6 t7 t23 t24 t29 t30 t31 c5_0 c5_1 l67) (covB l (xs.getD i default)) (strip (fun x => strip (fun y => b2i (covB l x y)) ys) (xs.take (i + 1))) i k i ((sp_geom_grid_covered xs ys l).getD i default) xs ys (sp_geom_grid_covered xs ys l) m hm hrl (fun j hj => by
        rw [hrow]
        simp [List.getD, show j < ys.length - 1 by omega, show j < ys.length by omega]) hi hx hy ax ay mx my (by omega) F 0 (by omega) (by omega) (by
        show w_geom_Area_0 F x0 n _ _ (w64 _) _ _ _
        rw [w64_succ h (by omega)]
        exact hnx)
      have hz : strip (fun y => b2i (covB l (xs.getD i default) y)) (ys.take (0 + 1)) = 0 := by
        cases ys with
        | nil => rfl
        | cons a ys => rfl
      rw [hz, Int.mul_zero, Int.add_zero] at this
      exact this
    · rw [dec_f (by omega), cond_false]
      have he : i = k := by omega
      subst he
      rw [List.take_of_length_le (by omega)]
      exact e
theorem srt_asc' (l : List Int) : asc (srt l) := by
  unfold srt
  induction l with
  | nil => exact List.Pairwise.nil
  | cons a l ih => exact asc_insR _ _ ih
theorem srt_mem' (l : List Int) (x : Int) : x ∈ srt l ↔ x ∈ l := by
  unfold srt
  induction l with
  | nil => simp
  | cons a l ih => rw [List.foldr_cons, mem_insR, ih, List.mem_cons]
theorem srt_len (l : List Int) : (srt l).length ≤ l.length := by
  unfold srt
  induction l with
  | nil => simp
  | cons a l ih =>
    have := len_insR (l.foldr (fun a s => insR s a) []) a
    simp only [List.foldr_cons, List.length_cons]
    omega
theorem xsOf_mem (l : List Rect) (x : Int) : x ∈ xsOf l ↔ ∃ r ∈ l, x = r.X ∨ x = r.X + r.W := by
  unfold xsOf
  rw [List.mem_flatMap]
  simp
theorem ysOf_mem (l : List Rect) (x : Int) : x ∈ ysOf l ↔ ∃ r ∈ l, x = r.Y ∨ x = r.Y + r.H := by
  unfold ysOf
  rw [List.mem_flatMap]
  simp
theorem rects_ok {l : List Rect} (h : sp_geom_rects [l] = 0) : l.length ≤ 48 ∧ ∀ r ∈ l, vR r = true := by
  unfold sp_geom_rects at h
  simp only [List.any_cons, List.any_nil, Bool.or_false, List.all_cons, List.all_nil, Bool.and_true] at h
  cases h1 : decide (48 < l.length)
  · rw [h1, cond_false] at h
    have := of_decide_eq_false h1
    cases h2 : l.all vR
    · rw [h2] at h
      cases h
    · exact ⟨by omega, fun r hr => List.all_eq_true.1 h2 r hr⟩
  · rw [h1, cond_true] at h
    cases h
theorem ok_geom_Area (a0 : List Rect) (h : pre_geom_Area a0) : ∃ F, ∀ Q : Int → Int → Prop, Q ((sp_geom_Area a0).1) ((sp_geom_Area a0).2) → w_geom_Area F a0 Q := by
  refine ⟨1001, fun Q hQ => ?_⟩
  unfold w_geom_Area g_geom_Area_e n_geom_Area_0
  unfold sp_geom_Area at hQ
  refine ⟨by unfold pre_geom_rects sh; simp, ?_⟩
  cases hr : (sp_geom_rects [a0] != 0)
  · rw [hr, cond_false] at hQ
    rw [cond_false]
    obtain ⟨h48, hv⟩ := rects_ok (by simpa using hr)
    have hng : sp_geom_newGrid [a0] = (srt (xsOf a0), srt (ysOf a0)) := by unfold sp_geom_newGrid; simp
    rw [hng]
    dsimp only
    have lx := srt_len (xsOf a0)
    have ly := srt_len (ysOf a0)
    rw [xsOf_len] at lx
    rw [ysOf_len] at ly
    have hX : allX a0 (srt (xsOf a0)) := fun r hr => ⟨(srt_mem' _ _).2 ((xsOf_mem _ _).2 ⟨r, hr, .inl rfl⟩), (srt_mem' _ _).2 ((xsOf_mem _ _).2 ⟨r, hr, .inr rfl⟩)⟩
    have hY : hasY a0 (srt (ysOf a0)) := fun r hr => ⟨(srt_mem' _ _).2 ((ysOf_mem _ _).2 ⟨r, hr, .inl rfl⟩), (srt_mem' _ _).2 ((ysOf_mem _ _).2 ⟨r, hr, .inr rfl⟩)⟩
    have mx : inM (srt (xsOf a0)) := fun e he => by
      obtain ⟨r, hr, h1⟩ := (xsOf_mem _ _).1 ((srt_mem' _ _).1 he)
      have := (vR_iff r).1 (hv r hr)
      omega
    have my : inM (srt (ysOf a0)) := fun e he => by
      obtain ⟨r, hr, h1⟩ := (ysOf_mem _ _).1 ((srt_mem' _ _).1 he)
      have := (vR_iff r).1 (hv r hr)
      omega
    have hA := grid_cells a0 _ _ (srt_asc' (xsOf a0)) (srt_asc' (ysOf a0)) hX hY mx my
    rw [hA] at hQ
    refine ⟨⟨by simp, fun l hl => by rw [List.mem_singleton] at hl; subst hl; exact ⟨h48, hv⟩⟩, ⟨by unfold sh; omega, by unfold sh; omega, fun hne e => ?_, by unfold sh; omega, hv⟩, ?_⟩
    · apply hne
      cases a0 with
      | nil => rfl
      | cons r l =>
        have := (hY r (List.mem_cons_self ..)).1
        rw [e] at this
        cases this
    · cases hxs : srt (xsOf a0) with
      | nil =>
        rw [hxs] at hQ
        have hc : sp_geom_grid_covered [] (srt (ysOf a0)) a0 = [] := rfl
        rw [hc]
        show g_geom_Area_s0 _ _ _ _ _ _ _ _ _
        unfold g_geom_Area_s0
        exact hQ
      | cons x xs =>
        have hyl : 0 < (srt (ysOf a0)).length := by
          cases a0 with
          | nil => cases hxs
          | cons r l => exact List.length_pos_of_mem (hY r (List.mem_cons_self ..)).1
        have hxl : 0 < (srt (xsOf a0)).length := by rw [hxs]; simp
        have := lp_a0 1001 (by omega) (fun t6 t23 t24 c5_0 c5_1 l67 => g_geom_Area_c0_0 Q t6 t23 t24 c5_0 c5_1 l67) a0 (srt (xsOf a0)) (srt (ysOf a0)) ((srt (xsOf a0)).length - 1) ((srt (ysOf a0)).length - 1) (by omega) (by omega) (by omega) (by omega) (srt_asc' _) (srt_asc' _) mx my 1001 0 (by omega) (by omega) hQ
        have hL : ((sp_geom_grid_covered (srt (xsOf a0)) (srt (ysOf a0)) a0).length : Int) = (((srt (xsOf a0)).length - 1 : Nat) : Int) := by unfold sp_geom_grid_covered; simp
        rw [hxs] at this hL
        rw [hL]
        exact this
  · rw [hr, cond_true] at hQ
    rw [cond_true]
    exact hQ

/-! ### by strips between heights -/
def yx : List Int → List Rect → List Int
  | s, [] => s
  | s, r :: l => yx (insR (insR s r.Y) (r.Y + r.H)) l
theorem yx_mem : ∀ (l : List Rect) (s : List Int) (x : Int), x ∈ yx s l ↔ x ∈ s ∨ ∃ r ∈ l, x = r.Y ∨ x = r.Y + r.H := by
  intro l
  induction l with
  | nil => intro s x; simp [yx]
  | cons r l ih =>
    intro s x
    unfold yx
    rw [ih, mem_insR, mem_insR]
    constructor
    · rintro ((h1 | h1 | h1) | ⟨q, hq, h1⟩)
      · exact .inr ⟨r, List.mem_cons_self .., .inr h1⟩
      · exact .inr ⟨r, List.mem_cons_self .., .inl h1⟩
      · exact .inl h1
      · exact .inr ⟨q, List.mem_cons_of_mem _ hq, h1⟩
    · rintro (h1 | ⟨q, hq, h1⟩)
      · exact .inl (.inr (.inr h1))
      · rcases List.mem_cons.1 hq with rfl | hq
        · rcases h1 with h1 | h1
          · exact .inl (.inr (.inl h1))
          · exact .inl (.inl h1)
        · exact .inr ⟨q, hq, h1⟩
theorem yx_asc : ∀ (l : List Rect) (s : List Int), asc s → asc (yx s l) := by
  intro l
  induction l with
  | nil => intro s h; exact h
  | cons r l ih => intro s h; exact ih _ (asc_insR _ _ (asc_insR _ _ h))
theorem yx_len : ∀ (l : List Rect) (s : List Int), (yx s l).length ≤ s.length + 2 * l.length := by
  intro l
  induction l with
  | nil => intro s; simp [yx]
  | cons r l ih =>
    intro s
    unfold yx
    have := ih (insR (insR s r.Y) (r.Y + r.H))
    have l1 := len_insR s r.Y
    have l2 := len_insR (insR s r.Y) (r.Y + r.H)
    simp only [List.length_cons]
    omega
def pre_flat_area (l : List Rect) : Prop := okR l
def sp_flat_area (l : List Rect) : Int := A (covB l)
theorem lp_f0 (F : Nat) (x0 : List Rect → List Int → List Rect → Int → Int → Prop) (t0 : List Rect) (l : List Rect) (hl : l.length ≤ 10000) (hv : ∀ r ∈ l, vR r = true) : ∀ (n k : Nat) (s : List Int), s.length ≤ 2 * k → k ≤ l.length → l.length < k + n →
    x0 t0 (yx s (l.drop k)) l l.length l.length → w_flat_area_0 F x0 n t0 s l l.length k := by
  intro n
  induction n with
  | zero => intro k s hs h1 h2; omega
  | succ n ih =>
    intro k s hs h1 h2 e
    show g_flat_area_s0 (w_flat_area_0 F x0 n) x0 t0 s l l.length k
    unfold g_flat_area_s0
    by_cases h : k < l.length
    · rw [dec_t (by omega), cond_true, Int.toNat_natCast]
      have hm : l.getD k default ∈ l := by simp [List.getD, h]
      have hb := (vR_iff _).1 (hv _ hm)
      rw [drop_getD l k h] at e
      rw [w64_succ h (by omega)]
      revert e hb
      generalize l.getD k default = r
      intro e hb
      dsimp only
      rw [w64_of (n := r.Y + r.H) (by omega) (by omega)]
      have l1 := len_insR s r.Y
      have l2 := len_insR (insR s r.Y) (r.Y + r.H)
      unfold pre_flat_insert sp_flat_insert
      refine ⟨by omega, by omega, by omega, ?_⟩
      exact ih _ _ (by omega) (by omega) (by omega) e
    · rw [dec_f (by omega), cond_false]
      have he : k = l.length := by omega
      rw [he] at e ⊢
      rw [List.drop_length] at e
      exact e
theorem width_bd (l : List Rect) (y : Int) (hv : ∀ r ∈ l, vR r = true) : 0 ≤ sp_flat_width l y ∧ sp_flat_width l y ≤ 2097152 := by
  rw [width_A1 l y hv]
  have := A1_bd (f := fun x => b2i (covB l x y)) (B := 1) (by omega) (fun x => b2i_bd _)
  omega
theorem lp_f1 (F : Nat) (x0 : List Rect → List Int → Int → Int → Prop) (l : List Rect) (hl : okR l) (ys : List Int) (hy : ys.length ≤ 100000) (my : inM ys) (ay : asc ys) : ∀ (n i : Nat), i + 1 ≤ ys.length → ys.length < i + 1 + n →
    (∀ j : Int, x0 l ys (strip (sp_flat_width l) ys) j) → w_flat_area_1 F x0 n l ys (strip (sp_flat_width l) (ys.take (i + 1))) ((i + 1 : Nat) : Int) := by
  intro n
  induction n with
  | zero => intro i h1 h2; omega
  | succ n ih =>
    intro i h1 h2 e
    show g_flat_area_s1 (w_flat_area_1 F x0 n) x0 l ys _ ((i + 1 : Nat) : Int)
    unfold g_flat_area_s1
    by_cases h : i + 1 < ys.length
    · have hw : w64 (((i + 1 : Nat) : Int) - 1) = (i : Int) := by rw [w64_of (by omega) (by omega)]; omega
      rw [dec_t (by omega), cond_true, hw, w64_succ h (by omega), Int.toNat_natCast, Int.toNat_natCast]
      have sb := strip_bd (sp_flat_width l) 2097152 (-1048576) 1048576 (by omega) (by omega) (ys.take (i + 1)) (List.Pairwise.sublist (List.take_sublist ..) ay) (fun x _ => width_bd l x hl.2) (fun x hx' => my x (List.mem_of_mem_take hx'))
      have hsn := strip_snoc (sp_flat_width l) ys i h
      have hnx := ih (i + 1) (by omega) (by omega) e
      rw [hsn] at hnx
      have p3 := my _ (getD_memI (show i < ys.length by omega))
      have p4 := my _ (getD_memI h)
      have q2 := asc_getD ay h
      have wb := width_bd l (ys.getD i default) hl.2
      revert hnx sb p3 p4 q2 wb
      generalize strip (sp_flat_width l) (ys.take (i + 1)) = s
      generalize ys.getD (i + 1) default = y2
      generalize ys.getD i default = y1
      intro sb hnx p3 p4 q2 wb
      dsimp only
      have d2 := mulBd (a := y2 - y1) (b := sp_flat_width l y1) (P := 2097152) (Q := 2097152) (by omega) (by omega) (by omega) (by omega)
      rw [w64_of (n := y2 - y1) (by omega) (by omega), w64_of (n := (y2 - y1) * sp_flat_width l y1) (by omega) (by omega), w64_of (n := s + (y2 - y1) * sp_flat_width l y1) (by omega) (by omega)]
      exact ⟨by omega, by omega, by omega, hl, hnx⟩
    · rw [dec_f (by omega), cond_false]
      rw [List.take_of_length_le (by omega)]
      exact e _
theorem ok_flat_area (a0 : List Rect) (h : pre_flat_area a0) : ∃ F, ∀ Q : Int → Prop, Q (sp_flat_area a0) → w_flat_area F a0 Q := by
  refine ⟨100001, fun Q hQ => ?_⟩
  obtain ⟨h1, h2⟩ := h
  unfold w_flat_area g_flat_area_e n_flat_area_0
  refine lp_f0 100001 _ a0 a0 h1 h2 100001 0 [] (by simp) (by omega) (by omega) ?_
  rw [List.drop_zero]
  unfold g_flat_area_c0_0 n_flat_area_1
  unfold sp_flat_area at hQ
  have hlen := yx_len a0 []
  rw [List.length_nil] at hlen
  have my : inM (yx [] a0) := fun e he => by
    rcases (yx_mem a0 [] e).1 he with h3 | ⟨r, hr, h3⟩
    · cases h3
    · have := (vR_iff r).1 (h2 r hr)
      omega
  have ay := yx_asc a0 [] List.Pairwise.nil
  have hY : hasY a0 (yx [] a0) := fun r hr => ⟨(yx_mem _ _ _).2 (.inr ⟨r, hr, .inl rfl⟩), (yx_mem _ _ _).2 (.inr ⟨r, hr, .inr rfl⟩)⟩
  rw [strips_y a0 _ ay hY my, strip_congr (g := sp_flat_width a0) (fun y _ => (width_A1 a0 y h2).symm)] at hQ
  revert hQ hlen my ay
  generalize yx [] a0 = ys
  intro hQ hlen my ay
  cases ys with
  | nil =>
    show g_flat_area_s1 _ _ _ _ _ _
    unfold g_flat_area_s1
    exact hQ
  | cons a ys =>
    have := lp_f1 100001 (fun t0 t3 t6 t7 => g_flat_area_c1_0 Q t0 t3 t6 t7) a0 ⟨h1, h2⟩ (a :: ys) (by omega) my ay 100001 0 (by simp) (by omega) (fun j => hQ)
    exact this
end
end Go.Proofs.Ytohecfbnmmgimaa

namespace Go.Proofs.Ytohecfbnmmgimaa
open Go.Vm Go.RowKit
set_option linter.unusedVariables false
noncomputable section
/-! ### sheetmetal/flat.alone -/
def M_flat_alone : Nat → Nat → Canon UU := fun b r => cond (Nat.beq b 0) ⟨[2, 3, 7, 8, 17, 18, 19], [3], [(.tmp 7, 58, .rect), (.tmp 8, 59, .rect)], []⟩ (cond (Nat.beq b 2) ⟨[2, 3, 7, 8, 11, 17, 18, 19, 34, 35, 36], [3, 11], [(.tmp 7, 58, .rect), (.tmp 8, 59, .rect)], []⟩ (⟨[], [], [], []⟩))
def st_flat_alone_0 (t2 : List Rect) (t17 : List Rect) (t18 : Int) (t19 : Int) (c3_0 : Int) (c3_1 : Int) (c3_2 : Int) (c3_3 : Int) (l58 : List Rect) (l59 : List Rect) : ASt UU := ⟨fun u => cond (Nat.beq u 2) (.sl .rect t2) (cond (Nat.beq u 3) (.ptr 3 0) (cond (Nat.beq u 7) (.osl 58 0) (cond (Nat.beq u 8) (.osl 59 0) (cond (Nat.beq u 17) (.sl .rect t17) (cond (Nat.beq u 18) (.int .i64 t18) (cond (Nat.beq u 19) (.int .i64 t19) (.any))))))), fun u => cond (Nat.beq u 58) (some (.row .rect 0 l58)) (cond (Nat.beq u 59) (some (.row .rect 0 l59)) (cond (Nat.beq u 3) (some (.cells [.int .i64 c3_0, .int .i64 c3_1, .int .i64 c3_2, .int .i64 c3_3])) (none)))⟩
def st_flat_alone_1 (t2 : List Rect) (t17 : List Rect) (t18 : Int) (t19 : Int) (t34 : List Rect) (t35 : Int) (t36 : Int) (c3_0 : Int) (c3_1 : Int) (c3_2 : Int) (c3_3 : Int) (c11_0 : Int) (c11_1 : Int) (c11_2 : Int) (c11_3 : Int) (l58 : List Rect) (l59 : List Rect) : ASt UU := ⟨fun u => cond (Nat.beq u 2) (.sl .rect t2) (cond (Nat.beq u 3) (.ptr 3 0) (cond (Nat.beq u 7) (.osl 58 0) (cond (Nat.beq u 8) (.osl 59 0) (cond (Nat.beq u 11) (.ptr 11 0) (cond (Nat.beq u 17) (.sl .rect t17) (cond (Nat.beq u 18) (.int .i64 t18) (cond (Nat.beq u 19) (.int .i64 t19) (cond (Nat.beq u 34) (.sl .rect t34) (cond (Nat.beq u 35) (.int .i64 t35) (cond (Nat.beq u 36) (.int .i64 t36) (.any))))))))))), fun u => cond (Nat.beq u 58) (some (.row .rect 0 l58)) (cond (Nat.beq u 59) (some (.row .rect 0 l59)) (cond (Nat.beq u 3) (some (.cells [.int .i64 c3_0, .int .i64 c3_1, .int .i64 c3_2, .int .i64 c3_3])) (cond (Nat.beq u 11) (some (.cells [.int .i64 c11_0, .int .i64 c11_1, .int .i64 c11_2, .int .i64 c11_3])) (none))))⟩
def g_flat_alone_e (a0_X : Int) (a0_Y : Int) (a0_W : Int) (a0_H : Int) (a1 : List Rect) (a2 : List Rect) (Q : Int → Prop) (i0 : List Rect → List Rect → Int → Int → Int → Int → Int → Int → List Rect → List Rect → Prop) : Prop := i0 a2 a1 (a1.length : Int) 0 a0_X a0_Y a0_W a0_H ([]) ([])
def g_flat_alone_s0 (rec : List Rect → List Rect → Int → Int → Int → Int → Int → Int → List Rect → List Rect → Prop) (x0 : List Rect → List Rect → Int → Int → Int → Int → Int → Int → List Rect → List Rect → Prop) (t2 : List Rect) (t17 : List Rect) (t18 : Int) (t19 : Int) (c3_0 : Int) (c3_1 : Int) (c3_2 : Int) (c3_3 : Int) (l58 : List Rect) (l59 : List Rect) (i1 : List Rect → List Rect → Int → Int → List Rect → Int → Int → Int → Int → Int → Int → Int → Int → Int → Int → List Rect → List Rect → Prop) : Prop := cond (decide (t19 < t18)) ((let e0 := (t17.getD t19.toNat default); ((0 ≤ t19 ∧ t19 < t17.length) ∧ (let r1 := (sp_flat_meet c3_0 c3_1 c3_2 c3_3 e0.X e0.Y e0.W e0.H); cond r1.2.2.2.2 ((((l58.length + ([(Rect.mk r1.1 r1.2.1 r1.2.2.1 r1.2.2.2.1)]).length) * 32 ≤ 140737488355328) ∧ i1 t2 t17 t18 t19 t2 (t2.length : Int) 0 c3_0 c3_1 c3_2 c3_3 r1.1 r1.2.1 r1.2.2.1 r1.2.2.2.1 (l58 ++ ([(Rect.mk r1.1 r1.2.1 r1.2.2.1 r1.2.2.2.1)])) l59)) (rec t2 t17 t18 (w64 (t19 + 1)) c3_0 c3_1 c3_2 c3_3 l58 l59))))) (x0 t2 t17 t18 t19 c3_0 c3_1 c3_2 c3_3 l58 l59)
def g_flat_alone_c0_0 (Q : Int → Prop) (t2 : List Rect) (t17 : List Rect) (t18 : Int) (t19 : Int) (c3_0 : Int) (c3_1 : Int) (c3_2 : Int) (c3_3 : Int) (l58 : List Rect) (l59 : List Rect) : Prop := (let v0 := w64 ((sp_flat_area l58) - (sp_flat_area l59)); (((pre_flat_area l58) ∧ (pre_flat_area l59)) ∧ Q v0))
def g_flat_alone_s1 (rec : List Rect → List Rect → Int → Int → List Rect → Int → Int → Int → Int → Int → Int → Int → Int → Int → Int → List Rect → List Rect → Prop) (x0 : List Rect → List Rect → Int → Int → List Rect → Int → Int → Int → Int → Int → Int → Int → Int → Int → Int → List Rect → List Rect → Prop) (t2 : List Rect) (t17 : List Rect) (t18 : Int) (t19 : Int) (t34 : List Rect) (t35 : Int) (t36 : Int) (c3_0 : Int) (c3_1 : Int) (c3_2 : Int) (c3_3 : Int) (c11_0 : Int) (c11_1 : Int) (c11_2 : Int) (c11_3 : Int) (l58 : List Rect) (l59 : List Rect) : Prop := cond (decide (t36 < t35)) ((let e0 := (t34.getD t36.toNat default); ((0 ≤ t36 ∧ t36 < t34.length) ∧ (let r1 := (sp_flat_meet c11_0 c11_1 c11_2 c11_3 e0.X e0.Y e0.W e0.H); cond r1.2.2.2.2 ((((l59.length + ([(Rect.mk r1.1 r1.2.1 r1.2.2.1 r1.2.2.2.1)]).length) * 32 ≤ 140737488355328) ∧ rec t2 t17 t18 t19 t34 t35 (w64 (t36 + 1)) c3_0 c3_1 c3_2 c3_3 c11_0 c11_1 c11_2 c11_3 l58 (l59 ++ ([(Rect.mk r1.1 r1.2.1 r1.2.2.1 r1.2.2.2.1)])))) (rec t2 t17 t18 t19 t34 t35 (w64 (t36 + 1)) c3_0 c3_1 c3_2 c3_3 c11_0 c11_1 c11_2 c11_3 l58 l59))))) (x0 t2 t17 t18 t19 t34 t35 t36 c3_0 c3_1 c3_2 c3_3 c11_0 c11_1 c11_2 c11_3 l58 l59)
def g_flat_alone_c1_0 (rec : List Rect → List Rect → Int → Int → Int → Int → Int → Int → List Rect → List Rect → Prop) (x0 : List Rect → List Rect → Int → Int → Int → Int → Int → Int → List Rect → List Rect → Prop) (t2 : List Rect) (t17 : List Rect) (t18 : Int) (t19 : Int) (t34 : List Rect) (t35 : Int) (t36 : Int) (c3_0 : Int) (c3_1 : Int) (c3_2 : Int) (c3_3 : Int) (c11_0 : Int) (c11_1 : Int) (c11_2 : Int) (c11_3 : Int) (l58 : List Rect) (l59 : List Rect) : Prop := rec t2 t17 t18 (w64 (t19 + 1)) c3_0 c3_1 c3_2 c3_3 l58 l59
def w_flat_alone_1 (F : Nat) (x0 : List Rect → List Rect → Int → Int → List Rect → Int → Int → Int → Int → Int → Int → Int → Int → Int → Int → List Rect → List Rect → Prop) : Nat → List Rect → List Rect → Int → Int → List Rect → Int → Int → Int → Int → Int → Int → Int → Int → Int → Int → List Rect → List Rect → Prop
  | 0, _, _, _, _, _, _, _, _, _, _, _, _, _, _, _, _, _ => False
  | n + 1, t2, t17, t18, t19, t34, t35, t36, c3_0, c3_1, c3_2, c3_3, c11_0, c11_1, c11_2, c11_3, l58, l59 => g_flat_alone_s1 (w_flat_alone_1 F x0 n) x0 t2 t17 t18 t19 t34 t35 t36 c3_0 c3_1 c3_2 c3_3 c11_0 c11_1 c11_2 c11_3 l58 l59
def n_flat_alone_1 (F : Nat) (rec : List Rect → List Rect → Int → Int → Int → Int → Int → Int → List Rect → List Rect → Prop) (x0 : List Rect → List Rect → Int → Int → Int → Int → Int → Int → List Rect → List Rect → Prop) (t2 : List Rect) (t17 : List Rect) (t18 : Int) (t19 : Int) (t34 : List Rect) (t35 : Int) (t36 : Int) (c3_0 : Int) (c3_1 : Int) (c3_2 : Int) (c3_3 : Int) (c11_0 : Int) (c11_1 : Int) (c11_2 : Int) (c11_3 : Int) (l58 : List Rect) (l59 : List Rect) : Prop := w_flat_alone_1 F (fun t2 t17 t18 t19 t34 t35 t36 c3_0 c3_1 c3_2 c3_3 c11_0 c11_1 c11_2 c11_3 l58 l59 => g_flat_alone_c1_0 rec x0 t2 t17 t18 t19 t34 t35 t36 c3_0 c3_1 c3_2 c3_3 c11_0 c11_1 c11_2 c11_3 l58 l59) F t2 t17 t18 t19 t34 t35 t36 c3_0 c3_1 c3_2 c3_3 c11_0 c11_1 c11_2 c11_3 l58 l59
def w_flat_alone_0 (F : Nat) (x0 : List Rect → List Rect → Int → Int → Int → Int → Int → Int → List Rect → List Rect → Prop) : Nat → List Rect → List Rect → Int → Int → Int → Int → Int → Int → List Rect → List Rect → Prop
  | 0, _, _, _, _, _, _, _, _, _, _ => False
  | n + 1, t2, t17, t18, t19, c3_0, c3_1, c3_2, c3_3, l58, l59 => g_flat_alone_s0 (w_flat_alone_0 F x0 n) x0 t2 t17 t18 t19 c3_0 c3_1 c3_2 c3_3 l58 l59 (n_flat_alone_1 F (w_flat_alone_0 F x0 n) x0)
def n_flat_alone_0 (F : Nat) (Q : Int → Prop) (t2 : List Rect) (t17 : List Rect) (t18 : Int) (t19 : Int) (c3_0 : Int) (c3_1 : Int) (c3_2 : Int) (c3_3 : Int) (l58 : List Rect) (l59 : List Rect) : Prop := w_flat_alone_0 F (fun t2 t17 t18 t19 c3_0 c3_1 c3_2 c3_3 l58 l59 => g_flat_alone_c0_0 Q t2 t17 t18 t19 c3_0 c3_1 c3_2 c3_3 l58 l59) F t2 t17 t18 t19 c3_0 c3_1 c3_2 c3_3 l58 l59
def w_flat_alone (F : Nat) (a0_X : Int) (a0_Y : Int) (a0_W : Int) (a0_H : Int) (a1 : List Rect) (a2 : List Rect) (Q : Int → Prop) : Prop := g_flat_alone_e a0_X a0_Y a0_W a0_H a1 a2 Q (n_flat_alone_0 F Q)
end
end Go.Proofs.Ytohecfbnmmgimaa

namespace Go.Proofs.Ytohecfbnmmgimaa
open Go.Vm Go.RowKit
set_option linter.unusedVariables false
noncomputable section

def mtR (a b : Rect) : Rect := ⟨max a.X b.X, max a.Y b.Y, min (a.X + a.W) (b.X + b.W) - max a.X b.X, min (a.Y + a.H) (b.Y + b.H) - max a.Y b.Y⟩
def mOK (a b : Rect) : Bool := decide (0 < (mtR a b).W) && decide (0 < (mtR a b).H)
def mt (a b : Rect) : Option Rect := cond (mOK a b) (some (mtR a b)) none
theorem meet_eq {a b : Rect} (ha : vR a = true) (hb : vR b = true) : sp_flat_meet a.X a.Y a.W a.H b.X b.Y b.W b.H = ((mtR a b).X, (mtR a b).Y, (mtR a b).W, (mtR a b).H, mOK a b) := by
  have h1 := (vR_iff a).1 ha
  have h2 := (vR_iff b).1 hb
  unfold sp_flat_meet mOK mtR
  simp only [mi_min, ma_max]
  rw [w64_of (n := a.X + a.W) (by omega) (by omega), w64_of (n := b.X + b.W) (by omega) (by omega), w64_of (n := a.Y + a.H) (by omega) (by omega), w64_of (n := b.Y + b.H) (by omega) (by omega)]
  rw [w64_of (n := min (a.X + a.W) (b.X + b.W) - max a.X b.X) (by omega) (by omega), w64_of (n := min (a.Y + a.H) (b.Y + b.H) - max a.Y b.Y) (by omega) (by omega)]
  cases decide (0 < min (a.X + a.W) (b.X + b.W) - max a.X b.X) <;> rfl
theorem mtR_vR {a b : Rect} (ha : vR a = true) (hb : vR b = true) (h : mOK a b = true) : vR (mtR a b) = true := by
  have h1 := (vR_iff a).1 ha
  have h2 := (vR_iff b).1 hb
  unfold mOK at h
  rw [Bool.and_eq_true, decide_eq_true_eq, decide_eq_true_eq] at h
  rw [vR_iff]
  unfold mtR at *
  dsimp only at *
  omega
theorem mt_vR {a b m : Rect} (ha : vR a = true) (hb : vR b = true) (h : mt a b = some m) : vR m = true := by
  unfold mt at h
  cases hc : mOK a b
  · rw [hc] at h
    cases h
  · rw [hc] at h
    cases h
    exact mtR_vR ha hb hc
theorem inB_mtR (a b : Rect) (x y : Int) : inB (mtR a b) x y = (inB a x y && inB b x y) := by
  rw [Bool.eq_iff_iff, Bool.and_eq_true, inB_iff, inB_iff, inB_iff]
  unfold mtR
  dsimp only
  omega
theorem inB_none {a b : Rect} (h : mOK a b = false) (x y : Int) : (inB a x y && inB b x y) = false := by
  rw [← inB_mtR, ← Bool.not_eq_true, inB_iff]
  intro hi
  have : mOK a b = true := by
    unfold mOK
    rw [Bool.and_eq_true, decide_eq_true_eq, decide_eq_true_eq]
    omega
  rw [h] at this
  cases this
theorem cov_mt (c : Rect) (l : List Rect) (x y : Int) : covB (l.filterMap (mt c)) x y = (inB c x y && covB l x y) := by
  induction l with
  | nil => simp [covB]
  | cons r l ih =>
    have e : covB (r :: l) x y = (inB r x y || covB l x y) := rfl
    rw [e]
    cases hm : mOK c r
    · have : mt c r = none := by unfold mt; rw [hm]; rfl
      rw [List.filterMap_cons_none this, ih]
      have := inB_none hm x y
      revert this
      cases inB c x y <;> cases inB r x y <;> simp
    · have : mt c r = some (mtR c r) := by unfold mt; rw [hm]; rfl
      rw [List.filterMap_cons_some this]
      have e2 : covB (mtR c r :: l.filterMap (mt c)) x y = (inB (mtR c r) x y || covB (l.filterMap (mt c)) x y) := rfl
      rw [e2, ih, inB_mtR]
      cases inB c x y <;> simp
/-- The parts of a rectangle in some others, and in more beside. -/
def both (c : Rect) (l before : List Rect) : List Rect := (l.filterMap (mt c)).flatMap fun m => before.filterMap (mt m)
theorem cov_both (c : Rect) (l before : List Rect) (x y : Int) : covB (both c l before) x y = ((inB c x y && covB l x y) && covB before x y) := by
  rw [← cov_mt]
  unfold both
  induction l.filterMap (mt c) with
  | nil => simp [covB]
  | cons m l ih =>
    have e : covB (m :: l) x y = (inB m x y || covB l x y) := rfl
    rw [List.flatMap_cons, e]
    have e2 : ∀ p q, covB (p ++ q) x y = (covB p x y || covB q x y) := fun p q => by unfold covB; rw [List.any_append]
    rw [e2, ih, cov_mt]
    cases inB m x y <;> cases covB l x y <;> cases covB before x y <;> rfl
def pre_flat_alone (X Y W H : Int) (l before : List Rect) : Prop := vR ⟨X, Y, W, H⟩ = true ∧ (l.length ≤ 48 ∧ ∀ r ∈ l, vR r = true) ∧ before.length ≤ 48 ∧ ∀ r ∈ before, vR r = true
def sp_flat_alone (X Y W H : Int) (l before : List Rect) : Int := A fun x y => (inB ⟨X, Y, W, H⟩ x y && covB l x y) && !covB before x y
theorem alone_eq (c : Rect) (l before : List Rect) : A (fun x y => (inB c x y && covB l x y) && !covB before x y) = A (covB (l.filterMap (mt c))) - A (covB (both c l before)) := by
  have h := A_split (fun x y => inB c x y && covB l x y) (covB before)
  have h1 : A (covB (l.filterMap (mt c))) = A (fun x y => inB c x y && covB l x y) := A_congr fun x y => cov_mt c l x y
  have h2 : A (covB (both c l before)) = A (fun x y => (inB c x y && covB l x y) && covB before x y) := A_congr fun x y => cov_both c l before x y
  rw [h1, h2]
  omega
theorem fm_len (m : Rect) (l : List Rect) : (l.filterMap (mt m)).length ≤ l.length := List.length_filterMap_le ..
theorem lp_al1 (F : Nat) (x0 : List Rect → List Rect → Int → Int → List Rect → Int → Int → Int → Int → Int → Int → Int → Int → Int → Int → List Rect → List Rect → Prop) (t2 t17 : List Rect) (t18 t19 : Int) (c m : Rect) (p : List Rect) (l : List Rect) (hl : l.length ≤ 48) (hv : ∀ r ∈ l, vR r = true) (hm : vR m = true) : ∀ (n k : Nat) (q : List Rect), q.length ≤ 10000 + k → k ≤ l.length → l.length < k + n →
    x0 t2 t17 t18 t19 l l.length l.length c.X c.Y c.W c.H m.X m.Y m.W m.H p (q ++ (l.drop k).filterMap (mt m)) → w_flat_alone_1 F x0 n t2 t17 t18 t19 l l.length k c.X c.Y c.W c.H m.X m.Y m.W m.H p q := by
  intro n
  induction n with
  | zero => intro k q hq h1 h2; omega
  | succ n ih =>
    intro k q hq h1 h2 e
    show g_flat_alone_s1 (w_flat_alone_1 F x0 n) x0 t2 t17 t18 t19 l l.length k c.X c.Y c.W c.H m.X m.Y m.W m.H p q
    unfold g_flat_alone_s1
    by_cases h : k < l.length
    · rw [dec_t (by omega), cond_true, Int.toNat_natCast]
      have hmem : l.getD k default ∈ l := by simp [List.getD, h]
      have hb := hv _ hmem
      rw [drop_getD l k h] at e
      rw [w64_succ h (by omega)]
      revert e hb
      generalize l.getD k default = r
      intro e hb
      dsimp only
      rw [meet_eq hm hb]
      dsimp only
      refine ⟨by omega, ?_⟩
      cases hc : mOK m r
      · rw [cond_false]
        have : mt m r = none := by unfold mt; rw [hc]; rfl
        rw [List.filterMap_cons_none this] at e
        exact ih _ _ (by omega) (by omega) (by omega) e
      · rw [cond_true]
        have : mt m r = some (mtR m r) := by unfold mt; rw [hc]; rfl
        rw [List.filterMap_cons_some this] at e
        refine ⟨by simp only [List.length_singleton]; omega, ?_⟩
        refine ih _ _ (by simp only [List.length_append, List.length_singleton]; omega) (by omega) (by omega) ?_
        rw [List.append_assoc]
        exact e
    · rw [dec_f (by omega), cond_false]
      have he : k = l.length := by omega
      rw [he] at e ⊢
      rw [List.drop_length] at e
      simpa using e
theorem lp_al0 (F : Nat) (hF : 1000 < F) (x0 : List Rect → List Rect → Int → Int → Int → Int → Int → Int → List Rect → List Rect → Prop) (before : List Rect) (c : Rect) (l : List Rect) (hc : vR c = true) (hl : l.length ≤ 48) (hv : ∀ r ∈ l, vR r = true) (hl' : before.length ≤ 48) (hv' : ∀ r ∈ before, vR r = true) : ∀ (n i : Nat) (p q : List Rect), p.length ≤ i → q.length ≤ 48 * i → i ≤ l.length → l.length < i + n →
    x0 before l l.length l.length c.X c.Y c.W c.H (p ++ (l.drop i).filterMap (mt c)) (q ++ both c (l.drop i) before) → w_flat_alone_0 F x0 n before l l.length i c.X c.Y c.W c.H p q := by
  intro n
  induction n with
  | zero => intro i p q hp hq h1 h2; omega
  | succ n ih =>
    intro i p q hp hq h1 h2 e
    show g_flat_alone_s0 (w_flat_alone_0 F x0 n) x0 before l l.length i c.X c.Y c.W c.H p q (n_flat_alone_1 F (w_flat_alone_0 F x0 n) x0)
    unfold g_flat_alone_s0
    by_cases h : i < l.length
    · rw [dec_t (by omega), cond_true, Int.toNat_natCast]
      have hmem : l.getD i default ∈ l := by simp [List.getD, h]
      have hb := hv _ hmem
      rw [drop_getD l i h] at e
      rw [w64_succ h (by omega)]
      revert e hb
      generalize l.getD i default = r
      intro e hb
      dsimp only
      rw [meet_eq hc hb]
      dsimp only
      refine ⟨by omega, ?_⟩
      cases hk : mOK c r
      · rw [cond_false]
        have : mt c r = none := by unfold mt; rw [hk]; rfl
        have e2 : both c (r :: l.drop (i + 1)) before = both c (l.drop (i + 1)) before := by unfold both; rw [List.filterMap_cons_none this]
        rw [List.filterMap_cons_none this, e2] at e
        exact ih _ _ _ (by omega) (by omega) (by omega) (by omega) e
      · rw [cond_true]
        have : mt c r = some (mtR c r) := by unfold mt; rw [hk]; rfl
        have e2 : both c (r :: l.drop (i + 1)) before = before.filterMap (mt (mtR c r)) ++ both c (l.drop (i + 1)) before := by unfold both; rw [List.filterMap_cons_some this, List.flatMap_cons]
        rw [List.filterMap_cons_some this, e2] at e
        refine ⟨by simp only [List.length_singleton]; omega, ?_⟩
        refine lp_al1 F _ before l _ _ c (mtR c r) _ before hl' hv' (mtR_vR hc hb hk) F 0 q (by omega) (by omega) (by omega) ?_
        rw [List.drop_zero]
        show w_flat_alone_0 F x0 n before l _ (w64 _) _ _ _ _ _ _
        rw [w64_succ h (by omega)]
        have := fm_len (mtR c r) before
        refine ih _ _ _ (by simp only [List.length_append, List.length_singleton]; omega) (by simp only [List.length_append]; omega) (by omega) (by omega) ?_
        rw [List.append_assoc, List.append_assoc]
        exact e
    · rw [dec_f (by omega), cond_false]
      have he : i = l.length := by omega
      rw [he] at e ⊢
      rw [List.drop_length] at e
      simpa [both] using e
theorem fm_vR {c : Rect} {l : List Rect} (hc : vR c = true) (hv : ∀ r ∈ l, vR r = true) : ∀ r ∈ l.filterMap (mt c), vR r = true := fun m hm => by
  obtain ⟨r, hr, h⟩ := List.mem_filterMap.1 hm
  exact mt_vR hc (hv r hr) h
theorem both_len (c : Rect) (l before : List Rect) : (both c l before).length ≤ l.length * before.length := by
  have h1 := fm_len c l
  refine Nat.le_trans ?_ (Nat.mul_le_mul_right _ h1)
  unfold both
  induction l.filterMap (mt c) with
  | nil => simp
  | cons m l ih =>
    have := fm_len m before
    rw [List.flatMap_cons, List.length_append, List.length_cons, Nat.add_mul, Nat.one_mul]
    omega
theorem ok_flat_alone (a0_X : Int) (a0_Y : Int) (a0_W : Int) (a0_H : Int) (a1 : List Rect) (a2 : List Rect) (h : pre_flat_alone a0_X a0_Y a0_W a0_H a1 a2) : ∃ F, ∀ Q : Int → Prop, Q (sp_flat_alone a0_X a0_Y a0_W a0_H a1 a2) → w_flat_alone F a0_X a0_Y a0_W a0_H a1 a2 Q := by
  refine ⟨1001, fun Q hQ => ?_⟩
  obtain ⟨hc, ⟨hl, hv⟩, hl', hv'⟩ := h
  unfold w_flat_alone g_flat_alone_e n_flat_alone_0
  unfold sp_flat_alone at hQ
  rw [alone_eq] at hQ
  refine lp_al0 1001 (by omega) _ a2 ⟨a0_X, a0_Y, a0_W, a0_H⟩ a1 hc hl hv hl' hv' 1001 0 [] [] (by simp) (by simp) (by omega) (by omega) ?_
  rw [List.drop_zero, List.nil_append, List.nil_append]
  unfold g_flat_alone_c0_0
  have b1 := A_bd (covB (a1.filterMap (mt ⟨a0_X, a0_Y, a0_W, a0_H⟩)))
  have b2 := A_bd (covB (both ⟨a0_X, a0_Y, a0_W, a0_H⟩ a1 a2))
  dsimp only
  unfold sp_flat_area
  rw [w64_of (by omega) (by omega)]
  have l1 := fm_len ⟨a0_X, a0_Y, a0_W, a0_H⟩ a1
  have l2 := both_len ⟨a0_X, a0_Y, a0_W, a0_H⟩ a1 a2
  have l3 : a1.length * a2.length ≤ 48 * 48 := Nat.mul_le_mul hl hl'
  refine ⟨⟨⟨by omega, fm_vR hc hv⟩, ⟨by omega, fun m hm => ?_⟩⟩, hQ⟩
  obtain ⟨r, hr, hm'⟩ := List.mem_flatMap.1 hm
  exact fm_vR (fm_vR hc hv r hr) hv' m hm'
end
end Go.Proofs.Ytohecfbnmmgimaa

namespace Go.Proofs.Ytohecfbnmmgimaa
open Go.Vm Go.RowKit
set_option linter.unusedVariables false
noncomputable section
/-! ### sheetmetal/flat.Surface -/
def M_flat_Surface : Nat → Nat → Canon UU := fun b r => cond (Nat.beq b 0) ⟨[1, 5, 7, 25, 26, 27], [1], [], []⟩ (⟨[], [], [], []⟩)
def st_flat_Surface_0 (t5 : Int) (t7 : Int) (t25 : List Rect) (t26 : Int) (t27 : Int) (c1_0 : List Rect) (c1_1 : List Rect) (c1_2 : List Rect) (c1_3 : List Bend) : ASt UU := ⟨fun u => cond (Nat.beq u 1) (.ptr 1 0) (cond (Nat.beq u 5) (.int .i64 t5) (cond (Nat.beq u 7) (.int .i64 t7) (cond (Nat.beq u 25) (.sl .rect t25) (cond (Nat.beq u 26) (.int .i64 t26) (cond (Nat.beq u 27) (.int .i64 t27) (.any)))))), fun u => cond (Nat.beq u 1) (some (.cells [.sl .rect c1_0, .sl .rect c1_1, .sl .rect c1_2, .sl .bend c1_3])) (none)⟩
def g_flat_Surface_e (a0_Rects : List Rect) (a0_Cuts : List Rect) (a0_Forms : List Rect) (a0_Bends : List Bend) (Q : Int → Int → Prop) (i0 : Int → Int → List Rect → Int → Int → List Rect → List Rect → List Rect → List Bend → Prop) : Prop := (let r0 := (sp_flat_check a0_Rects a0_Cuts a0_Forms a0_Bends); ((pre_flat_check a0_Rects a0_Cuts a0_Forms a0_Bends) ∧ cond (r0 != 0) (Q 0 r0) ((let r1 := (sp_geom_Area a0_Rects); ((pre_geom_Area a0_Rects) ∧ cond (r1.2 != 0) (Q 0 r1.2) (i0 r1.1 0 a0_Cuts (a0_Cuts.length : Int) 0 a0_Rects a0_Cuts a0_Forms a0_Bends))))))
def g_flat_Surface_s0 (rec : Int → Int → List Rect → Int → Int → List Rect → List Rect → List Rect → List Bend → Prop) (x0 : Int → Int → List Rect → Int → Int → List Rect → List Rect → List Rect → List Bend → Prop) (t5 : Int) (t7 : Int) (t25 : List Rect) (t26 : Int) (t27 : Int) (c1_0 : List Rect) (c1_1 : List Rect) (c1_2 : List Rect) (c1_3 : List Bend) : Prop := cond (decide (t27 < t26)) ((let e0 := (t25.getD t27.toNat default); ((0 ≤ t27 ∧ t27 < t25.length) ∧ ((0 ≤ t27 ∧ t27 ≤ c1_1.length) ∧ (let r1 := (sp_flat_alone e0.X e0.Y e0.W e0.H c1_0 (c1_1.take t27.toNat)); ((pre_flat_alone e0.X e0.Y e0.W e0.H c1_0 (c1_1.take t27.toNat)) ∧ rec t5 (w64 (t7 + r1)) t25 t26 (w64 (t27 + 1)) c1_0 c1_1 c1_2 c1_3)))))) (x0 t5 t7 t25 t26 t27 c1_0 c1_1 c1_2 c1_3)
def g_flat_Surface_c0_0 (Q : Int → Int → Prop) (t5 : Int) (t7 : Int) (t25 : List Rect) (t26 : Int) (t27 : Int) (c1_0 : List Rect) (c1_1 : List Rect) (c1_2 : List Rect) (c1_3 : List Bend) : Prop := Q (w64 (t5 - t7)) 0
def w_flat_Surface_0 (F : Nat) (x0 : Int → Int → List Rect → Int → Int → List Rect → List Rect → List Rect → List Bend → Prop) : Nat → Int → Int → List Rect → Int → Int → List Rect → List Rect → List Rect → List Bend → Prop
  | 0, _, _, _, _, _, _, _, _, _ => False
  | n + 1, t5, t7, t25, t26, t27, c1_0, c1_1, c1_2, c1_3 => g_flat_Surface_s0 (w_flat_Surface_0 F x0 n) x0 t5 t7 t25 t26 t27 c1_0 c1_1 c1_2 c1_3
def n_flat_Surface_0 (F : Nat) (Q : Int → Int → Prop) (t5 : Int) (t7 : Int) (t25 : List Rect) (t26 : Int) (t27 : Int) (c1_0 : List Rect) (c1_1 : List Rect) (c1_2 : List Rect) (c1_3 : List Bend) : Prop := w_flat_Surface_0 F (fun t5 t7 t25 t26 t27 c1_0 c1_1 c1_2 c1_3 => g_flat_Surface_c0_0 Q t5 t7 t25 t26 t27 c1_0 c1_1 c1_2 c1_3) F t5 t7 t25 t26 t27 c1_0 c1_1 c1_2 c1_3
def w_flat_Surface (F : Nat) (a0_Rects : List Rect) (a0_Cuts : List Rect) (a0_Forms : List Rect) (a0_Bends : List Bend) (Q : Int → Int → Prop) : Prop := g_flat_Surface_e a0_Rects a0_Cuts a0_Forms a0_Bends Q (n_flat_Surface_0 F Q)
end
end Go.Proofs.Ytohecfbnmmgimaa

namespace Go.Proofs.Ytohecfbnmmgimaa
open Go.Vm Go.RowKit
set_option linter.unusedVariables false
noncomputable section

/-- The faces without the holes that are cut. -/
def surf (R C : List Rect) : Int := A fun x y => covB R x y && !covB C x y
def pre_flat_Surface (R C M : List Rect) (B : List Bend) : Prop := sh B
def sp_flat_Surface (R C M : List Rect) (B : List Bend) : Int × Int := cond (wholeB R C M B) (surf R C, 0) (0, 1)
theorem whole_lists {R C M : List Rect} {B : List Bend} (h : wholeB R C M B = true) : R ≠ [] ∧ (R.length ≤ 48 ∧ ∀ r ∈ R, vR r = true) ∧ (C.length ≤ 48 ∧ ∀ r ∈ C, vR r = true) ∧ (M.length ≤ 48 ∧ ∀ r ∈ M, vR r = true) ∧ ∀ b ∈ B, lineOK b = true := by
  unfold wholeB okL at h
  simp only [Bool.and_eq_true, decide_eq_true_eq, List.all_eq_true] at h
  obtain ⟨⟨h0, h1, h2, h3⟩, h4⟩ := h
  exact ⟨fun e => h0 (by rw [e]; rfl), h1, h2, h3, h4⟩
theorem lost_step (p : Int → Int → Bool) (C : List Rect) (k : Nat) (h : k < C.length) :
    A (fun x y => p x y && covB (C.take (k + 1)) x y) = A (fun x y => p x y && covB (C.take k) x y) + A (fun x y => (inB (C.getD k default) x y && p x y) && !covB (C.take k) x y) := by
  have e : ∀ x y, covB (C.take (k + 1)) x y = (covB (C.take k) x y || inB (C.getD k default) x y) := fun x y => by
    have : C.take (k + 1) = C.take k ++ [C.getD k default] := by
      rw [List.take_succ_eq_append_getElem h]
      simp [h]
    rw [this]
    unfold covB
    rw [List.any_append]
    simp
  rw [A_split (fun x y => p x y && covB (C.take (k + 1)) x y) (covB (C.take k))]
  have e1 : A (fun x y => (p x y && covB (C.take (k + 1)) x y) && covB (C.take k) x y) = A (fun x y => p x y && covB (C.take k) x y) := A_congr fun x y => by
    rw [e]
    cases p x y <;> cases covB (C.take k) x y <;> simp
  have e2 : A (fun x y => (p x y && covB (C.take (k + 1)) x y) && !covB (C.take k) x y) = A (fun x y => (inB (C.getD k default) x y && p x y) && !covB (C.take k) x y) := A_congr fun x y => by
    rw [e]
    cases p x y <;> cases covB (C.take k) x y <;> cases inB (C.getD k default) x y <;> rfl
  rw [e1, e2]
theorem lp_sf (F : Nat) (x0 : Int → Int → List Rect → Int → Int → List Rect → List Rect → List Rect → List Bend → Prop) (s : Int) (R C M : List Rect) (B : List Bend) (hR : R.length ≤ 48 ∧ ∀ r ∈ R, vR r = true) (hC : C.length ≤ 48 ∧ ∀ r ∈ C, vR r = true) : ∀ (n k : Nat), k ≤ C.length → C.length < k + n →
    x0 s (A (fun x y => covB R x y && covB C x y)) C C.length C.length R C M B → w_flat_Surface_0 F x0 n s (A (fun x y => covB R x y && covB (C.take k) x y)) C C.length k R C M B := by
  intro n
  induction n with
  | zero => intro k h1 h2; omega
  | succ n ih =>
    intro k h1 h2 e
    show g_flat_Surface_s0 (w_flat_Surface_0 F x0 n) x0 s _ C C.length k R C M B
    unfold g_flat_Surface_s0
    have h48 := hC.1
    by_cases h : k < C.length
    · rw [dec_t (by omega), cond_true, Int.toNat_natCast]
      have hmem : C.getD k default ∈ C := by simp [List.getD, h]
      have hc := hC.2 _ hmem
      have hs := lost_step (covB R) C k h
      have hnx := ih (k + 1) (by omega) (by omega) e
      rw [hs] at hnx
      rw [w64_succ h (by omega)]
      have b1 := A_bd (fun x y => covB R x y && covB (C.take k) x y)
      have b2 := A_bd (fun x y => (inB (C.getD k default) x y && covB R x y) && !covB (C.take k) x y)
      dsimp only
      refine ⟨by omega, by omega, ⟨hc, hR, by simp; omega, fun r hr => hC.2 r (List.mem_of_mem_take hr)⟩, ?_⟩
      unfold sp_flat_alone
      have ec : (⟨(C.getD k default).X, (C.getD k default).Y, (C.getD k default).W, (C.getD k default).H⟩ : Rect) = C.getD k default := rfl
      rw [ec, w64_of (by omega) (by omega)]
      exact hnx
    · rw [dec_f (by omega), cond_false]
      have he : k = C.length := by omega
      subst he
      rw [List.take_length]
      exact e
theorem ok_flat_Surface (a0_Rects : List Rect) (a0_Cuts : List Rect) (a0_Forms : List Rect) (a0_Bends : List Bend) (h : pre_flat_Surface a0_Rects a0_Cuts a0_Forms a0_Bends) : ∃ F, ∀ Q : Int → Int → Prop, Q ((sp_flat_Surface a0_Rects a0_Cuts a0_Forms a0_Bends).1) ((sp_flat_Surface a0_Rects a0_Cuts a0_Forms a0_Bends).2) → w_flat_Surface F a0_Rects a0_Cuts a0_Forms a0_Bends Q := by
  refine ⟨1001, fun Q hQ => ?_⟩
  unfold w_flat_Surface g_flat_Surface_e n_flat_Surface_0
  unfold sp_flat_Surface at hQ
  unfold sp_flat_check
  cases hw : wholeB a0_Rects a0_Cuts a0_Forms a0_Bends
  · rw [hw, cond_false] at hQ
    exact ⟨h, hQ⟩
  · rw [hw, cond_true] at hQ
    obtain ⟨hne, hR, hC, hM, hB⟩ := whole_lists hw
    have hr0 : sp_geom_rects [a0_Rects] = 0 := by
      unfold sp_geom_rects
      have e1 : decide (48 < a0_Rects.length) = false := dec_f (by omega)
      have e2 : a0_Rects.all vR = true := List.all_eq_true.2 hR.2
      simp [e1, e2]
    have hA : sp_geom_Area a0_Rects = (A (covB a0_Rects), 0) := by
      unfold sp_geom_Area
      rw [hr0]
      rfl
    refine ⟨h, ?_⟩
    rw [hA]
    refine ⟨trivial, ?_⟩
    have h48 := hC.1
    have hz : A (fun x y => covB a0_Rects x y && covB (a0_Cuts.take 0) x y) = 0 := by
      refine (A_congr (q := fun _ _ => false) fun x y => ?_).trans ?_
      · rw [List.take_zero]
        show (covB a0_Rects x y && false) = false
        cases covB a0_Rects x y <;> rfl
      · refine (A1_congr (g := fun _ => 0) fun x => ?_).trans (S_zero _ _)
        exact S_zero _ _
    have := lp_sf 1001 (fun t5 t7 t25 t26 t27 c1_0 c1_1 c1_2 c1_3 => g_flat_Surface_c0_0 Q t5 t7 t25 t26 t27 c1_0 c1_1 c1_2 c1_3) (A (covB a0_Rects)) a0_Rects a0_Cuts a0_Forms a0_Bends hR hC 1001 0 (by omega) (by omega) (by
      show Q (w64 (A (covB a0_Rects) - A (fun x y => covB a0_Rects x y && covB a0_Cuts x y))) 0
      have hs := A_split (covB a0_Rects) (covB a0_Cuts)
      have b1 := A_bd (covB a0_Rects)
      have b2 := A_bd (fun x y => covB a0_Rects x y && covB a0_Cuts x y)
      rw [w64_of (by omega) (by omega)]
      have e : A (covB a0_Rects) - A (fun x y => covB a0_Rects x y && covB a0_Cuts x y) = surf a0_Rects a0_Cuts := by unfold surf; omega
      rw [e]
      exact hQ)
    rw [hz] at this
    exact this
end
end Go.Proofs.Ytohecfbnmmgimaa

namespace Go.Proofs.Ytohecfbnmmgimaa
open Go.Vm Go.RowKit
set_option linter.unusedVariables false
noncomputable section
/-! ### sheetmetal/sheetmetallaw03.FlatTurnsBack -/
def M_law03_FlatTurnsBack : Nat → Nat → Canon UU := fun b r => ⟨[], [], [], []⟩
def g_law03_FlatTurnsBack_e (a0_Rects : List Rect) (a0_Cuts : List Rect) (a0_Forms : List Rect) (a0_Bends : List Bend) (a1 : Int) (a2 : Int) (Q : Bool → Prop) : Prop := (let r0 := (sp_law03_Long a0_Rects a0_Cuts a0_Forms a0_Bends); cond ((((r0 || (decide (a1 < 0))) || (decide (3 < a1))) || (decide (a2 < 0))) || (decide (3 < a2))) (((pre_law03_known ) ∧ Q sp_law03_known)) ((let r1 := (sp_flat_Settle a0_Rects a0_Cuts a0_Forms a0_Bends); ((pre_flat_Settle a0_Rects a0_Cuts a0_Forms a0_Bends) ∧ (let r2 := (sp_flat_Quarter a0_Rects a0_Cuts a0_Forms a0_Bends a1); ((pre_flat_Quarter a0_Rects a0_Cuts a0_Forms a0_Bends a1) ∧ cond ((r1.2.2.2.2 != 0) || (r2.2.2.2.2 != 0)) (((pre_law03_known ) ∧ Q sp_law03_known)) ((let r3 := (sp_flat_Quarter r2.1 r2.2.1 r2.2.2.1 r2.2.2.2.1 a2); ((pre_flat_Quarter r2.1 r2.2.1 r2.2.2.1 r2.2.2.2.1 a2) ∧ (let r4 := (sp_flat_Quarter a0_Rects a0_Cuts a0_Forms a0_Bends (Int.tmod (w64 (a1 + a2)) 4)); ((((4 : Int) ≠ 0) ∧ (pre_flat_Quarter a0_Rects a0_Cuts a0_Forms a0_Bends (Int.tmod (w64 (a1 + a2)) 4))) ∧ (let r5 := (sp_law03_ordered a0_Rects a0_Cuts a0_Forms a0_Bends); (let r6 := (sp_ref03_SameFlat r3.1 r3.2.1 r3.2.2.1 r3.2.2.2.1 r4.1 r4.2.1 r4.2.2.1 r4.2.2.2.1); (((((r3.2.2.2.2 == 0) && (r4.2.2.2.2 == 0)) = true → pre_law03_ordered a0_Rects a0_Cuts a0_Forms a0_Bends) ∧ ((((r3.2.2.2.2 == 0) && (r4.2.2.2.2 == 0)) && r5) = true → pre_ref03_SameFlat r3.1 r3.2.1 r3.2.2.1 r3.2.2.2.1 r4.1 r4.2.1 r4.2.2.1 r4.2.2.2.1)) ∧ cond ((((r3.2.2.2.2 == 0) && (r4.2.2.2.2 == 0)) && r5) && (!r6)) (Q false) ((let r7 := (sp_flat_Surface a0_Rects a0_Cuts a0_Forms a0_Bends); ((pre_flat_Surface a0_Rects a0_Cuts a0_Forms a0_Bends) ∧ (let r8 := (sp_flat_Surface r2.1 r2.2.1 r2.2.2.1 r2.2.2.2.1); ((pre_flat_Surface r2.1 r2.2.1 r2.2.2.1 r2.2.2.2.1) ∧ (let r9 := (sp_flat_Surface r1.1 r1.2.1 r1.2.2.1 r1.2.2.2.1); ((pre_flat_Surface r1.1 r1.2.1 r1.2.2.1 r1.2.2.2.1) ∧ (((((((r7.2 == 0) && (r8.2 == 0)) && (r9.2 == 0)) && (r7.1 == r8.1)) && (r7.1 == r9.1)) = true → pre_law03_known ) ∧ Q ((((((r7.2 == 0) && (r8.2 == 0)) && (r9.2 == 0)) && (r7.1 == r8.1)) && (r7.1 == r9.1)) && sp_law03_known)))))))))))))))))))))))
def w_law03_FlatTurnsBack (F : Nat) (a0_Rects : List Rect) (a0_Cuts : List Rect) (a0_Forms : List Rect) (a0_Bends : List Bend) (a1 : Int) (a2 : Int) (Q : Bool → Prop) : Prop := g_law03_FlatTurnsBack_e a0_Rects a0_Cuts a0_Forms a0_Bends a1 a2 Q
end
end Go.Proofs.Ytohecfbnmmgimaa
