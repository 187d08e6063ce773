/- What pieces of code must make hold, in plain Lean; printed by gen.py. Conditions: none; definitions. -/
import Derived.Test.YtohecfbnmmgimaaHF
namespace Go.Proofs.Ytohecfbnmmgimaa
open Go.Vm Go.RowKit
set_option linter.unusedVariables false
noncomputable section
/-! ### sheetmetal/flat.Deduction -/
def M_flat_Deduction : Nat → Nat → Canon UU := fun b r => ⟨[], [], []⟩
def g_flat_Deduction_e (a0_Material : ByteArray) (a0_Gauge : Int) (a0_Die : Int) (a0_Entries : List Ent) (a1 : Int) (Q : Int → Int → Int → Prop) : Prop := ((pre_flat_Validate a0_Material a0_Gauge a0_Die a0_Entries) ∧ cond ((sp_flat_Validate a0_Material a0_Gauge a0_Die a0_Entries) != 0) (Q 0 0 (sp_flat_Validate a0_Material a0_Gauge a0_Die a0_Entries)) (cond (!(sp_flat_rightAngle a1)) (Q 0 0 1) (((pre_flat_deduction a0_Material a0_Gauge a0_Die a0_Entries a1) ∧ cond (!((sp_flat_deduction a0_Material a0_Gauge a0_Die a0_Entries a1).2.2)) (Q 0 0 5) (Q ((sp_flat_rational_rat ((sp_flat_deduction a0_Material a0_Gauge a0_Die a0_Entries a1).1) ((sp_flat_deduction a0_Material a0_Gauge a0_Die a0_Entries a1).2.1)).1) ((sp_flat_rational_rat ((sp_flat_deduction a0_Material a0_Gauge a0_Die a0_Entries a1).1) ((sp_flat_deduction a0_Material a0_Gauge a0_Die a0_Entries a1).2.1)).2) 0)))))
def w_flat_Deduction (F : Nat) (a0_Material : ByteArray) (a0_Gauge : Int) (a0_Die : Int) (a0_Entries : List Ent) (a1 : Int) (Q : Int → Int → Int → Prop) : Prop := g_flat_Deduction_e a0_Material a0_Gauge a0_Die a0_Entries a1 Q
def pre_flat_Deduction (a0_Material : ByteArray) (a0_Gauge : Int) (a0_Die : Int) (a0_Entries : List Ent) (a1 : Int) : Prop := (pre_flat_Validate a0_Material a0_Gauge a0_Die a0_Entries) ∧ (cond ((sp_flat_Validate a0_Material a0_Gauge a0_Die a0_Entries) != 0) (True) ((cond (!(sp_flat_rightAngle a1)) (True) ((pre_flat_deduction a0_Material a0_Gauge a0_Die a0_Entries a1)))))
def sp_flat_Deduction (a0_Material : ByteArray) (a0_Gauge : Int) (a0_Die : Int) (a0_Entries : List Ent) (a1 : Int) : Int × Int × Int := cond ((sp_flat_Validate a0_Material a0_Gauge a0_Die a0_Entries) != 0) ((0, 0, (sp_flat_Validate a0_Material a0_Gauge a0_Die a0_Entries))) (cond (!(sp_flat_rightAngle a1)) ((0, 0, 1)) (cond (!((sp_flat_deduction a0_Material a0_Gauge a0_Die a0_Entries a1).2.2)) ((0, 0, 5)) (((sp_flat_rational_rat ((sp_flat_deduction a0_Material a0_Gauge a0_Die a0_Entries a1).1) ((sp_flat_deduction a0_Material a0_Gauge a0_Die a0_Entries a1).2.1)).1, (sp_flat_rational_rat ((sp_flat_deduction a0_Material a0_Gauge a0_Die a0_Entries a1).1) ((sp_flat_deduction a0_Material a0_Gauge a0_Die a0_Entries a1).2.1)).2, 0))))
theorem ok_flat_Deduction (a0_Material : ByteArray) (a0_Gauge : Int) (a0_Die : Int) (a0_Entries : List Ent) (a1 : Int) (hp : pre_flat_Deduction a0_Material a0_Gauge a0_Die a0_Entries a1) : ∃ F, ∀ Q : Int → Int → Int → Prop, Q ((sp_flat_Deduction a0_Material a0_Gauge a0_Die a0_Entries a1).1) ((sp_flat_Deduction a0_Material a0_Gauge a0_Die a0_Entries a1).2.1) ((sp_flat_Deduction a0_Material a0_Gauge a0_Die a0_Entries a1).2.2) → w_flat_Deduction F a0_Material a0_Gauge a0_Die a0_Entries a1 Q := by
  refine ⟨0, fun Q h => ?_⟩
  unfold w_flat_Deduction g_flat_Deduction_e
  unfold sp_flat_Deduction at h
  unfold pre_flat_Deduction at hp
  obtain ⟨hc0_0, hp⟩ := hp
  refine ⟨hc0_0, ?_⟩
  cases hb1 : ((sp_flat_Validate a0_Material a0_Gauge a0_Die a0_Entries) != 0)
  · try simp only [hb1, cond_false] at h hp ⊢
    cases hb2 : (!(sp_flat_rightAngle a1))
    · try simp only [hb2, cond_false] at h hp ⊢
      have hc3_0 := hp
      refine ⟨hc3_0, ?_⟩
      cases hb4 : (!((sp_flat_deduction a0_Material a0_Gauge a0_Die a0_Entries a1).2.2))
      · try simp only [hb4, cond_false] at h ⊢
        exact h
      · try simp only [hb4, cond_true] at h ⊢
        exact h
    · try simp only [hb2, cond_true] at h hp ⊢
      exact h
  · try simp only [hb1, cond_true] at h hp ⊢
    exact h
/-! ### sheetmetal/sheetmetalref03.Deduction -/
def M_ref03_Deduction : Nat → Nat → Canon UU := fun b r => ⟨[], [], []⟩
def g_ref03_Deduction_e (a0_Material : ByteArray) (a0_Gauge : Int) (a0_Die : Int) (a0_Entries : List Ent) (a1 : Int) (Q : Int → Int → Int → Prop) : Prop := ((pre_ref03_Validate a0_Material a0_Gauge a0_Die a0_Entries) ∧ cond ((sp_ref03_Validate a0_Material a0_Gauge a0_Die a0_Entries) != 0) (Q 0 0 (sp_ref03_Validate a0_Material a0_Gauge a0_Die a0_Entries)) ((((!(sp_ref03_within a1 30 180)) = false → (30 : Int) ≠ 0) ∧ cond ((!(sp_ref03_within a1 30 180)) || ((Int.tmod a1 30) != 0)) (Q 0 0 1) (((pre_ref03_deduction a0_Material a0_Gauge a0_Die a0_Entries a1) ∧ Q ((sp_ref03_deduction a0_Material a0_Gauge a0_Die a0_Entries a1).1) ((sp_ref03_deduction a0_Material a0_Gauge a0_Die a0_Entries a1).2.1) ((sp_ref03_deduction a0_Material a0_Gauge a0_Die a0_Entries a1).2.2))))))
def w_ref03_Deduction (F : Nat) (a0_Material : ByteArray) (a0_Gauge : Int) (a0_Die : Int) (a0_Entries : List Ent) (a1 : Int) (Q : Int → Int → Int → Prop) : Prop := g_ref03_Deduction_e a0_Material a0_Gauge a0_Die a0_Entries a1 Q
def pre_ref03_Deduction (a0_Material : ByteArray) (a0_Gauge : Int) (a0_Die : Int) (a0_Entries : List Ent) (a1 : Int) : Prop := (pre_ref03_Validate a0_Material a0_Gauge a0_Die a0_Entries) ∧ (cond ((sp_ref03_Validate a0_Material a0_Gauge a0_Die a0_Entries) != 0) (True) ((cond ((!(sp_ref03_within a1 30 180)) || ((Int.tmod a1 30) != 0)) (True) ((pre_ref03_deduction a0_Material a0_Gauge a0_Die a0_Entries a1)))))
def sp_ref03_Deduction (a0_Material : ByteArray) (a0_Gauge : Int) (a0_Die : Int) (a0_Entries : List Ent) (a1 : Int) : Int × Int × Int := cond ((sp_ref03_Validate a0_Material a0_Gauge a0_Die a0_Entries) != 0) ((0, 0, (sp_ref03_Validate a0_Material a0_Gauge a0_Die a0_Entries))) (cond ((!(sp_ref03_within a1 30 180)) || ((Int.tmod a1 30) != 0)) ((0, 0, 1)) (((sp_ref03_deduction a0_Material a0_Gauge a0_Die a0_Entries a1).1, (sp_ref03_deduction a0_Material a0_Gauge a0_Die a0_Entries a1).2.1, (sp_ref03_deduction a0_Material a0_Gauge a0_Die a0_Entries a1).2.2)))
theorem ok_ref03_Deduction (a0_Material : ByteArray) (a0_Gauge : Int) (a0_Die : Int) (a0_Entries : List Ent) (a1 : Int) (hp : pre_ref03_Deduction a0_Material a0_Gauge a0_Die a0_Entries a1) : ∃ F, ∀ Q : Int → Int → Int → Prop, Q ((sp_ref03_Deduction a0_Material a0_Gauge a0_Die a0_Entries a1).1) ((sp_ref03_Deduction a0_Material a0_Gauge a0_Die a0_Entries a1).2.1) ((sp_ref03_Deduction a0_Material a0_Gauge a0_Die a0_Entries a1).2.2) → w_ref03_Deduction F a0_Material a0_Gauge a0_Die a0_Entries a1 Q := by
  refine ⟨0, fun Q h => ?_⟩
  unfold w_ref03_Deduction g_ref03_Deduction_e
  unfold sp_ref03_Deduction at h
  unfold pre_ref03_Deduction at hp
  obtain ⟨hc0_0, hp⟩ := hp
  refine ⟨hc0_0, ?_⟩
  cases hb1 : ((sp_ref03_Validate a0_Material a0_Gauge a0_Die a0_Entries) != 0)
  · try simp only [hb1, cond_false] at h hp ⊢
    refine ⟨fun _ => by decide, ?_⟩
    cases hb3 : (((!(sp_ref03_within a1 30 180)) || ((Int.tmod a1 30) != 0)))
    · try simp only [hb3, cond_false] at h hp ⊢
      have hc4_0 := hp
      refine ⟨hc4_0, ?_⟩
      exact h
    · try simp only [hb3, cond_true] at h hp ⊢
      exact h
  · try simp only [hb1, cond_true] at h hp ⊢
    exact h
/-! ### sheetmetal/sheetmetallaw03.Wide -/
def M_law03_Wide : Nat → Nat → Canon UU := fun b r => ⟨[], [], []⟩
def g_law03_Wide_e (a0_Material : ByteArray) (a0_Gauge : Int) (a0_Die : Int) (a0_Entries : List Ent) (Q : Bool → Prop) : Prop := Q ((decide (300 < (a0_Material.size : Int))) || (decide (40 < (a0_Entries.length : Int))))
def w_law03_Wide (F : Nat) (a0_Material : ByteArray) (a0_Gauge : Int) (a0_Die : Int) (a0_Entries : List Ent) (Q : Bool → Prop) : Prop := g_law03_Wide_e a0_Material a0_Gauge a0_Die a0_Entries Q
def sp_law03_Wide (a0_Material : ByteArray) (a0_Gauge : Int) (a0_Die : Int) (a0_Entries : List Ent) : Bool := ((decide (300 < (a0_Material.size : Int))) || (decide (40 < (a0_Entries.length : Int))))
theorem ok_law03_Wide (a0_Material : ByteArray) (a0_Gauge : Int) (a0_Die : Int) (a0_Entries : List Ent) : ∃ F, ∀ Q : Bool → Prop, Q (sp_law03_Wide a0_Material a0_Gauge a0_Die a0_Entries) → w_law03_Wide F a0_Material a0_Gauge a0_Die a0_Entries Q := by
  refine ⟨0, fun Q h => ?_⟩
  unfold w_law03_Wide g_law03_Wide_e
  unfold sp_law03_Wide at h
  exact h
/-! ### sheetmetal/sheetmetallaw03.known -/
def M_law03_known : Nat → Nat → Canon UU := fun b r => ⟨[], [], []⟩
def g_law03_known_e  (Q : Bool → Prop) : Prop := ((pre_flat_Reduce 14 4) ∧ ((pre_flat_Ticks ((sp_flat_Reduce 14 4).1) ((sp_flat_Reduce 14 4).2.1)) ∧ Q ((((((sp_flat_Reduce 14 4).2.2) == 0) && ((((sp_flat_Reduce 14 4).1) == 7) && ((((sp_flat_Reduce 14 4).2.1) == 2) && true))) && (((sp_flat_Ticks ((sp_flat_Reduce 14 4).1) ((sp_flat_Reduce 14 4).2.1)).2) == 0)) && (((sp_flat_Ticks ((sp_flat_Reduce 14 4).1) ((sp_flat_Reduce 14 4).2.1)).1) == 2520))))
def w_law03_known (F : Nat)  (Q : Bool → Prop) : Prop := g_law03_known_e  Q
def pre_law03_known  : Prop := (pre_flat_Reduce 14 4) ∧ (pre_flat_Ticks ((sp_flat_Reduce 14 4).1) ((sp_flat_Reduce 14 4).2.1))
def sp_law03_known  : Bool := ((((((sp_flat_Reduce 14 4).2.2) == 0) && ((((sp_flat_Reduce 14 4).1) == 7) && ((((sp_flat_Reduce 14 4).2.1) == 2) && true))) && (((sp_flat_Ticks ((sp_flat_Reduce 14 4).1) ((sp_flat_Reduce 14 4).2.1)).2) == 0)) && (((sp_flat_Ticks ((sp_flat_Reduce 14 4).1) ((sp_flat_Reduce 14 4).2.1)).1) == 2520))
theorem ok_law03_known  (hp : pre_law03_known ) : ∃ F, ∀ Q : Bool → Prop, Q sp_law03_known → w_law03_known F  Q := by
  refine ⟨0, fun Q h => ?_⟩
  unfold w_law03_known g_law03_known_e
  unfold sp_law03_known at h
  unfold pre_law03_known at hp
  obtain ⟨hc0_0, hp⟩ := hp
  refine ⟨hc0_0, ?_⟩
  have hc1_0 := hp
  refine ⟨hc1_0, ?_⟩
  exact h
end
end Go.Proofs.Ytohecfbnmmgimaa
