/- Tables: what the two laws' functions must hold, holds. Conditions: none. -/
import Derived.Test.YtohecfbnmmgimaaGH
namespace Go.Proofs.Ytohecfbnmmgimaa
open Go.Vm Go.RowKit
set_option linter.unusedVariables false
noncomputable section

theorem valid_iff {n d : Int} : sp_flat_valid n d = true ↔ (1 ≤ d ∧ d ≤ 4096 ∧ -16777216 ≤ n ∧ n ≤ 16777216) := by
  simp [sp_flat_valid, and_assoc]
theorem valid_big {n d : Int} (h : sp_flat_valid n d = true) : bigOK n d := by
  obtain ⟨h1, h2, h3, h4⟩ := valid_iff.1 h
  exact ⟨by omega, by omega, by omega, by omega⟩
theorem pre_Reduce (n d : Int) : pre_flat_Reduce n d := by
  unfold pre_flat_Reduce
  cases h : sp_flat_valid n d
  · trivial
  · exact valid_big h
theorem times720 {n d : Int} (h : sp_flat_valid n d = true) : w64 (n * 720) = n * 720 ∧ w64 (d * 1) = d ∧ bigOK (n * 720) d := by
  obtain ⟨h1, h2, h3, h4⟩ := valid_iff.1 h
  exact ⟨w64_of (by omega) (by omega), by rw [w64_of (by omega) (by omega)]; omega, by omega, by omega, by omega, by omega⟩
theorem pre_Ticks (n d : Int) : pre_flat_Ticks n d := by
  unfold pre_flat_Ticks
  cases h : sp_flat_valid n d
  · trivial
  · obtain ⟨e1, e2, e3⟩ := times720 h
    show bigOK (w64 (n * 720)) (w64 (d * 1))
    rw [e1, e2]
    exact e3
theorem known_pre : pre_law03_known := ⟨pre_Reduce _ _, pre_Ticks _ _⟩
theorem known_true : sp_law03_known = true := by decide +kernel

theorem tab_pre {m : ByteArray} {g d : Int} {es : List Ent} (h : sp_law03_Wide m g d es = false) : m.size ≤ 1000 ∧ es.length ≤ 1000 := by
  unfold sp_law03_Wide at h
  simp only [Bool.or_eq_false_iff, decide_eq_false_iff_not] at h
  exact ⟨by omega, by omega⟩
theorem val_zero {m : ByteArray} {g d : Int} {es : List Ent} (h : (sp_flat_Validate m g d es != 0) = false) : entsOK 0 es = true := by
  unfold sp_flat_Validate tabOK at h
  cases hc : (vn m && decide (1 ≤ g) && decide (g ≤ 60) && decide (1 ≤ d) && decide (d ≤ 1000) && decide (1 ≤ es.length) && decide (es.length ≤ 6) && entsOK 0 es)
  · rw [hc] at h
    cases h
  · rw [Bool.and_eq_true] at hc
    exact hc.2
theorem angle_eq (a : Int) : (!(sp_ref03_within a 30 180) || Int.tmod a 30 != 0) = !sp_flat_rightAngle a := by
  unfold sp_ref03_within sp_flat_rightAngle
  simp only [Bool.not_and, bne, Bool.or_assoc]
theorem pre_Ded {m : ByteArray} {g d : Int} {es : List Ent} (a : Int) (h : sp_law03_Wide m g d es = false) : pre_flat_Deduction m g d es a := by
  have h1 := tab_pre h
  refine ⟨h1, ?_⟩
  cases h2 : (sp_flat_Validate m g d es != 0)
  · cases h3 : sp_flat_rightAngle a
    · trivial
    · unfold sp_flat_rightAngle at h3
      simp only [Bool.and_eq_true, decide_eq_true_eq] at h3
      exact ⟨val_zero h2, h1.2, h3.1.1, h3.1.2⟩
  · trivial
theorem pre_RDed {m : ByteArray} {g d : Int} {es : List Ent} (a : Int) (h : sp_law03_Wide m g d es = false) : pre_ref03_Deduction m g d es a := by
  have h1 := tab_pre h
  refine ⟨h1, ?_⟩
  rw [angle_eq]
  unfold sp_ref03_Validate
  cases h2 : (sp_flat_Validate m g d es != 0)
  · cases h3 : sp_flat_rightAngle a
    · trivial
    · unfold sp_flat_rightAngle at h3
      simp only [Bool.and_eq_true, decide_eq_true_eq] at h3
      exact ⟨val_zero h2, h1.2, h3.1.1, h3.1.2⟩
  · trivial
theorem ded_same (m : ByteArray) (g d : Int) (es : List Ent) (a : Int) : sp_ref03_Deduction m g d es a = sp_flat_Deduction m g d es a := by
  unfold sp_ref03_Deduction sp_flat_Deduction sp_ref03_Validate
  rw [angle_eq]
  cases h2 : (sp_flat_Validate m g d es != 0)
  · cases h3 : sp_flat_rightAngle a
    · rfl
    · unfold sp_ref03_deduction sp_flat_deduction sp_flat_rational_rat
      cases ded none es a with
      | none => rfl
      | some p => rfl
  · rfl

theorem law_tables (m : ByteArray) (g d : Int) (es : List Ent) (a : Int) : w_law03_FlatTables 0 m g d es a (fun r => r = true) := by
  unfold w_law03_FlatTables g_law03_FlatTables_e
  intro r0
  cases h : r0
  · refine ⟨pre_Ded a h, pre_RDed a h, tab_pre h, tab_pre h, ?_⟩
    rw [ded_same]
    have e : (sp_flat_Validate m g d es == sp_ref03_Validate m g d es) = true := by
      unfold sp_ref03_Validate
      simp
    rw [e]
    simp only [beq_self_eq_true, Bool.and_self, cond_true]
    exact ⟨known_pre, known_true⟩
  · exact ⟨known_pre, known_true⟩
end
end Go.Proofs.Ytohecfbnmmgimaa
