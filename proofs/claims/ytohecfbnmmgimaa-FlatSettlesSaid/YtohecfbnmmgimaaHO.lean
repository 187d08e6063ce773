/- Patterns: what Quarter returns. Conditions: none. -/
import Derived.Test.YtohecfbnmmgimaaGO
namespace Go.Proofs.Ytohecfbnmmgimaa
open Go.Vm Go.RowKit
set_option linter.unusedVariables false
noncomputable section

def ordB (e : Bend) : Bool := decide (e.Line_X1 ≤ e.Line_X2) && decide (e.Line_Y1 ≤ e.Line_Y2)
def sortL (b : Bend) : Bend := Bend.mk b.Flange b.Parent (mi b.Line_X1 b.Line_X2) (mi b.Line_Y1 b.Line_Y2) (ma b.Line_X1 b.Line_X2) (ma b.Line_Y1 b.Line_Y2) b.Angle b.Deduct
def fixL : List Bend → List Bend → List Bend
  | e :: l, b :: m => (bif ordB e then sortL b else b) :: fixL l m
  | _, m => m
def qF : Nat → Flat4 → Flat4
  | 0, f => f
  | n + 1, f => qF n (sp_flat_quarter f.1 f.2.1 f.2.2.1 f.2.2.2)
def shF4 (f : Flat4) : Prop := shF f.1 f.2.1 f.2.2.1 f.2.2.2
theorem qF_sh : ∀ (n : Nat) (f : Flat4), shF4 f → shF4 (qF n f)
  | 0, _, h => h
  | n + 1, f, h => qF_sh n _ (by
      obtain ⟨h1, h2, h3, h4⟩ := h
      unfold sh at *
      refine ⟨?_, ?_, ?_, ?_⟩
      all_goals
        unfold sh
        simp only [sp_flat_quarter, sp_mapQ, List.length_map]
        assumption)
theorem qF_len : ∀ (n : Nat) (f : Flat4), (qF n f).2.2.2.length = f.2.2.2.length
  | 0, _ => rfl
  | n + 1, f => by
    rw [qF, qF_len n]
    simp only [sp_flat_quarter, sp_mapQ, List.length_map]
def turned (R C M : List Rect) (B : List Bend) (t : Int) : Flat4 :=
  let f := qF t.toNat (R, C, M, B)
  (f.1, f.2.1, f.2.2.1, bif decide (0 < t) then fixL B f.2.2.2 else f.2.2.2)
def badQ (R C M : List Rect) (B : List Bend) (t : Int) : Bool := ((sp_flat_check R C M B != 0) || decide (t < 0)) || decide (3 < t)
def pre_flat_Quarter (R C M : List Rect) (B : List Bend) (t : Int) : Prop :=
  shF R C M B ∧ (badQ R C M B t = false → let f := turned R C M B t; pre_flat_settled f.1 f.2.1 f.2.2.1 f.2.2.2)
def sp_flat_Quarter (R C M : List Rect) (B : List Bend) (t : Int) : List Rect × List Rect × List Rect × List Bend × Int :=
  bif badQ R C M B t then ([], [], [], [], 1) else let f := turned R C M B t; sp_flat_settled f.1 f.2.1 f.2.2.1 f.2.2.2

theorem lp_Q0_1 (F : Nat) (x0 : Int → List Bend → Int → Int → List Rect → List Rect → List Rect → List Bend → Prop) (l : List Bend) (R C M : List Rect) (m : List Bend) (hl : sh l) (hm : m.length = l.length) : ∀ (n i : Nat), i ≤ l.length → l.length < i + n →
    x0 0 l l.length l.length R C M m → w_Q0_1 F x0 n 0 l l.length i R C M m := by
  intro n
  induction n with
  | zero => intro i h1 h2; omega
  | succ n ih =>
    intro i h1 h2 e
    show g_Q0_s1 (w_Q0_1 F x0 n) x0 0 l l.length i R C M m
    unfold g_Q0_s1
    by_cases h : i < l.length
    · rw [dec_t (by omega), cond_true]
      refine ⟨by omega, by omega, ?_⟩
      rw [dec_f (by omega : ¬ (0 : Int) < 0), Bool.false_and, Bool.false_and, cond_false]
      rw [w64_succ h (by unfold sh at hl; omega)]
      exact ih _ (by omega) (by omega) e
    · rw [dec_f (by omega), cond_false]
      have he : i = l.length := by omega
      rw [he]
      exact e
theorem ok_Q0 (a0_Rects : List Rect) (a0_Cuts : List Rect) (a0_Forms : List Rect) (a0_Bends : List Bend) (h : pre_flat_Quarter a0_Rects a0_Cuts a0_Forms a0_Bends 0) : ∃ F, ∀ Q : List Rect → List Rect → List Rect → List Bend → Int → Prop, Q ((sp_flat_Quarter a0_Rects a0_Cuts a0_Forms a0_Bends 0).1) ((sp_flat_Quarter a0_Rects a0_Cuts a0_Forms a0_Bends 0).2.1) ((sp_flat_Quarter a0_Rects a0_Cuts a0_Forms a0_Bends 0).2.2.1) ((sp_flat_Quarter a0_Rects a0_Cuts a0_Forms a0_Bends 0).2.2.2.1) ((sp_flat_Quarter a0_Rects a0_Cuts a0_Forms a0_Bends 0).2.2.2.2) → w_Q0 F a0_Rects a0_Cuts a0_Forms a0_Bends Q := by
  refine ⟨1002, fun Q hQ => ?_⟩
  obtain ⟨⟨h1, h2, h3, h4⟩, hp⟩ := h
  unfold w_Q0 g_Q0_e n_Q0_0
  refine ⟨h4, ?_⟩
  unfold sp_flat_Quarter at hQ
  have hb : badQ a0_Rects a0_Cuts a0_Forms a0_Bends 0 = (((sp_flat_check a0_Rects a0_Cuts a0_Forms a0_Bends != 0) || false) || false) := rfl
  rw [hb] at hQ hp
  cases hc : (((sp_flat_check a0_Rects a0_Cuts a0_Forms a0_Bends != 0) || false) || false)
  · rw [hc] at hQ
    rw [cond_false]
    show g_Q0_s0 _ _ _ _ _ _ _ _ _ _ _ _ _
    unfold g_Q0_s0
    rw [dec_f (by omega : ¬ (0 : Int) < 0), cond_false]
    refine lp_Q0_1 _ _ a0_Bends _ _ _ a0_Bends h4 rfl _ 0 (by omega) (by unfold sh at h4; omega) ?_
    exact ⟨hp hc, hQ⟩
  · rw [hc] at hQ
    exact hQ

theorem take_set {α : Type} [Inhabited α] (m : List α) (i : Nat) (h : i < m.length) (x : α) : (m.set i x).take (i + 1) = m.take i ++ [x] := by
  rw [List.take_set, List.take_succ_eq_append_getElem h, List.set_append_right]
  · simp [Nat.min_eq_left (Nat.le_of_lt h)]
  · simp [Nat.min_eq_left (Nat.le_of_lt h)]
theorem lp_Q1_2 (F : Nat) (x0 : Int → List Bend → Int → Int → List Rect → List Rect → List Rect → List Bend → Prop) (t : Int) (ht : 0 < t) (l : List Bend) (R C M : List Rect) (hl : sh l) : ∀ (n i : Nat) (m : List Bend), m.length = l.length → i ≤ l.length → l.length < i + n →
    x0 t l l.length l.length R C M (m.take i ++ fixL (l.drop i) (m.drop i)) → w_Q1_2 F x0 n t l l.length i R C M m := by
  intro n
  induction n with
  | zero => intro i m hm h1 h2; omega
  | succ n ih =>
    intro i m hm h1 h2 e
    show g_Q1_s2 (w_Q1_2 F x0 n) x0 t l l.length i R C M m
    unfold g_Q1_s2
    by_cases h : i < l.length
    · rw [dec_t (by omega), cond_true, Int.toNat_natCast]
      rw [drop_getD l i h, drop_getD m i (by omega), fixL] at e
      refine ⟨by omega, by omega, ?_⟩
      rw [dec_t ht, Bool.true_and]
      change cond (ordB (l.getD i default)) (w_Q1_2 F x0 n t l l.length (w64 (i + 1)) R C M (m.set i (sortL (m.getD i default)))) _
      rw [w64_succ h (by unfold sh at hl; omega)]
      cases ho : ordB (l.getD i default)
      · rw [ho] at e
        refine ih _ m hm (by omega) (by omega) ?_
        rw [cond_false] at e
        have : m.take (i + 1) = m.take i ++ [m.getD i default] := by
          have hi : i < m.length := by omega
          rw [List.take_succ_eq_append_getElem hi]
          simp [List.getD, hi]
        rw [this, List.append_assoc]
        exact e
      · rw [ho] at e
        refine ih _ _ (by rw [List.length_set]; exact hm) (by omega) (by omega) ?_
        rw [cond_true] at e
        rw [take_set m i (by omega), List.append_assoc, List.drop_set_of_lt (by omega)]
        exact e
    · rw [dec_f (by omega), cond_false]
      have he : i = l.length := by omega
      rw [he] at e ⊢
      rw [List.drop_length, ← hm, List.drop_length, List.take_length] at e
      rw [fixL, List.append_nil] at e
      rw [← hm]
      exact e
      all_goals simp
theorem lp_Q1_1 (F : Nat) (x0 x1 : Int → Int → Int → List Rect → List Rect → List Rect → List Bend → List Rect → List Rect → List Rect → List Bend → Prop) (t : Nat) (ht : t ≤ 3) (R C M : List Rect) (B : List Bend) : ∀ (n i : Nat) (f : Flat4), shF4 f → i ≤ t → t < i + n →
    (∀ g : Flat4, g = qF (t - i) f → x1 t t t R C M B g.1 g.2.1 g.2.2.1 g.2.2.2) → w_Q1_1 F x0 x1 n t t i R C M B f.1 f.2.1 f.2.2.1 f.2.2.2 := by
  intro n
  induction n with
  | zero => intro i f hf h1 h2; omega
  | succ n ih =>
    intro i f hf h1 h2 e
    show g_Q1_s1 (w_Q1_1 F x0 x1 n) x0 x1 t t i R C M B f.1 f.2.1 f.2.2.1 f.2.2.2
    unfold g_Q1_s1
    by_cases h : i < t
    · rw [dec_t (by omega), cond_true]
      refine ⟨hf, ?_⟩
      rw [w64_succ h (by omega)]
      refine ih _ (sp_flat_quarter f.1 f.2.1 f.2.2.1 f.2.2.2) (qF_sh 1 f hf) (by omega) (by omega) ?_
      rw [show t - i = (t - (i + 1)) + 1 by omega] at e
      exact e
    · rw [dec_f (by omega), cond_false]
      have he : i = t := by omega
      rw [he] at e ⊢
      rw [Nat.sub_self] at e
      exact e f rfl
theorem ok_Q1 (a0_Rects : List Rect) (a0_Cuts : List Rect) (a0_Forms : List Rect) (a0_Bends : List Bend) (a1 : Int) (h : pre_flat_Quarter a0_Rects a0_Cuts a0_Forms a0_Bends a1) (hz : ¬ a1 = 0) : ∃ F, ∀ Q : List Rect → List Rect → List Rect → List Bend → Int → Prop, Q ((sp_flat_Quarter a0_Rects a0_Cuts a0_Forms a0_Bends a1).1) ((sp_flat_Quarter a0_Rects a0_Cuts a0_Forms a0_Bends a1).2.1) ((sp_flat_Quarter a0_Rects a0_Cuts a0_Forms a0_Bends a1).2.2.1) ((sp_flat_Quarter a0_Rects a0_Cuts a0_Forms a0_Bends a1).2.2.2.1) ((sp_flat_Quarter a0_Rects a0_Cuts a0_Forms a0_Bends a1).2.2.2.2) → w_Q1 F a0_Rects a0_Cuts a0_Forms a0_Bends a1 Q := by
  refine ⟨1002, fun Q hQ => ?_⟩
  obtain ⟨hsh, hp⟩ := h
  unfold w_Q1 g_Q1_e n_Q1_0
  refine ⟨hsh.2.2.2, ?_⟩
  unfold sp_flat_Quarter at hQ
  change cond (badQ a0_Rects a0_Cuts a0_Forms a0_Bends a1) _ _
  cases hc : badQ a0_Rects a0_Cuts a0_Forms a0_Bends a1
  · rw [hc] at hQ
    have hq := hp hc
    rw [cond_false] at hQ ⊢
    have hr : 0 ≤ a1 ∧ a1 ≤ 3 := by
      unfold badQ at hc
      simp only [Bool.or_eq_false_iff, decide_eq_false_iff_not] at hc
      omega
    obtain ⟨t, rfl⟩ : ∃ t : Nat, a1 = t := ⟨a1.toNat, by omega⟩
    show g_Q1_s0 _ _ _ _ _ _ _ _ _ _ _ _ _ _
    unfold g_Q1_s0
    rw [dec_t (by omega : (0 : Int) < t), cond_true]
    refine ⟨hsh, ?_⟩
    refine lp_Q1_1 _ _ _ t (by omega) _ _ _ _ _ 1 (sp_flat_quarter a0_Rects a0_Cuts a0_Forms a0_Bends) (qF_sh 1 (a0_Rects, a0_Cuts, a0_Forms, a0_Bends) hsh) (by omega) (by omega) ?_
    intro g hg
    have hg' : g = qF t (a0_Rects, a0_Cuts, a0_Forms, a0_Bends) := by
      rw [hg, show t = (t - 1) + 1 by omega]
      rfl
    have hgl : g.2.2.2.length = a0_Bends.length := by rw [hg', qF_len]
    have htu : turned a0_Rects a0_Cuts a0_Forms a0_Bends t = (g.1, g.2.1, g.2.2.1, fixL a0_Bends g.2.2.2) := by
      unfold turned
      rw [Int.toNat_natCast, ← hg', dec_t (by omega : (0 : Int) < t)]
      rfl
    rw [htu] at hQ hq
    refine lp_Q1_2 _ _ t (by omega) a0_Bends _ _ _ hsh.2.2.2 _ 0 g.2.2.2 hgl (by omega) (by have := hsh.2.2.2; unfold sh at this; omega) ?_
    rw [List.take_zero, List.nil_append, List.drop_zero, List.drop_zero]
    exact ⟨hq, hQ⟩
  · rw [hc] at hQ
    exact hQ
end
end Go.Proofs.Ytohecfbnmmgimaa
