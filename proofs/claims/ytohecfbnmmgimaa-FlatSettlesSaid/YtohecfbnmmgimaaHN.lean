/- Patterns: what the functions with a map over a pattern return. Conditions: none. -/
import Derived.Test.YtohecfbnmmgimaaGN
namespace Go.Proofs.Ytohecfbnmmgimaa
open Go.Vm Go.RowKit
set_option linter.unusedVariables false
noncomputable section

abbrev Flat4 := List Rect × List Rect × List Rect × List Bend
def lS (a b c d : Int) (e0 : Bend) : Bend :=
  let r1 := sp_flat_settled_2 e0.Line_X1 e0.Line_Y1 e0.Line_X2 e0.Line_Y2 a b c d
  Bend.mk e0.Flange e0.Parent r1.1 r1.2.1 r1.2.2.1 r1.2.2.2 e0.Angle e0.Deduct
def lQ (e0 : Bend) : Bend :=
  let r1 := sp_flat_quarter_2 e0.Line_X1 e0.Line_Y1 e0.Line_X2 e0.Line_Y2
  Bend.mk e0.Flange e0.Parent r1.1 r1.2.1 r1.2.2.1 r1.2.2.2 e0.Angle e0.Deduct
def pre_mapS (R C M : List Rect) (B : List Bend) (a b c d e f g h : Int) : Prop := shF R C M B
def sp_mapS (R C M : List Rect) (B : List Bend) (a b c d e f g h : Int) : Flat4 := (R.map (mS a b c d), C.map (mS a b c d), M.map (mS a b c d), B.map (lS e f g h))
def pre_mapQ (R C M : List Rect) (B : List Bend) : Prop := shF R C M B
def sp_mapQ (R C M : List Rect) (B : List Bend) : Flat4 := (R.map mQ, C.map mQ, M.map mQ, B.map lQ)

theorem lp_mapS (F : Nat) (x0 : Int → Int → Int → Int → List Bend → Int → Int → List Rect → List Rect → List Rect → List Bend → Prop) (a b c d : Int) (l : List Bend) (p q s : List Rect) (hl : sh l) : ∀ (n i : Nat) (o : List Bend), i ≤ l.length → o.length = i → l.length < i + n →
    x0 a b c d l l.length l.length p q s (o ++ (l.drop i).map (lS a b c d)) → w_mapS_0 F x0 n a b c d l l.length i p q s o := by
  intro n
  induction n with
  | zero => intro i o h1 h2 h3; omega
  | succ n ih =>
    intro i o h1 h2 h3 e
    show g_mapS_s0 (w_mapS_0 F x0 n) x0 a b c d l l.length i p q s o
    unfold g_mapS_s0
    by_cases h : i < l.length
    · rw [dec_t (by omega), cond_true, Int.toNat_natCast]
      rw [drop_getD l i h, List.map_cons] at e
      refine ⟨by omega, by unfold sh at hl; simp only [List.length_cons, List.length_nil]; omega, ?_⟩
      rw [w64_succ h (by unfold sh at hl; omega)]
      refine ih _ _ (by omega) (by simp [h2]) (by omega) ?_
      rw [List.append_assoc]
      exact e
    · rw [dec_f (by omega), cond_false]
      have he : i = l.length := by omega
      rw [he, List.drop_length, List.map_nil, List.append_nil] at e
      rw [he]
      exact e
theorem ok_mapS (a0_Rects : List Rect) (a0_Cuts : List Rect) (a0_Forms : List Rect) (a0_Bends : List Bend) (b_X : Int) (b_Y : Int) (b_W : Int) (b_H : Int) (c_X : Int) (c_Y : Int) (c_W : Int) (c_H : Int) (h : pre_mapS a0_Rects a0_Cuts a0_Forms a0_Bends b_X b_Y b_W b_H c_X c_Y c_W c_H) : ∃ F, ∀ Q : List Rect → List Rect → List Rect → List Bend → Prop, Q ((sp_mapS a0_Rects a0_Cuts a0_Forms a0_Bends b_X b_Y b_W b_H c_X c_Y c_W c_H).1) ((sp_mapS a0_Rects a0_Cuts a0_Forms a0_Bends b_X b_Y b_W b_H c_X c_Y c_W c_H).2.1) ((sp_mapS a0_Rects a0_Cuts a0_Forms a0_Bends b_X b_Y b_W b_H c_X c_Y c_W c_H).2.2.1) ((sp_mapS a0_Rects a0_Cuts a0_Forms a0_Bends b_X b_Y b_W b_H c_X c_Y c_W c_H).2.2.2) → w_mapS F a0_Rects a0_Cuts a0_Forms a0_Bends b_X b_Y b_W b_H c_X c_Y c_W c_H Q := by
  refine ⟨a0_Bends.length + 1, fun Q hQ => ?_⟩
  obtain ⟨h1, h2, h3, h4⟩ := h
  unfold w_mapS g_mapS_e n_mapS_0
  refine ⟨h1, h2, h3, ?_⟩
  exact lp_mapS _ _ _ _ _ _ a0_Bends _ _ _ h4 _ 0 [] (by omega) rfl (by omega) hQ

theorem lp_mapQ (F : Nat) (x0 : List Bend → Int → Int → List Rect → List Rect → List Rect → List Bend → Prop) (l : List Bend) (p q s : List Rect) (hl : sh l) : ∀ (n i : Nat) (o : List Bend), i ≤ l.length → o.length = i → l.length < i + n →
    x0 l l.length l.length p q s (o ++ (l.drop i).map lQ) → w_mapQ_0 F x0 n l l.length i p q s o := by
  intro n
  induction n with
  | zero => intro i o h1 h2 h3; omega
  | succ n ih =>
    intro i o h1 h2 h3 e
    show g_mapQ_s0 (w_mapQ_0 F x0 n) x0 l l.length i p q s o
    unfold g_mapQ_s0
    by_cases h : i < l.length
    · rw [dec_t (by omega), cond_true, Int.toNat_natCast]
      rw [drop_getD l i h, List.map_cons] at e
      refine ⟨by omega, by unfold sh at hl; simp only [List.length_cons, List.length_nil]; omega, ?_⟩
      rw [w64_succ h (by unfold sh at hl; omega)]
      refine ih _ _ (by omega) (by simp [h2]) (by omega) ?_
      rw [List.append_assoc]
      exact e
    · rw [dec_f (by omega), cond_false]
      have he : i = l.length := by omega
      rw [he, List.drop_length, List.map_nil, List.append_nil] at e
      rw [he]
      exact e
theorem ok_mapQ (a0_Rects : List Rect) (a0_Cuts : List Rect) (a0_Forms : List Rect) (a0_Bends : List Bend) (h : pre_mapQ a0_Rects a0_Cuts a0_Forms a0_Bends) : ∃ F, ∀ Q : List Rect → List Rect → List Rect → List Bend → Prop, Q ((sp_mapQ a0_Rects a0_Cuts a0_Forms a0_Bends).1) ((sp_mapQ a0_Rects a0_Cuts a0_Forms a0_Bends).2.1) ((sp_mapQ a0_Rects a0_Cuts a0_Forms a0_Bends).2.2.1) ((sp_mapQ a0_Rects a0_Cuts a0_Forms a0_Bends).2.2.2) → w_mapQ F a0_Rects a0_Cuts a0_Forms a0_Bends Q := by
  refine ⟨a0_Bends.length + 1, fun Q hQ => ?_⟩
  obtain ⟨h1, h2, h3, h4⟩ := h
  unfold w_mapQ g_mapQ_e n_mapQ_0
  refine ⟨h1, h2, h3, ?_⟩
  exact lp_mapQ _ _ a0_Bends _ _ _ h4 _ 0 [] (by omega) rfl (by omega) hQ

def mL (t x y : Int) (e0 : Bend) : Bend :=
  let r1 := sp_ref03_move_line t x y e0.Line_X1 e0.Line_Y1 e0.Line_X2 e0.Line_Y2
  Bend.mk e0.Flange e0.Parent r1.1 r1.2.1 r1.2.2.1 r1.2.2.2 e0.Angle e0.Deduct
def preL (t x y : Int) (e0 : Bend) : Prop := pre_ref03_move_line t x y e0.Line_X1 e0.Line_Y1 e0.Line_X2 e0.Line_Y2
def pre_ref03_move_flat (t x y : Int) (R C M : List Rect) (B : List Bend) : Prop :=
  pre_ref03_move_rects t x y R ∧ pre_ref03_move_rects t x y C ∧ pre_ref03_move_rects t x y M ∧ sh B ∧ ∀ b ∈ B, preL t x y b
def sp_ref03_move_flat (t x y : Int) (R C M : List Rect) (B : List Bend) : Flat4 := (R.map (mR t x y), C.map (mR t x y), M.map (mR t x y), B.map (mL t x y))
theorem lp_move_flat (F : Nat) (x0 : Int → Int → Int → Int → List Rect → List Rect → List Rect → List Bend → List Rect → List Rect → List Rect → List Bend → Prop) (t x y : Int) (R C M : List Rect) (l : List Bend) (p q s : List Rect) (hl : sh l) (hp : ∀ b ∈ l, preL t x y b) : ∀ (n i : Nat) (o : List Bend), i ≤ l.length → o.length = i → l.length < i + n →
    x0 l.length t x y R C M l p q s (o ++ (l.drop i).map (mL t x y)) → w_ref03_move_flat_0 F x0 n i t x y R C M l p q s o := by
  intro n
  induction n with
  | zero => intro i o h1 h2 h3; omega
  | succ n ih =>
    intro i o h1 h2 h3 e
    show g_ref03_move_flat_s0 (w_ref03_move_flat_0 F x0 n) x0 i t x y R C M l p q s o
    unfold g_ref03_move_flat_s0
    by_cases h : i < l.length
    · rw [dec_t (by omega), cond_true, Int.toNat_natCast]
      rw [drop_getD l i h, List.map_cons] at e
      refine ⟨by omega, hp _ (getD_mem l i h), by unfold sh at hl; simp only [List.length_cons, List.length_nil]; omega, ?_⟩
      rw [w64_succ h (by unfold sh at hl; omega)]
      refine ih _ _ (by omega) (by simp [h2]) (by omega) ?_
      rw [List.append_assoc]
      exact e
    · rw [dec_f (by omega), cond_false]
      have he : i = l.length := by omega
      rw [he, List.drop_length, List.map_nil, List.append_nil] at e
      rw [he]
      exact e
theorem ok_ref03_move_flat (a0_turns : Int) (a0_x : Int) (a0_y : Int) (a1_Rects : List Rect) (a1_Cuts : List Rect) (a1_Forms : List Rect) (a1_Bends : List Bend) (h : pre_ref03_move_flat a0_turns a0_x a0_y a1_Rects a1_Cuts a1_Forms a1_Bends) : ∃ F, ∀ Q : List Rect → List Rect → List Rect → List Bend → Prop, Q ((sp_ref03_move_flat a0_turns a0_x a0_y a1_Rects a1_Cuts a1_Forms a1_Bends).1) ((sp_ref03_move_flat a0_turns a0_x a0_y a1_Rects a1_Cuts a1_Forms a1_Bends).2.1) ((sp_ref03_move_flat a0_turns a0_x a0_y a1_Rects a1_Cuts a1_Forms a1_Bends).2.2.1) ((sp_ref03_move_flat a0_turns a0_x a0_y a1_Rects a1_Cuts a1_Forms a1_Bends).2.2.2) → w_ref03_move_flat F a0_turns a0_x a0_y a1_Rects a1_Cuts a1_Forms a1_Bends Q := by
  refine ⟨a1_Bends.length + 1, fun Q hQ => ?_⟩
  obtain ⟨h1, h2, h3, h4, h5⟩ := h
  unfold w_ref03_move_flat g_ref03_move_flat_e n_ref03_move_flat_0
  refine ⟨h1, h2, h3, ?_⟩
  exact lp_move_flat _ _ _ _ _ _ _ _ a1_Bends _ _ _ h4 h5 _ 0 [] (by omega) rfl (by omega) hQ
end
end Go.Proofs.Ytohecfbnmmgimaa
