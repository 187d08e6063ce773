/- Patterns: what the functions with a map over one list return. Conditions: none. -/
import Derived.Test.YtohecfbnmmgimaaGK
namespace Go.Proofs.Ytohecfbnmmgimaa
open Go.Vm Go.RowKit
set_option linter.unusedVariables false
noncomputable section

def mS (a b c d : Int) (r : Rect) : Rect :=
  let x := sp_flat_settled_1 r.X r.Y r.W r.H a b c d
  Rect.mk x.1 x.2.1 x.2.2.1 x.2.2.2
def mQ (r : Rect) : Rect :=
  let x := sp_flat_quarter_1 r.X r.Y r.W r.H
  Rect.mk x.1 x.2.1 x.2.2.1 x.2.2.2
def pre_allS (l : List Rect) (a b c d : Int) : Prop := sh l
def sp_allS (l : List Rect) (a b c d : Int) : List Rect := l.map (mS a b c d)
def pre_allQ (l : List Rect) : Prop := sh l
def sp_allQ (l : List Rect) : List Rect := l.map mQ

theorem lp_allS (F : Nat) (x0 : Int → Int → Int → Int → List Rect → Int → Int → List Rect → Prop) (a b c d : Int) (l : List Rect) (hl : sh l) : ∀ (n i : Nat) (o : List Rect), i ≤ l.length → o.length = i → l.length < i + n →
    x0 a b c d l l.length l.length (o ++ (l.drop i).map (mS a b c d)) → w_allS_0 F x0 n a b c d l l.length i o := by
  intro n
  induction n with
  | zero => intro i o h1 h2 h3; omega
  | succ n ih =>
    intro i o h1 h2 h3 e
    show g_allS_s0 (w_allS_0 F x0 n) x0 a b c d l l.length i o
    unfold g_allS_s0
    by_cases h : i < l.length
    · rw [dec_t (by omega), cond_true, Int.toNat_natCast]
      rw [drop_getD l i h, List.map_cons] at e
      refine ⟨by omega, by unfold sh at hl; simp only [List.length_cons, List.length_nil]; omega, ?_⟩
      rw [w64_succ h (by unfold sh at hl; omega)]
      refine ih _ _ (by omega) (by simp [h2]) (by omega) ?_
      rw [List.append_assoc]
      exact e
    · rw [dec_f (by omega), cond_false]
      have he : i = l.length := by omega
      rw [he, List.drop_length, List.map_nil, List.append_nil] at e
      rw [he]
      exact e
theorem ok_allS (a0 : List Rect) (b_X : Int) (b_Y : Int) (b_W : Int) (b_H : Int) (h : pre_allS a0 b_X b_Y b_W b_H) : ∃ F, ∀ Q : List Rect → Prop, Q (sp_allS a0 b_X b_Y b_W b_H) → w_allS F a0 b_X b_Y b_W b_H Q := by
  refine ⟨a0.length + 1, fun Q hQ => ?_⟩
  unfold w_allS g_allS_e n_allS_0
  exact lp_allS _ _ b_X b_Y b_W b_H a0 h _ 0 [] (by omega) rfl (by omega) hQ

theorem lp_allQ (F : Nat) (x0 : List Rect → Int → Int → List Rect → Prop) (l : List Rect) (hl : sh l) : ∀ (n i : Nat) (o : List Rect), i ≤ l.length → o.length = i → l.length < i + n →
    x0 l l.length l.length (o ++ (l.drop i).map mQ) → w_allQ_0 F x0 n l l.length i o := by
  intro n
  induction n with
  | zero => intro i o h1 h2 h3; omega
  | succ n ih =>
    intro i o h1 h2 h3 e
    show g_allQ_s0 (w_allQ_0 F x0 n) x0 l l.length i o
    unfold g_allQ_s0
    by_cases h : i < l.length
    · rw [dec_t (by omega), cond_true, Int.toNat_natCast]
      rw [drop_getD l i h, List.map_cons] at e
      refine ⟨by omega, by unfold sh at hl; simp only [List.length_cons, List.length_nil]; omega, ?_⟩
      rw [w64_succ h (by unfold sh at hl; omega)]
      refine ih _ _ (by omega) (by simp [h2]) (by omega) ?_
      rw [List.append_assoc]
      exact e
    · rw [dec_f (by omega), cond_false]
      have he : i = l.length := by omega
      rw [he, List.drop_length, List.map_nil, List.append_nil] at e
      rw [he]
      exact e
theorem ok_allQ (a0 : List Rect) (h : pre_allQ a0) : ∃ F, ∀ Q : List Rect → Prop, Q (sp_allQ a0) → w_allQ F a0 Q := by
  refine ⟨a0.length + 1, fun Q hQ => ?_⟩
  unfold w_allQ g_allQ_e n_allQ_0
  exact lp_allQ _ _ a0 h _ 0 [] (by omega) rfl (by omega) hQ

/-- A point, turned. -/
def rot : Nat → Int → Int → Int × Int
  | 0, x, y => (x, y)
  | n + 1, x, y => rot n (-y) x
def big (n : Int) : Prop := -4194304 ≤ n ∧ n ≤ 4194304
def pre_ref03_move_point (t x y a b : Int) : Prop := 0 ≤ t ∧ t ≤ 3 ∧ big x ∧ big y ∧ big a ∧ big b
def sp_ref03_move_point (t x y a b : Int) : Int × Int := ((rot t.toNat a b).1 + x, (rot t.toNat a b).2 + y)
theorem rot_big : ∀ (n : Nat) (x y : Int), big x → big y → big (rot n x y).1 ∧ big (rot n x y).2
  | 0, _, _, hx, hy => ⟨hx, hy⟩
  | n + 1, x, y, hx, hy => rot_big n (-y) x (by unfold big at *; omega) hx
theorem lp_point (F : Nat) (x0 : Int → Int → Int → Int → Int → Int → Prop) (t : Nat) (ht : t ≤ 3) (u v : Int) : ∀ (n i : Nat) (a b : Int), i ≤ t → t < i + n → big a → big b →
    x0 (rot (t - i) a b).1 (rot (t - i) a b).2 t t u v → w_ref03_move_point_0 F x0 n a b i t u v := by
  intro n
  induction n with
  | zero => intro i a b h1 h2; omega
  | succ n ih =>
    intro i a b h1 h2 ha hb e
    show g_ref03_move_point_s0 (w_ref03_move_point_0 F x0 n) x0 a b i t u v
    unfold g_ref03_move_point_s0
    by_cases h : i < t
    · rw [dec_t (by omega), cond_true]
      rw [w64_succ h (by omega), w64_of (n := 0 - b) (by unfold big at hb; omega) (by unfold big at hb; omega)]
      rw [show (0 : Int) - b = -b by omega]
      refine ih _ _ _ (by omega) (by omega) (by unfold big at *; omega) ha ?_
      rw [show t - i = (t - (i + 1)) + 1 by omega] at e
      exact e
    · rw [dec_f (by omega), cond_false]
      have he : i = t := by omega
      rw [he] at e ⊢
      rw [Nat.sub_self] at e
      exact e
theorem ok_ref03_move_point (a0_turns : Int) (a0_x : Int) (a0_y : Int) (a1 : Int) (a2 : Int) (h : pre_ref03_move_point a0_turns a0_x a0_y a1 a2) : ∃ F, ∀ Q : Int → Int → Prop, Q ((sp_ref03_move_point a0_turns a0_x a0_y a1 a2).1) ((sp_ref03_move_point a0_turns a0_x a0_y a1 a2).2) → w_ref03_move_point F a0_turns a0_x a0_y a1 a2 Q := by
  refine ⟨4, fun Q hQ => ?_⟩
  obtain ⟨h1, h2, h3, h4, h5, h6⟩ := h
  obtain ⟨t, rfl⟩ : ∃ t : Nat, a0_turns = t := ⟨a0_turns.toNat, by omega⟩
  unfold w_ref03_move_point g_ref03_move_point_e n_ref03_move_point_0
  unfold sp_ref03_move_point at hQ
  rw [Int.toNat_natCast] at hQ
  refine lp_point _ _ t (by omega) _ _ _ 0 _ _ (by omega) (by omega) h5 h6 ?_
  rw [Nat.sub_zero]
  have := rot_big t _ _ h5 h6
  show Q (w64 _) (w64 _)
  unfold big at *
  rw [w64_of (n := (rot t a1 a2).1 + a0_x) (by omega) (by omega), w64_of (n := (rot t a1 a2).2 + a0_y) (by omega) (by omega)]
  exact hQ
end
end Go.Proofs.Ytohecfbnmmgimaa
