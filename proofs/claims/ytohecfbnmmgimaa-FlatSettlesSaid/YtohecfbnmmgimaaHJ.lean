/- Patterns: what the functions on one list of rectangles return. Conditions: none. -/
import Derived.Test.YtohecfbnmmgimaaGJ
import Derived.Test.YtohecfbnmmgimaaHB
namespace Go.Proofs.Ytohecfbnmmgimaa
open Go.Vm Go.RowKit
set_option linter.unusedVariables false
noncomputable section

def sh {α : Type} (l : List α) : Prop := l.length ≤ 1000
def rng (n : Int) : Bool := decide (-1048576 ≤ n) && decide (n ≤ 1048576)
theorem rng_bad (n : Int) : (decide (n < -1048576) || decide (1048576 < n)) = !rng n := by
  unfold rng
  rw [Bool.not_and, ← decide_not, ← decide_not]
  congr 1 <;> exact decide_eq_decide.2 (by omega)

def sp_flat_inRange (a b c d : Int) : Bool := rng a && (rng b && (rng c && rng d))
theorem lp_flat_inRange (F : Nat) (x0 x1 : Bool → Int → Int → List Int → Prop) (t2 : Bool) (l : List Int) (hl : sh l) : ∀ (n i : Nat), i ≤ l.length → l.length < i + n →
    (∀ j, (l.drop i).all rng = false → x0 false l.length j l) → ((l.drop i).all rng = true → x1 t2 l.length l.length l) → w_flat_inRange_0 F x0 x1 n t2 l.length i l := by
  intro n
  induction n with
  | zero => intro i h1 h2; omega
  | succ n ih =>
    intro i h1 h2 e0 e1
    show g_flat_inRange_s0 (w_flat_inRange_0 F x0 x1 n) x0 x1 t2 l.length i l
    unfold g_flat_inRange_s0
    by_cases h : i < l.length
    · rw [dec_t (by omega), cond_true, Int.toNat_natCast, rng_bad]
      rw [drop_getD l i h, List.all_cons] at e0 e1
      refine ⟨by omega, ?_⟩
      cases hr : rng (l.getD i default)
      · rw [hr] at e0
        exact e0 _ rfl
      · rw [hr] at e0 e1
        simp only [Bool.not_true, cond_false]
        rw [w64_succ h (by unfold sh at hl; omega)]
        exact ih _ (by omega) (by omega) e0 e1
    · rw [dec_f (by omega), cond_false]
      have : i = l.length := by omega
      subst this
      exact e1 (by simp)
theorem ok_flat_inRange (a0_X1 : Int) (a0_Y1 : Int) (a0_X2 : Int) (a0_Y2 : Int) : ∃ F, ∀ Q : Bool → Prop, Q (sp_flat_inRange a0_X1 a0_Y1 a0_X2 a0_Y2) → w_flat_inRange F a0_X1 a0_Y1 a0_X2 a0_Y2 Q := by
  refine ⟨5, fun Q h => ?_⟩
  unfold w_flat_inRange g_flat_inRange_e n_flat_inRange_0
  unfold sp_flat_inRange at h
  refine lp_flat_inRange _ _ _ _ [a0_X1, a0_Y1, a0_X2, a0_Y2] (by unfold sh; simp) 5 0 (by simp) (by simp) (fun j e => ?_) (fun e => ?_)
  all_goals
    simp only [List.drop_zero, List.all_cons, List.all_nil, Bool.and_true] at e
    rw [e] at h
    exact h

def vR (r : Rect) : Bool := sp_ref01_ValidRect r.X r.Y r.W r.H
def sp_ref01_CheckRects (l : List Rect) : Int := bif decide (48 < l.length) then 4 else bif l.all vR then 0 else 1
theorem lp_ref01_CheckRects (F : Nat) (x0 x1 : List Rect → Int → Int → Prop) (l : List Rect) (t2 : Int) (hl : sh l) : ∀ (n i : Nat), i ≤ l.length → l.length < i + n →
    (∀ j, (l.drop i).all vR = false → x0 l 1 j) → ((l.drop i).all vR = true → x1 l t2 l.length) → w_ref01_CheckRects_0 F x0 x1 n l t2 i := by
  intro n
  induction n with
  | zero => intro i h1 h2; omega
  | succ n ih =>
    intro i h1 h2 e0 e1
    show g_ref01_CheckRects_s0 (w_ref01_CheckRects_0 F x0 x1 n) x0 x1 l t2 i
    unfold g_ref01_CheckRects_s0
    by_cases h : i < l.length
    · rw [dec_t (by omega), cond_true, Int.toNat_natCast]
      rw [drop_getD l i h, List.all_cons] at e0 e1
      refine ⟨by omega, ?_⟩
      change (cond (!(vR (l.getD i default))) _ _)
      cases hr : vR (l.getD i default)
      · rw [hr] at e0
        exact e0 _ rfl
      · rw [hr] at e0 e1
        simp only [Bool.not_true, cond_false]
        rw [w64_succ h (by unfold sh at hl; omega)]
        exact ih _ (by omega) (by omega) e0 e1
    · rw [dec_f (by omega), cond_false]
      have : i = l.length := by omega
      subst this
      exact e1 (by simp)
theorem ok_ref01_CheckRects (a0 : List Rect) : ∃ F, ∀ Q : Int → Prop, Q (sp_ref01_CheckRects a0) → w_ref01_CheckRects F a0 Q := by
  refine ⟨a0.length + 1, fun Q h => ?_⟩
  unfold w_ref01_CheckRects g_ref01_CheckRects_e n_ref01_CheckRects_0
  unfold sp_ref01_CheckRects at h
  by_cases hl : 48 < a0.length
  · rw [dec_t hl] at h
    rw [dec_t (by omega)]
    exact h
  · rw [dec_f hl] at h
    rw [dec_f (by omega)]
    refine lp_ref01_CheckRects _ _ _ a0 0 (by unfold sh; omega) _ 0 (by omega) (by omega) (fun j e => ?_) (fun e => ?_)
    all_goals
      rw [List.drop_zero] at e
      rw [e] at h
      exact h

/-- The smallest rectangle around a corner, another and more rectangles. -/
def bnd : Int → Int → Int → Int → List Rect → Int × Int × Int × Int
  | a, b, c, d, [] => (a, b, c - a, d - b)
  | a, b, c, d, r :: l => bnd (min a r.X) (min b r.Y) (max c (r.X + r.W)) (max d (r.Y + r.H)) l
def bndL : List Rect → Int × Int × Int × Int
  | [] => (0, 0, 0, 0)
  | r :: l => bnd r.X r.Y (r.X + r.W) (r.Y + r.H) l
def pre_flat_bounds (l : List Rect) : Prop := sh l ∧ l ≠ [] ∧ ∀ r ∈ l, vR r = true
def sp_flat_bounds (l : List Rect) : Int × Int × Int × Int := bndL l
def pre_ref03_bounds (l : List Rect) : Prop := pre_flat_bounds l
def sp_ref03_bounds (l : List Rect) : Int × Int × Int × Int := bndL l

theorem vR_iff (r : Rect) : vR r = true ↔ -1048576 ≤ r.X ∧ r.X ≤ 1048576 ∧ -1048576 ≤ r.Y ∧ r.Y ≤ 1048576 ∧ 1 ≤ r.W ∧ r.W ≤ 2097152 ∧ 1 ≤ r.H ∧ r.H ≤ 2097152 ∧ r.X + r.W ≤ 1048576 ∧ r.Y + r.H ≤ 1048576 := by
  unfold vR sp_ref01_ValidRect sp_ref01_within
  by_cases hx : -1048576 ≤ r.X ∧ r.X ≤ 1048576 ∧ -1048576 ≤ r.Y ∧ r.Y ≤ 1048576 ∧ 1 ≤ r.W ∧ r.W ≤ 2097152 ∧ 1 ≤ r.H ∧ r.H ≤ 2097152
  · obtain ⟨h1, h2, h3, h4, h5, h6, h7, h8⟩ := hx
    rw [w64_of (by omega) (by omega), w64_of (by omega) (by omega)]
    simp [h1, h2, h3, h4, h5, h6, h7, h8]
  · constructor
    · intro h
      exfalso
      apply hx
      revert h
      simp only [cond_eq_ite, Bool.or_eq_true, Bool.not_eq_true', Bool.and_eq_false_iff, decide_eq_false_iff_not]
      split
      · intro h; cases h
      · rename_i h
        intro _
        omega
    · intro h
      exact absurd ⟨h.1, h.2.1, h.2.2.1, h.2.2.2.1, h.2.2.2.2.1, h.2.2.2.2.2.1, h.2.2.2.2.2.2.1, h.2.2.2.2.2.2.2.1⟩ hx

/-- A box in range. -/
def box (a b c d : Int) : Prop := -1048576 ≤ a ∧ a ≤ c ∧ c ≤ 1048576 ∧ -1048576 ≤ b ∧ b ≤ d ∧ d ≤ 1048576
theorem box_next {a b c d : Int} {r : Rect} (h : box a b c d) (hr : vR r = true) : box (min a r.X) (min b r.Y) (max c (r.X + r.W)) (max d (r.Y + r.H)) := by
  have := (vR_iff r).1 hr
  unfold box at *
  omega
theorem mi_min (a b : Int) : mi a b = min a b := by unfold mi; split <;> omega
theorem ma_max (a b : Int) : ma a b = max a b := by unfold ma; split <;> omega

theorem lp_flat_bounds (F : Nat) (x0 : List Rect → Int → Int → Int → Int → Int → Int → Int → Int → Int → Int → Prop) (l : List Rect) (p q s t : Int) (hl : sh l) (hv : ∀ r ∈ l, vR r = true) :
    ∀ (n i : Nat) (a b c d : Int), box a b c d → i ≤ l.length → l.length < i + n →
    x0 l l.length l.length p q s t (bnd a b c d (l.drop i)).1 (bnd a b c d (l.drop i)).2.1 (bnd a b c d (l.drop i)).2.2.1 (bnd a b c d (l.drop i)).2.2.2 → w_flat_bounds_0 F x0 n l l.length i p q s t a b (c - a) (d - b) := by
  intro n
  induction n with
  | zero => intro i a b c d hb h1 h2; omega
  | succ n ih =>
    intro i a b c d hb h1 h2 e
    show g_flat_bounds_s0 (w_flat_bounds_0 F x0 n) x0 l l.length i p q s t a b (c - a) (d - b)
    unfold g_flat_bounds_s0
    by_cases h : i < l.length
    · rw [dec_t (by omega), cond_true, Int.toNat_natCast]
      rw [drop_getD l i h] at e
      have hm : l.getD i default ∈ l := by simp [List.getD, h]
      have hr := hv _ hm
      have hr' := (vR_iff _).1 hr
      have hb' := box_next hb hr
      revert hr' hb' e
      generalize l.getD i default = r
      intro e hr' hb'
      refine ⟨by omega, ?_⟩
      simp only [mi_min, ma_max]
      have hc : a + (c - a) = c := by omega
      have hd : b + (d - b) = d := by omega
      rw [hc, hd]
      unfold box at hb
      rw [w64_of (n := c) (by omega) (by omega), w64_of (n := d) (by omega) (by omega), w64_of (n := r.X + r.W) (by omega) (by omega), w64_of (n := r.Y + r.H) (by omega) (by omega)]
      unfold box at hb'
      rw [w64_of (n := max c (r.X + r.W) - min a r.X) (by omega) (by omega), w64_of (n := max d (r.Y + r.H) - min b r.Y) (by omega) (by omega)]
      rw [w64_succ h (by unfold sh at hl; omega)]
      exact ih _ _ _ _ _ (by unfold box; omega) (by omega) (by omega) e
    · rw [dec_f (by omega), cond_false]
      have : i = l.length := by omega
      subst this
      rw [List.drop_length] at e
      exact e
theorem vR_box {r : Rect} (h : vR r = true) : box r.X r.Y (r.X + r.W) (r.Y + r.H) := by
  have := (vR_iff r).1 h
  unfold box
  omega
theorem ok_flat_bounds (a0 : List Rect) (h : pre_flat_bounds a0) : ∃ F, ∀ Q : Int → Int → Int → Int → Prop, Q ((sp_flat_bounds a0).1) ((sp_flat_bounds a0).2.1) ((sp_flat_bounds a0).2.2.1) ((sp_flat_bounds a0).2.2.2) → w_flat_bounds F a0 Q := by
  refine ⟨a0.length + 1, fun Q hQ => ?_⟩
  obtain ⟨hs, hn, hv⟩ := h
  cases a0 with
  | nil => exact absurd rfl hn
  | cons r l =>
    unfold w_flat_bounds g_flat_bounds_e n_flat_bounds_0
    refine ⟨⟨by omega, by simp only [List.length_cons]; omega⟩, ⟨by omega, by simp only [List.length_cons]; omega⟩, ?_⟩
    have hr := hv r (List.mem_cons_self ..)
    have := lp_flat_bounds ((r :: l).length + 1) (fun t12 t13 t14 c2_0 c2_1 c2_2 c2_3 c3_0 c3_1 c3_2 c3_3 => g_flat_bounds_c0_0 Q t12 t13 t14 c2_0 c2_1 c2_2 c2_3 c3_0 c3_1 c3_2 c3_3) l 0 0 0 0 (by unfold sh at *; simp only [List.length_cons] at hs; omega) (fun x hx => hv x (List.mem_cons_of_mem _ hx)) ((r :: l).length + 1) 0 r.X r.Y (r.X + r.W) (r.Y + r.H) (vR_box hr) (by omega) (by simp only [List.length_cons]; omega) (by rw [List.drop_zero]; exact hQ)
    have e1 : r.X + r.W - r.X = r.W := by omega
    have e2 : r.Y + r.H - r.Y = r.H := by omega
    rw [e1, e2] at this
    exact this

theorem lp_ref03_bounds (F : Nat) (x0 : List Rect → Int → Int → Int → Int → Int → Int → Int → Int → Int → Prop) (l : List Rect) (p q s t : Int) (hl : sh l) (hv : ∀ r ∈ l, vR r = true) :
    ∀ (n i : Nat) (a b c d : Int), i ≤ l.length → l.length < i + n →
    (∀ a' b' c' d', bnd a b c d (l.drop i) = (a', b', c' - a', d' - b') → box a' b' c' d' → x0 l a' b' c' d' l.length p q s t) → box a b c d → w_ref03_bounds_0 F x0 n l a b c d i p q s t := by
  intro n
  induction n with
  | zero => intro i a b c d h1 h2; omega
  | succ n ih =>
    intro i a b c d h1 h2 e hb
    show g_ref03_bounds_s0 (w_ref03_bounds_0 F x0 n) x0 l a b c d i p q s t
    unfold g_ref03_bounds_s0
    by_cases h : i < l.length
    · rw [dec_t (by omega), cond_true, Int.toNat_natCast]
      rw [drop_getD l i h] at e
      have hm : l.getD i default ∈ l := by simp [List.getD, h]
      have hr := hv _ hm
      have hr' := (vR_iff _).1 hr
      have hb' := box_next hb hr
      revert hr' hb' e
      generalize l.getD i default = r
      intro e hr' hb'
      refine ⟨by omega, ?_⟩
      rw [w64_of (n := r.X + r.W) (by omega) (by omega), w64_of (n := r.Y + r.H) (by omega) (by omega)]
      rw [w64_succ h (by unfold sh at hl; omega)]
      have key := ih (i + 1) (min a r.X) (min b r.Y) (max c (r.X + r.W)) (max d (r.Y + r.H)) (by omega) (by omega) e hb'
      by_cases k1 : r.X < a <;> by_cases k2 : r.Y < b <;> by_cases k3 : c < r.X + r.W <;> by_cases k4 : d < r.Y + r.H
      all_goals
        simp only [k1, k2, k3, k4, decide_true, decide_false, cond_true, cond_false]
        first
          | rw [show min a r.X = r.X by omega] at key
          | rw [show min a r.X = a by omega] at key
        first
          | rw [show min b r.Y = r.Y by omega] at key
          | rw [show min b r.Y = b by omega] at key
        first
          | rw [show max c (r.X + r.W) = r.X + r.W by omega] at key
          | rw [show max c (r.X + r.W) = c by omega] at key
        first
          | rw [show max d (r.Y + r.H) = r.Y + r.H by omega] at key
          | rw [show max d (r.Y + r.H) = d by omega] at key
        exact key
    · rw [dec_f (by omega), cond_false]
      have : i = l.length := by omega
      subst this
      rw [List.drop_length] at e
      exact e a b c d rfl hb
theorem ok_ref03_bounds (a0 : List Rect) (h : pre_ref03_bounds a0) : ∃ F, ∀ Q : Int → Int → Int → Int → Prop, Q ((sp_ref03_bounds a0).1) ((sp_ref03_bounds a0).2.1) ((sp_ref03_bounds a0).2.2.1) ((sp_ref03_bounds a0).2.2.2) → w_ref03_bounds F a0 Q := by
  refine ⟨a0.length + 1, fun Q hQ => ?_⟩
  obtain ⟨hs, hn, hv⟩ := h
  cases a0 with
  | nil => exact absurd rfl hn
  | cons r l =>
    unfold w_ref03_bounds g_ref03_bounds_e n_ref03_bounds_0
    have hr := hv r (List.mem_cons_self ..)
    have hr' := (vR_iff _).1 hr
    have h0 : (0 : Int) ≤ 0 ∧ (0 : Int) < (r :: l).length := ⟨by omega, by simp only [List.length_cons]; omega⟩
    refine ⟨h0, h0, h0, h0, h0, h0, ?_⟩
    show w_ref03_bounds_0 _ _ _ _ r.X r.Y (w64 (r.X + r.W)) (w64 (r.Y + r.H)) 1 0 0 0 0
    rw [w64_of (n := r.X + r.W) (by omega) (by omega), w64_of (n := r.Y + r.H) (by omega) (by omega)]
    refine lp_ref03_bounds _ _ (r :: l) 0 0 0 0 hs hv _ 1 _ _ _ _ (by simp) (by omega) (fun a' b' c' d' e hb => ?_) (vR_box hr)
    show Q a' b' (w64 (c' - a')) (w64 (d' - b'))
    unfold box at hb
    rw [w64_of (n := c' - a') (by omega) (by omega), w64_of (n := d' - b') (by omega) (by omega)]
    have : sp_ref03_bounds (r :: l) = (a', b', c' - a', d' - b') := e
    rw [this] at hQ
    exact hQ

def pre_ref01_CopyRects (l : List Rect) : Prop := sh l
def sp_ref01_CopyRects (l : List Rect) : List Rect := l
theorem lp_ref01_CopyRects (F : Nat) (x0 : List Rect → Int → List Rect → Prop) (l : List Rect) (hl : sh l) : ∀ (n i : Nat) (o : List Rect), i ≤ l.length → o.length = i → l.length < i + n →
    x0 l l.length (o ++ l.drop i) → w_ref01_CopyRects_0 F x0 n l i o := by
  intro n
  induction n with
  | zero => intro i o h1 h2 h3; omega
  | succ n ih =>
    intro i o h1 h2 h3 e
    show g_ref01_CopyRects_s0 (w_ref01_CopyRects_0 F x0 n) x0 l i o
    unfold g_ref01_CopyRects_s0
    by_cases h : i < l.length
    · rw [dec_t (by omega), cond_true, Int.toNat_natCast]
      rw [drop_getD l i h] at e
      refine ⟨⟨by omega, by unfold sh at hl; simp only [List.length_cons, List.length_nil]; omega⟩, ?_⟩
      rw [w64_succ h (by unfold sh at hl; omega)]
      refine ih _ _ (by omega) (by simp [h2]) (by omega) ?_
      rw [List.append_assoc]
      exact e
    · rw [dec_f (by omega), cond_false]
      have he : i = l.length := by omega
      rw [he, List.drop_length, List.append_nil] at e
      rw [he]
      exact e
theorem ok_ref01_CopyRects (a0 : List Rect) (h : pre_ref01_CopyRects a0) : ∃ F, ∀ Q : List Rect → Prop, Q (sp_ref01_CopyRects a0) → w_ref01_CopyRects F a0 Q := by
  refine ⟨a0.length + 1, fun Q hQ => ?_⟩
  unfold w_ref01_CopyRects g_ref01_CopyRects_e n_ref01_CopyRects_0
  exact lp_ref01_CopyRects _ _ a0 h _ 0 [] (by omega) rfl (by omega) hQ

def zipAll {α : Type} (f : α → α → Bool) : List α → List α → Bool
  | [], [] => true
  | x :: l, y :: m => f x y && zipAll f l m
  | _, _ => false
theorem zipAll_len {α : Type} (f : α → α → Bool) : ∀ (l m : List α), l.length ≠ m.length → zipAll f l m = false
  | [], [], h => absurd rfl h
  | [], _ :: _, _ => rfl
  | _ :: _, [], _ => rfl
  | x :: l, y :: m, h => by
    rw [zipAll, zipAll_len f l m (fun e => h (by simp [e])), Bool.and_false]
theorem zipAll_refl {α : Type} (f : α → α → Bool) (hf : ∀ x, f x x = true) : ∀ (l : List α), zipAll f l l = true
  | [] => rfl
  | x :: l => by rw [zipAll, hf, zipAll_refl f hf l]; rfl
def eqR (x y : Rect) : Bool := (x.X == y.X) && ((x.Y == y.Y) && ((x.W == y.W) && ((x.H == y.H) && true)))
def pre_ref01_SameRects (a b : List Rect) : Prop := sh a
def sp_ref01_SameRects (a b : List Rect) : Bool := zipAll eqR a b
theorem lp_ref01_SameRects (F : Nat) (x0 x1 : List Rect → List Rect → Bool → Int → Prop) (l m : List Rect) (t4 : Bool) (hl : sh l) (hm : l.length = m.length) : ∀ (n i : Nat), i ≤ l.length → l.length < i + n →
    (∀ j, zipAll eqR (l.drop i) (m.drop i) = false → x0 l m false j) → (zipAll eqR (l.drop i) (m.drop i) = true → x1 l m t4 l.length) → w_ref01_SameRects_0 F x0 x1 n l m t4 i := by
  intro n
  induction n with
  | zero => intro i h1 h2; omega
  | succ n ih =>
    intro i h1 h2 e0 e1
    show g_ref01_SameRects_s0 (w_ref01_SameRects_0 F x0 x1 n) x0 x1 l m t4 i
    unfold g_ref01_SameRects_s0
    by_cases h : i < l.length
    · rw [dec_t (by omega), cond_true, Int.toNat_natCast]
      rw [drop_getD l i h, drop_getD m i (by omega), zipAll] at e0 e1
      refine ⟨by omega, by omega, ?_⟩
      change (cond (!(eqR (l.getD i default) (m.getD i default))) _ _)
      cases hr : eqR (l.getD i default) (m.getD i default)
      · rw [hr] at e0
        exact e0 _ rfl
      · rw [hr] at e0 e1
        simp only [Bool.not_true, cond_false]
        rw [w64_succ h (by unfold sh at hl; omega)]
        exact ih _ (by omega) (by omega) e0 e1
    · rw [dec_f (by omega), cond_false]
      have : i = l.length := by omega
      rw [this] at e1 ⊢
      refine e1 ?_
      rw [List.drop_length, hm, List.drop_length]
      rfl
theorem ok_ref01_SameRects (a0 : List Rect) (a1 : List Rect) (h : pre_ref01_SameRects a0 a1) : ∃ F, ∀ Q : Bool → Prop, Q (sp_ref01_SameRects a0 a1) → w_ref01_SameRects F a0 a1 Q := by
  refine ⟨a0.length + 1, fun Q hQ => ?_⟩
  unfold w_ref01_SameRects g_ref01_SameRects_e n_ref01_SameRects_0
  unfold sp_ref01_SameRects at hQ
  by_cases hl : a0.length = a1.length
  · rw [show ((a0.length : Int) != (a1.length : Int)) = false by simp [hl], cond_false]
    refine lp_ref01_SameRects _ _ _ a0 a1 false h hl _ 0 (by omega) (by omega) (fun j e => ?_) (fun e => ?_)
    all_goals
      rw [List.drop_zero, List.drop_zero] at e
      rw [e] at hQ
      exact hQ
  · rw [show ((a0.length : Int) != (a1.length : Int)) = true by simp; omega, cond_true]
    rw [zipAll_len _ _ _ hl] at hQ
    exact hQ
end
end Go.Proofs.Ytohecfbnmmgimaa
