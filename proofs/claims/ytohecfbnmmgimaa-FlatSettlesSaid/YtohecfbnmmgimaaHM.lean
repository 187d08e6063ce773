/- Patterns: what the functions on a whole pattern return. Conditions: none. -/
import Derived.Test.YtohecfbnmmgimaaGM
namespace Go.Proofs.Ytohecfbnmmgimaa
open Go.Vm Go.RowKit
set_option linter.unusedVariables false
noncomputable section

def vG (r : Rect) : Bool := sp_geom_ValidRect r.X r.Y r.W r.H
theorem vG_vR (r : Rect) : vG r = vR r := by
  rw [Bool.eq_iff_iff, vR_iff]
  unfold vG sp_geom_ValidRect sp_geom_ValidRect_1 sp_geom_within
  rw [w64_of (n := 0 - 1048576) (by omega) (by omega)]
  simp only [Bool.and_eq_true, decide_eq_true_eq]
  constructor
  · intro h
    have e1 : w64 (r.X + r.W) = r.X + r.W := w64_of (by omega) (by omega)
    have e2 : w64 (r.Y + r.H) = r.Y + r.H := w64_of (by omega) (by omega)
    omega
  · intro h
    have e1 : w64 (r.X + r.W) = r.X + r.W := w64_of (by omega) (by omega)
    have e2 : w64 (r.Y + r.H) = r.Y + r.H := w64_of (by omega) (by omega)
    omega
def lineOK (b : Bend) : Bool := sp_flat_inRange b.Line_X1 b.Line_Y1 b.Line_X2 b.Line_Y2
theorem lineIn_eq (b : Bend) : sp_ref03_lineIn b.Line_X1 b.Line_Y1 b.Line_X2 b.Line_Y2 = lineOK b := by
  unfold sp_ref03_lineIn lineOK sp_flat_inRange rng sp_ref03_within
  simp only [Bool.and_assoc]
def okL (l : List Rect) : Bool := decide (l.length ≤ 48) && l.all vR
def wholeB (R C M : List Rect) (B : List Bend) : Bool := decide (R.length ≠ 0) && (okL R && (okL C && okL M)) && B.all lineOK
def pre_flat_check (R C M : List Rect) (B : List Bend) : Prop := sh B
def sp_flat_check (R C M : List Rect) (B : List Bend) : Int := bif wholeB R C M B then 0 else 1
def pre_ref03_Whole (R C M : List Rect) (B : List Bend) : Prop := sh B
def sp_ref03_Whole (R C M : List Rect) (B : List Bend) : Bool := wholeB R C M B

theorem lp_check1 (F : Nat) (x0 x1 : Int → Int → Int → List Rect → Int → Int → List Rect → List Rect → List Rect → List Bend → List (List Rect) → Prop) (t2 t20 t21 : Int) (l : List Rect) (R C M : List Rect) (B : List Bend) (L : List (List Rect)) (hl : sh l) : ∀ (n i : Nat), i ≤ l.length → l.length < i + n →
    (∀ j, (l.drop i).all vR = false → x0 1 t20 t21 l l.length j R C M B L) → ((l.drop i).all vR = true → x1 t2 t20 t21 l l.length l.length R C M B L) → w_flat_check_1 F x0 x1 n t2 t20 t21 l l.length i R C M B L := by
  intro n
  induction n with
  | zero => intro i h1 h2; omega
  | succ n ih =>
    intro i h1 h2 e0 e1
    show g_flat_check_s1 (w_flat_check_1 F x0 x1 n) x0 x1 t2 t20 t21 l l.length i R C M B L
    unfold g_flat_check_s1
    by_cases h : i < l.length
    · rw [dec_t (by omega), cond_true, Int.toNat_natCast]
      rw [drop_getD l i h, List.all_cons] at e0 e1
      refine ⟨by omega, ?_⟩
      change (cond (!(vG (l.getD i default))) _ _)
      rw [vG_vR]
      cases hr : vR (l.getD i default)
      · rw [hr] at e0
        exact e0 _ rfl
      · rw [hr] at e0 e1
        simp only [Bool.not_true, cond_false]
        rw [w64_succ h (by unfold sh at hl; omega)]
        exact ih _ (by omega) (by omega) e0 e1
    · rw [dec_f (by omega), cond_false]
      have he : i = l.length := by omega
      rw [he] at e1 ⊢
      exact e1 (by simp)
theorem lp_check2 (F : Nat) (x0 x1 : Int → List Bend → Int → Int → Prop) (t2 : Int) (l : List Bend) (hl : sh l) : ∀ (n i : Nat), i ≤ l.length → l.length < i + n →
    (∀ j, (l.drop i).all lineOK = false → x0 1 l l.length j) → ((l.drop i).all lineOK = true → x1 t2 l l.length l.length) → w_flat_check_2 F x0 x1 n t2 l l.length i := by
  intro n
  induction n with
  | zero => intro i h1 h2; omega
  | succ n ih =>
    intro i h1 h2 e0 e1
    show g_flat_check_s2 (w_flat_check_2 F x0 x1 n) x0 x1 t2 l l.length i
    unfold g_flat_check_s2
    by_cases h : i < l.length
    · rw [dec_t (by omega), cond_true, Int.toNat_natCast]
      rw [drop_getD l i h, List.all_cons] at e0 e1
      refine ⟨by omega, ?_⟩
      change (cond (!(lineOK (l.getD i default))) _ _)
      cases hr : lineOK (l.getD i default)
      · rw [hr] at e0
        exact e0 _ rfl
      · rw [hr] at e0 e1
        simp only [Bool.not_true, cond_false]
        rw [w64_succ h (by unfold sh at hl; omega)]
        exact ih _ (by omega) (by omega) e0 e1
    · rw [dec_f (by omega), cond_false]
      have he : i = l.length := by omega
      rw [he] at e1 ⊢
      exact e1 (by simp)
theorem lp_check0 (F : Nat) (hF : 1000 < F) (x0 x1 : Int → Int → Int → List Rect → List Rect → List Rect → List Bend → List (List Rect) → Prop) (t2 : Int) (R C M : List Rect) (B : List Bend) (L : List (List Rect)) (hL : sh L) : ∀ (n i : Nat), i ≤ L.length → L.length < i + n →
    (∀ j, (L.drop i).all okL = false → x0 1 L.length j R C M B L) → ((L.drop i).all okL = true → x1 t2 L.length L.length R C M B L) → w_flat_check_0 F x0 x1 n t2 L.length i R C M B L := by
  intro n
  induction n with
  | zero => intro i h1 h2; omega
  | succ n ih =>
    intro i h1 h2 e0 e1
    show g_flat_check_s0 (w_flat_check_0 F x0 x1 n) x0 x1 t2 L.length i R C M B L (n_flat_check_1 F (w_flat_check_0 F x0 x1 n) x0 x1)
    unfold g_flat_check_s0
    by_cases h : i < L.length
    · rw [dec_t (by omega), cond_true, Int.toNat_natCast]
      rw [drop_getD L i h, List.all_cons] at e0 e1
      refine ⟨by omega, ?_⟩
      revert e0 e1
      generalize L.getD i default = l
      intro e0 e1
      by_cases h48 : 48 < l.length
      · rw [dec_t (by omega), cond_true]
        refine e0 _ ?_
        unfold okL
        rw [dec_f (by omega)]
        rfl
      · rw [dec_f (by omega), cond_false]
        have hok : okL l = l.all vR := by unfold okL; rw [dec_t (by omega)]; rfl
        rw [hok] at e0 e1
        refine lp_check1 F _ _ t2 _ _ l R C M B L (by unfold sh; omega) F 0 (by omega) (by omega) (fun j e => ?_) (fun e => ?_)
        · rw [List.drop_zero] at e
          rw [e] at e0
          exact e0 _ rfl
        · rw [List.drop_zero] at e
          rw [e] at e0 e1
          show w_flat_check_0 F x0 x1 n t2 _ (w64 _) R C M B L
          rw [w64_succ h (by unfold sh at hL; omega)]
          exact ih _ (by omega) (by omega) e0 e1
    · rw [dec_f (by omega), cond_false]
      have he : i = L.length := by omega
      rw [he] at e1 ⊢
      exact e1 (by simp)
theorem ok_flat_check (a0_Rects : List Rect) (a0_Cuts : List Rect) (a0_Forms : List Rect) (a0_Bends : List Bend) (h : pre_flat_check a0_Rects a0_Cuts a0_Forms a0_Bends) : ∃ F, ∀ Q : Int → Prop, Q (sp_flat_check a0_Rects a0_Cuts a0_Forms a0_Bends) → w_flat_check F a0_Rects a0_Cuts a0_Forms a0_Bends Q := by
  refine ⟨1001, fun Q hQ => ?_⟩
  unfold w_flat_check g_flat_check_e n_flat_check_0
  unfold sp_flat_check wholeB at hQ
  by_cases h0 : a0_Rects.length = 0
  · rw [show ((a0_Rects.length : Int) == 0) = true by simp [h0], cond_true]
    rw [dec_f (by simpa using h0)] at hQ
    exact hQ
  · rw [show ((a0_Rects.length : Int) == 0) = false from beq_eq_false_iff_ne.2 (by omega), cond_false]
    rw [dec_t (by simpa using h0), Bool.true_and] at hQ
    refine lp_check0 1001 (by omega) _ _ 0 _ _ _ _ [a0_Rects, a0_Cuts, a0_Forms] (by unfold sh; simp) 1001 0 (by simp) (by simp) (fun j e => ?_) (fun e => ?_)
    · simp only [List.drop_zero, List.all_cons, List.all_nil, Bool.and_true] at e
      rw [e] at hQ
      exact hQ
    · simp only [List.drop_zero, List.all_cons, List.all_nil, Bool.and_true] at e
      rw [e, Bool.true_and] at hQ
      refine lp_check2 _ _ _ 0 a0_Bends h 1001 0 (by omega) (by unfold pre_flat_check sh at h; omega) (fun j e => ?_) (fun e => ?_)
      all_goals
        rw [List.drop_zero] at e
        rw [e] at hQ
        exact hQ

theorem lp_Whole (F : Nat) (x0 x1 : Bool → Int → List Rect → List Rect → List Rect → List Bend → Prop) (t2 : Bool) (R C M : List Rect) (l : List Bend) (hl : sh l) : ∀ (n i : Nat), i ≤ l.length → l.length < i + n →
    (∀ j, (l.drop i).all lineOK = false → x0 false j R C M l) → ((l.drop i).all lineOK = true → x1 t2 l.length R C M l) → w_ref03_Whole_0 F x0 x1 n t2 i R C M l := by
  intro n
  induction n with
  | zero => intro i h1 h2; omega
  | succ n ih =>
    intro i h1 h2 e0 e1
    show g_ref03_Whole_s0 (w_ref03_Whole_0 F x0 x1 n) x0 x1 t2 i R C M l
    unfold g_ref03_Whole_s0
    by_cases h : i < l.length
    · rw [dec_t (by omega), cond_true, Int.toNat_natCast]
      rw [drop_getD l i h, List.all_cons] at e0 e1
      refine ⟨by omega, ?_⟩
      rw [lineIn_eq]
      cases hr : lineOK (l.getD i default)
      · rw [hr] at e0
        exact e0 _ rfl
      · rw [hr] at e0 e1
        simp only [Bool.not_true, cond_false]
        rw [w64_succ h (by unfold sh at hl; omega)]
        exact ih _ (by omega) (by omega) e0 e1
    · rw [dec_f (by omega), cond_false]
      have he : i = l.length := by omega
      rw [he] at e1 ⊢
      exact e1 (by simp)
theorem rectsIn_eq (l : List Rect) : sp_ref03_rectsIn l = okL l := by
  unfold sp_ref03_rectsIn sp_ref01_CheckRects okL
  by_cases h : 48 < l.length
  · rw [dec_t h, dec_f (by omega : ¬ l.length ≤ 48)]
    rfl
  · rw [dec_f h, dec_t (by omega : l.length ≤ 48)]
    cases l.all vR <;> rfl
theorem ok_ref03_Whole (a0_Rects : List Rect) (a0_Cuts : List Rect) (a0_Forms : List Rect) (a0_Bends : List Bend) (h : pre_ref03_Whole a0_Rects a0_Cuts a0_Forms a0_Bends) : ∃ F, ∀ Q : Bool → Prop, Q (sp_ref03_Whole a0_Rects a0_Cuts a0_Forms a0_Bends) → w_ref03_Whole F a0_Rects a0_Cuts a0_Forms a0_Bends Q := by
  refine ⟨1001, fun Q hQ => ?_⟩
  unfold w_ref03_Whole g_ref03_Whole_e n_ref03_Whole_0
  unfold sp_ref03_Whole wholeB at hQ
  rw [rectsIn_eq, rectsIn_eq, rectsIn_eq]
  have e0 : ((((((a0_Rects.length : Int) == 0) || (!(okL a0_Rects))) || (!(okL a0_Cuts))) || (!(okL a0_Forms)))) = !(decide (a0_Rects.length ≠ 0) && (okL a0_Rects && (okL a0_Cuts && okL a0_Forms))) := by
    have : ((a0_Rects.length : Int) == 0) = !decide (a0_Rects.length ≠ 0) := by
      by_cases h0 : a0_Rects.length = 0
      · rw [show ((a0_Rects.length : Int) == 0) = true by simp [h0], dec_f (by simpa using h0)]
        rfl
      · rw [show ((a0_Rects.length : Int) == 0) = false from beq_eq_false_iff_ne.2 (by omega), dec_t (by simpa using h0)]
        rfl
    rw [this]
    simp only [Bool.not_and, Bool.or_assoc]
  rw [e0]
  cases hw : (decide (a0_Rects.length ≠ 0) && (okL a0_Rects && (okL a0_Cuts && okL a0_Forms)))
  · rw [hw] at hQ
    exact hQ
  · rw [hw, Bool.true_and] at hQ
    refine lp_Whole _ _ _ false _ _ _ a0_Bends h 1001 0 (by omega) (by unfold pre_ref03_Whole sh at h; omega) (fun j e => ?_) (fun e => ?_)
    all_goals
      rw [List.drop_zero] at e
      rw [e] at hQ
      exact hQ

def mR (t x y : Int) (r : Rect) : Rect :=
  let z := sp_ref03_move_rect t x y r.X r.Y r.W r.H
  Rect.mk z.1 z.2.1 z.2.2.1 z.2.2.2
def preR (t x y : Int) (r : Rect) : Prop := pre_ref03_move_rect t x y r.X r.Y r.W r.H
def pre_ref03_move_rects (t x y : Int) (l : List Rect) : Prop := sh l ∧ ∀ r ∈ l, preR t x y r
def sp_ref03_move_rects (t x y : Int) (l : List Rect) : List Rect := l.map (mR t x y)
theorem getD_mem {α : Type} [Inhabited α] (l : List α) (i : Nat) (h : i < l.length) : l.getD i default ∈ l := by simp [List.getD, h]
theorem lp_move_rects (F : Nat) (x0 : List Rect → Int → Int → Int → Int → List Rect → Prop) (t x y : Int) (l : List Rect) (hl : sh l) (hp : ∀ r ∈ l, preR t x y r) : ∀ (n i : Nat) (o : List Rect), i ≤ l.length → o.length = i → l.length < i + n →
    x0 l l.length t x y (o ++ (l.drop i).map (mR t x y)) → w_ref03_move_rects_0 F x0 n l i t x y o := by
  intro n
  induction n with
  | zero => intro i o h1 h2 h3; omega
  | succ n ih =>
    intro i o h1 h2 h3 e
    show g_ref03_move_rects_s0 (w_ref03_move_rects_0 F x0 n) x0 l i t x y o
    unfold g_ref03_move_rects_s0
    by_cases h : i < l.length
    · rw [dec_t (by omega), cond_true, Int.toNat_natCast]
      rw [drop_getD l i h, List.map_cons] at e
      refine ⟨by omega, hp _ (getD_mem l i h), by unfold sh at hl; simp only [List.length_cons, List.length_nil]; omega, ?_⟩
      rw [w64_succ h (by unfold sh at hl; omega)]
      refine ih _ _ (by omega) (by simp [h2]) (by omega) ?_
      rw [List.append_assoc]
      exact e
    · rw [dec_f (by omega), cond_false]
      have he : i = l.length := by omega
      rw [he, List.drop_length, List.map_nil, List.append_nil] at e
      rw [he]
      exact e
theorem ok_ref03_move_rects (a0_turns : Int) (a0_x : Int) (a0_y : Int) (a1 : List Rect) (h : pre_ref03_move_rects a0_turns a0_x a0_y a1) : ∃ F, ∀ Q : List Rect → Prop, Q (sp_ref03_move_rects a0_turns a0_x a0_y a1) → w_ref03_move_rects F a0_turns a0_x a0_y a1 Q := by
  refine ⟨a1.length + 1, fun Q hQ => ?_⟩
  unfold w_ref03_move_rects g_ref03_move_rects_e n_ref03_move_rects_0
  exact lp_move_rects _ _ _ _ _ a1 h.1 h.2 _ 0 [] (by omega) rfl (by omega) hQ

def shF (R C M : List Rect) (B : List Bend) : Prop := sh R ∧ sh C ∧ sh M ∧ sh B
def pre_ref03_Copy (R C M : List Rect) (B : List Bend) : Prop := shF R C M B
def sp_ref03_Copy (R C M : List Rect) (B : List Bend) : List Rect × List Rect × List Rect × List Bend := (R, C, M, B)
theorem lp_Copy (F : Nat) (x0 : Int → List Rect → List Rect → List Rect → List Bend → List Rect → List Rect → List Rect → List Bend → Prop) (R C M : List Rect) (l : List Bend) (p q s : List Rect) (hl : sh l) : ∀ (n i : Nat) (o : List Bend), i ≤ l.length → o.length = i → l.length < i + n →
    x0 l.length R C M l p q s (o ++ l.drop i) → w_ref03_Copy_0 F x0 n i R C M l p q s o := by
  intro n
  induction n with
  | zero => intro i o h1 h2 h3; omega
  | succ n ih =>
    intro i o h1 h2 h3 e
    show g_ref03_Copy_s0 (w_ref03_Copy_0 F x0 n) x0 i R C M l p q s o
    unfold g_ref03_Copy_s0
    by_cases h : i < l.length
    · rw [dec_t (by omega), cond_true, Int.toNat_natCast]
      rw [drop_getD l i h] at e
      refine ⟨by omega, by unfold sh at hl; simp only [List.length_cons, List.length_nil]; omega, ?_⟩
      rw [w64_succ h (by unfold sh at hl; omega)]
      refine ih _ _ (by omega) (by simp [h2]) (by omega) ?_
      rw [List.append_assoc]
      exact e
    · rw [dec_f (by omega), cond_false]
      have he : i = l.length := by omega
      rw [he, List.drop_length, List.append_nil] at e
      rw [he]
      exact e
theorem ok_ref03_Copy (a0_Rects : List Rect) (a0_Cuts : List Rect) (a0_Forms : List Rect) (a0_Bends : List Bend) (h : pre_ref03_Copy a0_Rects a0_Cuts a0_Forms a0_Bends) : ∃ F, ∀ Q : List Rect → List Rect → List Rect → List Bend → Prop, Q ((sp_ref03_Copy a0_Rects a0_Cuts a0_Forms a0_Bends).1) ((sp_ref03_Copy a0_Rects a0_Cuts a0_Forms a0_Bends).2.1) ((sp_ref03_Copy a0_Rects a0_Cuts a0_Forms a0_Bends).2.2.1) ((sp_ref03_Copy a0_Rects a0_Cuts a0_Forms a0_Bends).2.2.2) → w_ref03_Copy F a0_Rects a0_Cuts a0_Forms a0_Bends Q := by
  refine ⟨a0_Bends.length + 1, fun Q hQ => ?_⟩
  obtain ⟨h1, h2, h3, h4⟩ := h
  unfold w_ref03_Copy g_ref03_Copy_e n_ref03_Copy_0
  refine ⟨h1, h2, h3, ?_⟩
  exact lp_Copy _ _ _ _ _ a0_Bends _ _ _ h4 _ 0 [] (by omega) rfl (by omega) hQ

def eqB (e0 e1 : Bend) : Bool := (e0.Flange == e1.Flange) && ((e0.Parent == e1.Parent) && (((e0.Line_X1 == e1.Line_X1) && ((e0.Line_Y1 == e1.Line_Y1) && ((e0.Line_X2 == e1.Line_X2) && ((e0.Line_Y2 == e1.Line_Y2) && true)))) && ((e0.Angle == e1.Angle) && ((e0.Deduct == e1.Deduct) && true))))
def pre_ref03_SameFlat (R C M : List Rect) (B : List Bend) (R' C' M' : List Rect) (B' : List Bend) : Prop := shF R C M B
def sp_ref03_SameFlat (R C M : List Rect) (B : List Bend) (R' C' M' : List Rect) (B' : List Bend) : Bool := zipAll eqR R R' && zipAll eqR C C' && zipAll eqR M M' && zipAll eqB B B'
theorem lp_SameFlat (F : Nat) (x0 x1 : Bool → Int → List Rect → List Rect → List Rect → List Bend → List Rect → List Rect → List Rect → List Bend → Prop) (R C M R' C' M' : List Rect) (l m : List Bend) (t4 : Bool) (hl : sh l) (hm : l.length = m.length) : ∀ (n i : Nat), i ≤ l.length → l.length < i + n →
    (∀ j, zipAll eqB (l.drop i) (m.drop i) = false → x0 false j R C M l R' C' M' m) → (zipAll eqB (l.drop i) (m.drop i) = true → x1 t4 l.length R C M l R' C' M' m) → w_ref03_SameFlat_0 F x0 x1 n t4 i R C M l R' C' M' m := by
  intro n
  induction n with
  | zero => intro i h1 h2; omega
  | succ n ih =>
    intro i h1 h2 e0 e1
    show g_ref03_SameFlat_s0 (w_ref03_SameFlat_0 F x0 x1 n) x0 x1 t4 i R C M l R' C' M' m
    unfold g_ref03_SameFlat_s0
    by_cases h : i < l.length
    · rw [dec_t (by omega), cond_true, Int.toNat_natCast]
      rw [drop_getD l i h, drop_getD m i (by omega), zipAll] at e0 e1
      refine ⟨by omega, by omega, ?_⟩
      change (cond (!(eqB (l.getD i default) (m.getD i default))) _ _)
      cases hr : eqB (l.getD i default) (m.getD i default)
      · rw [hr] at e0
        exact e0 _ rfl
      · rw [hr] at e0 e1
        simp only [Bool.not_true, cond_false]
        rw [w64_succ h (by unfold sh at hl; omega)]
        exact ih _ (by omega) (by omega) e0 e1
    · rw [dec_f (by omega), cond_false]
      have he : i = l.length := by omega
      rw [he] at e1 ⊢
      refine e1 ?_
      rw [List.drop_length, hm, List.drop_length]
      rfl
theorem ok_ref03_SameFlat (a0_Rects : List Rect) (a0_Cuts : List Rect) (a0_Forms : List Rect) (a0_Bends : List Bend) (a1_Rects : List Rect) (a1_Cuts : List Rect) (a1_Forms : List Rect) (a1_Bends : List Bend) (h : pre_ref03_SameFlat a0_Rects a0_Cuts a0_Forms a0_Bends a1_Rects a1_Cuts a1_Forms a1_Bends) : ∃ F, ∀ Q : Bool → Prop, Q (sp_ref03_SameFlat a0_Rects a0_Cuts a0_Forms a0_Bends a1_Rects a1_Cuts a1_Forms a1_Bends) → w_ref03_SameFlat F a0_Rects a0_Cuts a0_Forms a0_Bends a1_Rects a1_Cuts a1_Forms a1_Bends Q := by
  refine ⟨a0_Bends.length + 1, fun Q hQ => ?_⟩
  obtain ⟨h1, h2, h3, h4⟩ := h
  unfold w_ref03_SameFlat g_ref03_SameFlat_e n_ref03_SameFlat_0
  unfold sp_ref03_SameFlat at hQ
  refine ⟨⟨h1, fun _ => h2, fun _ => h3⟩, ?_⟩
  have e0 : ((((!(sp_ref01_SameRects a0_Rects a1_Rects)) || (!(sp_ref01_SameRects a0_Cuts a1_Cuts))) || (!(sp_ref01_SameRects a0_Forms a1_Forms)))) = !(zipAll eqR a0_Rects a1_Rects && zipAll eqR a0_Cuts a1_Cuts && zipAll eqR a0_Forms a1_Forms) := by
    unfold sp_ref01_SameRects
    simp only [Bool.not_and]
  rw [e0]
  cases hz : (zipAll eqR a0_Rects a1_Rects && zipAll eqR a0_Cuts a1_Cuts && zipAll eqR a0_Forms a1_Forms)
  · rw [hz] at hQ
    exact hQ
  · rw [hz, Bool.true_and] at hQ
    rw [Bool.not_true, Bool.false_or]
    by_cases hl : a0_Bends.length = a1_Bends.length
    · rw [show ((a0_Bends.length : Int) != (a1_Bends.length : Int)) = false by simp [hl], cond_false]
      refine lp_SameFlat _ _ _ _ _ _ _ _ _ a0_Bends a1_Bends false h4 hl _ 0 (by omega) (by omega) (fun j e => ?_) (fun e => ?_)
      all_goals
        rw [List.drop_zero, List.drop_zero] at e
        rw [e] at hQ
        exact hQ
    · rw [show ((a0_Bends.length : Int) != (a1_Bends.length : Int)) = true by simp; omega, cond_true]
      rw [zipAll_len _ _ _ hl] at hQ
      exact hQ
end
end Go.Proofs.Ytohecfbnmmgimaa
