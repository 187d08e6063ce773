/- Patterns: that settling and turning are what the reference says: what the law's function must hold, holds. Conditions: none. -/
import Derived.Test.YtohecfbnmmgimaaGP
namespace Go.Proofs.Ytohecfbnmmgimaa
open Go.Vm Go.RowKit
set_option linter.unusedVariables false
noncomputable section

def tR : Nat → Rect → Rect
  | 0, r => r
  | n + 1, r => tR n (Rect.mk (-r.Y - r.H) r.X r.H r.W)
def tL : Nat → Bend → Bend
  | 0, e => e
  | n + 1, e => tL n (Bend.mk e.Flange e.Parent (-e.Line_Y1) e.Line_X1 (-e.Line_Y2) e.Line_X2 e.Angle e.Deduct)
theorem w64_s {n : Int} (h1 : -9000000 ≤ n) (h2 : n ≤ 9000000) : w64 n = n := w64_of (by omega) (by omega)
theorem mQ_eq {r : Rect} (h : vR r = true) : mQ r = Rect.mk (-r.Y - r.H) r.X r.H r.W := by
  have h' := (vR_iff r).1 h
  unfold mQ sp_flat_quarter_1
  simp only
  rw [w64_s (n := 0 - r.Y) (by omega) (by omega), w64_s (by omega) (by omega), show (0 : Int) - r.Y - r.H = -r.Y - r.H by omega]
theorem vR_turn {r : Rect} (h : vR r = true) : vR (Rect.mk (-r.Y - r.H) r.X r.H r.W) = true := by
  have h' := (vR_iff r).1 h
  rw [vR_iff]
  simp only
  omega
theorem vR_tR : ∀ (n : Nat) (r : Rect), vR r = true → vR (tR n r) = true
  | 0, _, h => h
  | n + 1, r, h => vR_tR n _ (vR_turn h)
theorem lineOK_iff (e : Bend) : lineOK e = true ↔ (-1048576 ≤ e.Line_X1 ∧ e.Line_X1 ≤ 1048576) ∧ (-1048576 ≤ e.Line_Y1 ∧ e.Line_Y1 ≤ 1048576) ∧ (-1048576 ≤ e.Line_X2 ∧ e.Line_X2 ≤ 1048576) ∧ (-1048576 ≤ e.Line_Y2 ∧ e.Line_Y2 ≤ 1048576) := by
  unfold lineOK sp_flat_inRange rng
  simp only [Bool.and_eq_true, decide_eq_true_eq]
theorem lQ_eq {e : Bend} (h : lineOK e = true) : lQ e = Bend.mk e.Flange e.Parent (-e.Line_Y1) e.Line_X1 (-e.Line_Y2) e.Line_X2 e.Angle e.Deduct := by
  have h' := (lineOK_iff e).1 h
  unfold lQ sp_flat_quarter_2
  simp only
  rw [w64_s (n := 0 - e.Line_Y1) (by omega) (by omega), w64_s (by omega) (by omega), show (0 : Int) - e.Line_Y1 = -e.Line_Y1 by omega, show (0 : Int) - e.Line_Y2 = -e.Line_Y2 by omega]
theorem lineOK_turn {e : Bend} (h : lineOK e = true) : lineOK (Bend.mk e.Flange e.Parent (-e.Line_Y1) e.Line_X1 (-e.Line_Y2) e.Line_X2 e.Angle e.Deduct) = true := by
  have h' := (lineOK_iff e).1 h
  rw [lineOK_iff]
  simp only
  omega
theorem lineOK_tL : ∀ (n : Nat) (e : Bend), lineOK e = true → lineOK (tL n e) = true
  | 0, _, h => h
  | n + 1, r, h => lineOK_tL n _ (lineOK_turn h)
theorem map_tR (n : Nat) (l : List Rect) (h : ∀ r ∈ l, vR r = true) : (l.map mQ).map (tR n) = l.map (tR (n + 1)) := by
  rw [List.map_map]
  refine List.map_congr_left fun r hr => ?_
  show tR n (mQ r) = _
  rw [mQ_eq (h r hr)]
  rfl
theorem map_tL (n : Nat) (l : List Bend) (h : ∀ r ∈ l, lineOK r = true) : (l.map lQ).map (tL n) = l.map (tL (n + 1)) := by
  rw [List.map_map]
  refine List.map_congr_left fun r hr => ?_
  show tL n (lQ r) = _
  rw [lQ_eq (h r hr)]
  rfl
theorem vR_map {l : List Rect} (h : ∀ r ∈ l, vR r = true) : ∀ r ∈ l.map mQ, vR r = true := by
  intro r hr
  obtain ⟨x, hx, rfl⟩ := List.mem_map.1 hr
  rw [mQ_eq (h x hx)]
  exact vR_turn (h x hx)
theorem lineOK_map {l : List Bend} (h : ∀ r ∈ l, lineOK r = true) : ∀ r ∈ l.map lQ, lineOK r = true := by
  intro r hr
  obtain ⟨x, hx, rfl⟩ := List.mem_map.1 hr
  rw [lQ_eq (h x hx)]
  exact lineOK_turn (h x hx)
theorem qF_eq : ∀ (n : Nat) (R C M : List Rect) (B : List Bend), (∀ r ∈ R, vR r = true) → (∀ r ∈ C, vR r = true) → (∀ r ∈ M, vR r = true) → (∀ e ∈ B, lineOK e = true) →
    qF n (R, C, M, B) = (R.map (tR n), C.map (tR n), M.map (tR n), B.map (tL n)) := by
  intro n
  induction n with
  | zero =>
    intro R C M B _ _ _ _
    have e1 : (tR 0 : Rect → Rect) = id := rfl
    have e2 : (tL 0 : Bend → Bend) = id := rfl
    rw [e1, e2, List.map_id, List.map_id, List.map_id, List.map_id]
    rfl
  | succ n ih =>
    intro R C M B hR hC hM hB
    show qF n (R.map mQ, C.map mQ, M.map mQ, B.map lQ) = _
    rw [ih _ _ _ _ (vR_map hR) (vR_map hC) (vR_map hM) (lineOK_map hB), map_tR n R hR, map_tR n C hC, map_tR n M hM, map_tL n B hB]

def near (n : Int) : Prop := -1048576 ≤ n ∧ n ≤ 1048576
theorem preP {t x y a b : Int} (ht : 0 ≤ t ∧ t ≤ 3) (hx : near x) (hy : near y) (ha : -2097152 ≤ a ∧ a ≤ 2097152) (hb : -2097152 ≤ b ∧ b ≤ 2097152) : pre_ref03_move_point t x y a b := by
  unfold near at *
  unfold pre_ref03_move_point big
  omega
theorem preR_of {t x y : Int} (ht : 0 ≤ t ∧ t ≤ 3) (hx : near x) (hy : near y) {r : Rect} (hr : vR r = true) : preR t x y r := by
  have h := (vR_iff r).1 hr
  refine ⟨preP ht hx hy (by omega) (by omega), ?_⟩
  rw [w64_s (n := r.X + r.W) (by omega) (by omega), w64_s (n := r.Y + r.H) (by omega) (by omega)]
  exact preP ht hx hy (by omega) (by omega)
theorem preL_of {t x y : Int} (ht : 0 ≤ t ∧ t ≤ 3) (hx : near x) (hy : near y) {e : Bend} (he : lineOK e = true) : preL t x y e := by
  have h := (lineOK_iff e).1 he
  exact ⟨preP ht hx hy (by omega) (by omega), preP ht hx hy (by omega) (by omega)⟩

theorem cond_d {α : Type} (p : Prop) [Decidable p] (x y : α) : cond (decide p) x y = if p then x else y := by
  by_cases h : p
  · rw [dec_t h, if_pos h]; rfl
  · rw [dec_f h, if_neg h]; rfl
theorem rot_tR (t : Nat) (ht : t ≤ 3) (r : Rect) :
    (((rot t r.X r.Y).1 = (tR t r).X ∧ (rot t (r.X + r.W) (r.Y + r.H)).1 = (tR t r).X + (tR t r).W) ∨ ((rot t (r.X + r.W) (r.Y + r.H)).1 = (tR t r).X ∧ (rot t r.X r.Y).1 = (tR t r).X + (tR t r).W)) ∧
    (((rot t r.X r.Y).2 = (tR t r).Y ∧ (rot t (r.X + r.W) (r.Y + r.H)).2 = (tR t r).Y + (tR t r).H) ∨ ((rot t (r.X + r.W) (r.Y + r.H)).2 = (tR t r).Y ∧ (rot t r.X r.Y).2 = (tR t r).Y + (tR t r).H)) := by
  match t, ht with
  | 0, _ => exact ⟨Or.inl ⟨by simp only [rot, tR] <;> omega, by simp only [rot, tR] <;> omega⟩, Or.inl ⟨by simp only [rot, tR] <;> omega, by simp only [rot, tR] <;> omega⟩⟩
  | 1, _ => exact ⟨Or.inr ⟨by simp only [rot, tR] <;> omega, by simp only [rot, tR] <;> omega⟩, Or.inl ⟨by simp only [rot, tR] <;> omega, by simp only [rot, tR] <;> omega⟩⟩
  | 2, _ => exact ⟨Or.inr ⟨by simp only [rot, tR] <;> omega, by simp only [rot, tR] <;> omega⟩, Or.inr ⟨by simp only [rot, tR] <;> omega, by simp only [rot, tR] <;> omega⟩⟩
  | 3, _ => exact ⟨Or.inl ⟨by simp only [rot, tR] <;> omega, by simp only [rot, tR] <;> omega⟩, Or.inr ⟨by simp only [rot, tR] <;> omega, by simp only [rot, tR] <;> omega⟩⟩
theorem mR_eq (t : Nat) (ht : t ≤ 3) {x y : Int} (hx : near x) (hy : near y) {r : Rect} (hr : vR r = true) :
    mR t x y r = Rect.mk ((tR t r).X + x) ((tR t r).Y + y) (tR t r).W (tR t r).H := by
  have h := (vR_iff r).1 hr
  have hh := rot_tR t ht r
  have hs := (vR_iff _).1 (vR_tR t r hr)
  unfold near at *
  unfold mR sp_ref03_move_rect sp_ref03_move_point
  rw [w64_s (n := r.X + r.W) (by omega) (by omega), w64_s (n := r.Y + r.H) (by omega) (by omega), Int.toNat_natCast]
  revert hh hs
  generalize rot t r.X r.Y = p
  generalize rot t (r.X + r.W) (r.Y + r.H) = q
  generalize tR t r = s
  intro hh hs
  simp only
  rcases hh with ⟨h1 | h1, h2 | h2⟩
  · rw [dec_f (p := q.1 + x < p.1 + x) (by omega), dec_f (p := q.2 + y < p.2 + y) (by omega)]
    simp only [cond_false, Rect.mk.injEq]
    rw [w64_s (by omega) (by omega), w64_s (by omega) (by omega)]
    omega
  · rw [dec_f (p := q.1 + x < p.1 + x) (by omega), dec_t (p := q.2 + y < p.2 + y) (by omega)]
    simp only [cond_true, cond_false, Rect.mk.injEq]
    rw [w64_s (by omega) (by omega), w64_s (by omega) (by omega)]
    omega
  · rw [dec_t (p := q.1 + x < p.1 + x) (by omega), dec_f (p := q.2 + y < p.2 + y) (by omega)]
    simp only [cond_true, cond_false, Rect.mk.injEq]
    rw [w64_s (by omega) (by omega), w64_s (by omega) (by omega)]
    omega
  · rw [dec_t (p := q.1 + x < p.1 + x) (by omega), dec_t (p := q.2 + y < p.2 + y) (by omega)]
    simp only [cond_true, Rect.mk.injEq]
    rw [w64_s (by omega) (by omega), w64_s (by omega) (by omega)]
    omega
theorem mS_eq {a b c d : Int} (ha : near a) (hb : near b) {r : Rect} (hr : vR r = true) : mS a b c d r = Rect.mk (r.X - a) (r.Y - b) r.W r.H := by
  have h := (vR_iff r).1 hr
  unfold near at *
  unfold mS sp_flat_settled_1
  simp only
  rw [w64_s (n := r.X - a) (by omega) (by omega), w64_s (n := r.Y - b) (by omega) (by omega)]
theorem lS_eq {a b c d : Int} (ha : near a) (hb : near b) {e : Bend} (he : lineOK e = true) : lS a b c d e = Bend.mk e.Flange e.Parent (e.Line_X1 - a) (e.Line_Y1 - b) (e.Line_X2 - a) (e.Line_Y2 - b) e.Angle e.Deduct := by
  have h := (lineOK_iff e).1 he
  unfold near at *
  unfold lS sp_flat_settled_2
  simp only
  rw [w64_s (n := e.Line_X1 - a) (by omega) (by omega), w64_s (n := e.Line_Y1 - b) (by omega) (by omega), w64_s (n := e.Line_X2 - a) (by omega) (by omega), w64_s (n := e.Line_Y2 - b) (by omega) (by omega)]
/-- A line, turned: in order, if it was. -/
def fin (t : Nat) (e : Bend) : Bend := bif decide (0 < t) && ordB e then sortL (tL t e) else tL t e
theorem lineOK_sort {e : Bend} (h : lineOK e = true) : lineOK (sortL e) = true := by
  have h' := (lineOK_iff e).1 h
  rw [lineOK_iff]
  unfold sortL
  simp only [mi_min, ma_max]
  omega
theorem lineOK_fin (t : Nat) {e : Bend} (h : lineOK e = true) : lineOK (fin t e) = true := by
  unfold fin
  cases decide (0 < t) && ordB e
  · exact lineOK_tL t e h
  · exact lineOK_sort (lineOK_tL t e h)
theorem rot_tL (t : Nat) (ht : t ≤ 3) (e : Bend) : rot t e.Line_X1 e.Line_Y1 = ((tL t e).Line_X1, (tL t e).Line_Y1) ∧ rot t e.Line_X2 e.Line_Y2 = ((tL t e).Line_X2, (tL t e).Line_Y2) := by
  match t, ht with
  | 0, _ => exact ⟨rfl, rfl⟩
  | 1, _ => exact ⟨rfl, rfl⟩
  | 2, _ => exact ⟨rfl, rfl⟩
  | 3, _ => exact ⟨rfl, rfl⟩
theorem mL_eq (t : Nat) (ht : t ≤ 3) {x y : Int} (hx : near x) (hy : near y) {e : Bend} (he : lineOK e = true) :
    mL t x y e = Bend.mk e.Flange e.Parent ((fin t e).Line_X1 + x) ((fin t e).Line_Y1 + y) ((fin t e).Line_X2 + x) ((fin t e).Line_Y2 + y) e.Angle e.Deduct := by
  obtain ⟨hp, hq⟩ := rot_tL t ht e
  unfold mL sp_ref03_move_line sp_ref03_move_point fin
  rw [Int.toNat_natCast, hp, hq]
  have ho' : (decide (e.Line_X1 ≤ e.Line_X2) && decide (e.Line_Y1 ≤ e.Line_Y2)) = ordB e := rfl
  rw [ho']
  simp only
  cases ho : ordB e
  · rw [Bool.and_false, cond_false, cond_false]
  · rw [Bool.and_true, cond_true]
    by_cases h0 : 0 < t
    · rw [dec_t h0, cond_true]
      generalize tL t e = l
      unfold sortL
      simp only [mi_min, ma_max]
      by_cases k1 : l.Line_X2 + x < l.Line_X1 + x <;> by_cases k2 : l.Line_Y2 + y < l.Line_Y1 + y
      all_goals
        first
          | rw [dec_t k1, cond_true]
          | rw [dec_f k1, cond_false]
        first
          | rw [dec_t k2, cond_true]
          | rw [dec_f k2, cond_false]
        simp only [Bend.mk.injEq, true_and, and_true]
        omega
    · rw [dec_f h0, cond_false]
      have ht0 : t = 0 := by omega
      subst ht0
      have e0 : tL 0 e = e := rfl
      rw [e0]
      unfold ordB at ho
      simp only [Bool.and_eq_true, decide_eq_true_eq] at ho
      rw [dec_f (p := e.Line_X2 + x < e.Line_X1 + x) (by omega), cond_false, dec_f (p := e.Line_Y2 + y < e.Line_Y1 + y) (by omega), cond_false]
theorem fixL_map (t : Nat) : ∀ l : List Bend, (bif decide ((0 : Int) < t) then fixL l (l.map (tL t)) else l.map (tL t)) = l.map (fin t) := by
  intro l
  by_cases h : 0 < t
  · rw [dec_t (by omega : (0 : Int) < t), cond_true]
    induction l with
    | nil => rfl
    | cons e l ih =>
      rw [List.map_cons, List.map_cons, fixL, ih]
      unfold fin
      rw [dec_t h, Bool.true_and]
  · rw [dec_f (by omega : ¬ (0 : Int) < t), cond_false]
    refine List.map_congr_left fun e _ => ?_
    unfold fin
    rw [dec_f h]
    rfl
theorem fin_keep (t : Nat) (e : Bend) : (fin t e).Flange = e.Flange ∧ (fin t e).Parent = e.Parent ∧ (fin t e).Angle = e.Angle ∧ (fin t e).Deduct = e.Deduct := by
  have : ∀ (n : Nat) (e : Bend), (tL n e).Flange = e.Flange ∧ (tL n e).Parent = e.Parent ∧ (tL n e).Angle = e.Angle ∧ (tL n e).Deduct = e.Deduct := by
    intro n
    induction n with
    | zero => intro e; exact ⟨rfl, rfl, rfl, rfl⟩
    | succ n ih => intro e; exact ih _
  unfold fin
  cases decide (0 < t) && ordB e
  · exact this t e
  · exact this t e

theorem bnd_box : ∀ (l : List Rect) (a b c d : Int), box a b c d → (∀ r ∈ l, vR r = true) → near (bnd a b c d l).1 ∧ near (bnd a b c d l).2.1 := by
  intro l
  induction l with
  | nil =>
    intro a b c d h _
    unfold box at h
    exact ⟨by unfold near; show _ ≤ a ∧ a ≤ _; omega, by unfold near; show _ ≤ b ∧ b ≤ _; omega⟩
  | cons r l ih =>
    intro a b c d h hv
    exact ih _ _ _ _ (box_next h (hv r List.mem_cons_self)) (fun x hx => hv x (List.mem_cons_of_mem _ hx))
theorem bndL_near {l : List Rect} (hn : l ≠ []) (hv : ∀ r ∈ l, vR r = true) : near (bndL l).1 ∧ near (bndL l).2.1 := by
  cases l with
  | nil => exact absurd rfl hn
  | cons r l => exact bnd_box l _ _ _ _ (vR_box (hv r List.mem_cons_self)) (fun x hx => hv x (List.mem_cons_of_mem _ hx))
theorem near_neg {a : Int} (h : near a) : near (-a) := by unfold near at *; omega

structure Good (R C M : List Rect) (B : List Bend) : Prop where
  ne : R ≠ []
  r : ∀ x ∈ R, vR x = true
  c : ∀ x ∈ C, vR x = true
  m : ∀ x ∈ M, vR x = true
  b : ∀ x ∈ B, lineOK x = true
theorem good_of {R C M : List Rect} {B : List Bend} (h : wholeB R C M B = true) : Good R C M B := by
  unfold wholeB okL at h
  simp only [Bool.and_eq_true, decide_eq_true_eq, List.all_eq_true] at h
  obtain ⟨⟨h0, ⟨_, h1⟩, ⟨_, h2⟩, ⟨_, h3⟩⟩, h4⟩ := h
  exact ⟨fun e => h0 (by rw [e]; rfl), h1, h2, h3, h4⟩

theorem turned_eq {R C M : List Rect} {B : List Bend} (h : Good R C M B) (t : Nat) : turned R C M B t = (R.map (tR t), C.map (tR t), M.map (tR t), B.map (fin t)) := by
  unfold turned
  rw [Int.toNat_natCast, qF_eq t R C M B h.r h.c h.m h.b]
  simp only
  rw [fixL_map]
theorem rects_eq (t : Nat) (ht : t ≤ 3) {a b c d : Int} (ha : near a) (hb : near b) {l : List Rect} (h : ∀ r ∈ l, vR r = true) : (l.map (tR t)).map (mS a b c d) = l.map (mR t (-a) (-b)) := by
  rw [List.map_map]
  refine List.map_congr_left fun r hr => ?_
  show mS a b c d (tR t r) = _
  rw [mS_eq ha hb (vR_tR t r (h r hr)), mR_eq t ht (near_neg ha) (near_neg hb) (h r hr)]
  rfl
theorem bends_eq (t : Nat) (ht : t ≤ 3) {a b c d : Int} (ha : near a) (hb : near b) {l : List Bend} (h : ∀ r ∈ l, lineOK r = true) : (l.map (fin t)).map (lS a b c d) = l.map (mL t (-a) (-b)) := by
  rw [List.map_map]
  refine List.map_congr_left fun r hr => ?_
  show lS a b c d (fin t r) = _
  rw [lS_eq ha hb (lineOK_fin t (h r hr)), mL_eq t ht (near_neg ha) (near_neg hb) (h r hr)]
  obtain ⟨h1, h2, h3, h4⟩ := fin_keep t r
  rw [h1, h2, h3, h4]
  rfl
theorem moved0 (t : Nat) (ht : t ≤ 3) {l : List Rect} (h : ∀ r ∈ l, vR r = true) : l.map (mR t 0 0) = l.map (tR t) := by
  refine List.map_congr_left fun r hr => ?_
  rw [mR_eq t ht (by unfold near; omega) (by unfold near; omega) (h r hr), Int.add_zero, Int.add_zero]
theorem tR_all (t : Nat) {l : List Rect} (h : ∀ r ∈ l, vR r = true) : ∀ r ∈ l.map (tR t), vR r = true := by
  intro r hr
  obtain ⟨x, hx, rfl⟩ := List.mem_map.1 hr
  exact vR_tR t x (h x hx)

/-- The pattern, turned and settled. -/
def goal (R C M : List Rect) (B : List Bend) (t : Int) : Flat4 :=
  let q := bndL (R.map (mR t 0 0))
  sp_ref03_move_flat t (-q.1) (-q.2.1) R C M B
def answer (f : Flat4) : List Rect × List Rect × List Rect × List Bend × Int :=
  bif wholeB f.1 f.2.1 f.2.2.1 f.2.2.2 then (f.1, f.2.1, f.2.2.1, f.2.2.2, 0) else ([], [], [], [], 4)
theorem check0 (R C M : List Rect) (B : List Bend) : (sp_flat_check R C M B != 0) = !wholeB R C M B := by
  unfold sp_flat_check
  cases wholeB R C M B <;> rfl
theorem settled_eq {R C M : List Rect} {B : List Bend} (h : Good R C M B) (hs : shF R C M B) (t : Nat) (ht : t ≤ 3) :
    let f := turned R C M B t
    pre_flat_settled f.1 f.2.1 f.2.2.1 f.2.2.2 ∧ sp_flat_settled f.1 f.2.1 f.2.2.1 f.2.2.2 = answer (goal R C M B t) := by
  have hne : R.map (tR t) ≠ [] := fun e => h.ne (List.map_eq_nil_iff.1 e)
  obtain ⟨ha, hb⟩ := bndL_near hne (tR_all t h.r)
  obtain ⟨s1, s2, s3, s4⟩ := hs
  have hg : goal R C M B t = ((R.map (tR t)).map (mS (bndL (R.map (tR t))).1 (bndL (R.map (tR t))).2.1 (bndL (R.map (tR t))).2.2.1 (bndL (R.map (tR t))).2.2.2), (C.map (tR t)).map (mS (bndL (R.map (tR t))).1 (bndL (R.map (tR t))).2.1 (bndL (R.map (tR t))).2.2.1 (bndL (R.map (tR t))).2.2.2), (M.map (tR t)).map (mS (bndL (R.map (tR t))).1 (bndL (R.map (tR t))).2.1 (bndL (R.map (tR t))).2.2.1 (bndL (R.map (tR t))).2.2.2), (B.map (fin t)).map (lS (bndL (R.map (tR t))).1 (bndL (R.map (tR t))).2.1 (bndL (R.map (tR t))).2.2.1 (bndL (R.map (tR t))).2.2.2)) := by
    unfold goal
    rw [moved0 t ht h.r, rects_eq t ht ha hb h.r, rects_eq t ht ha hb h.c, rects_eq t ht ha hb h.m, bends_eq t ht ha hb h.b]
    rfl
  rw [turned_eq h t, hg]
  unfold sh at *
  refine ⟨⟨⟨by unfold sh; simpa using s1, hne, tR_all t h.r⟩, ⟨by unfold sh; simpa using s1, by unfold sh; simpa using s2, by unfold sh; simpa using s3, by unfold sh; simpa using s4⟩, ?_⟩, ?_⟩
  · unfold pre_flat_check sh sp_mapS
    simpa using s4
  · unfold sp_flat_settled answer
    rw [check0]
    show cond (!wholeB ((R.map (tR t)).map _) ((C.map (tR t)).map _) ((M.map (tR t)).map _) ((B.map (fin t)).map _)) _ _ = _
    unfold sp_flat_bounds sp_mapS
    simp only
    generalize wholeB _ _ _ _ = k
    cases k <;> rfl
end
end Go.Proofs.Ytohecfbnmmgimaa
