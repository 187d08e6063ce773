/- Texts of this proof, one behind another: Patterns: that settling and turning are what the reference says: what the law's function m; Patterns: what the law's function on settling must hold, holds. Conditions: none.; Surfaces: that turns add up, and that turning keeps the surface: what the law's function m; That the code says what the printed pieces say, by the kernel; printed by gen.py. Conditio; That the code says what the printed pieces say, by the kernel; printed by gen.py. Conditio; That the code says what the printed pieces say, by the kernel; printed by gen.py. Conditio; That the code says what the printed pieces say, by the kernel; printed by gen.py. Conditio; That the code says what the printed pieces say, by the kernel; printed by gen.py. Conditio; That the code says what the printed pieces say, by the kernel; printed by gen.py. Conditio; That the code says what the printed pieces say, by the kernel; printed by gen.py. Conditio; That the code says what the printed pieces say, by the kernel; printed by gen.py. Conditio; That the code says what the printed pieces say, by the kernel; printed by gen.py. Conditio; That the code says what the printed pieces say, by the kernel; printed by gen.py. Conditio; That the code says what the printed pieces say, by the kernel; printed by gen.py. Conditio. Conditions: none. -/
import Derived.Test.YtohecfbnmmgimaaTb4
import Derived.Test.YtohecfbnmmgimaaTb3
import Derived.Test.YtohecfbnmmgimaaTb2
namespace Go.Proofs.Ytohecfbnmmgimaa
open Go.Vm Go.RowKit
set_option linter.unusedVariables false
noncomputable section

def tR : Nat → Rect → Rect
  | 0, r => r
  | n + 1, r => tR n (Rect.mk (-r.Y - r.H) r.X r.H r.W)
def tL : Nat → Bend → Bend
  | 0, e => e
  | n + 1, e => tL n (Bend.mk e.Flange e.Parent (-e.Line_Y1) e.Line_X1 (-e.Line_Y2) e.Line_X2 e.Angle e.Deduct)
theorem w64_s {n : Int} (h1 : -9000000 ≤ n) (h2 : n ≤ 9000000) : w64 n = n := w64_of (by omega) (by omega)
theorem mQ_eq {r : Rect} (h : vR r = true) : mQ r = Rect.mk (-r.Y - r.H) r.X r.H r.W := by
  have h' := (vR_iff r).1 h
  unfold mQ sp_flat_quarter_1
  simp only
  rw [w64_s (n := 0 - r.Y) (by omega) (by omega), w64_s (by omega) (by omega), show (0 : Int) - r.Y - r.H = -r.Y - r.H by omega]
theorem vR_turn {r : Rect} (h : vR r = true) : vR (Rect.mk (-r.Y - r.H) r.X r.H r.W) = true := by
  have h' := (vR_iff r).1 h
  rw [vR_iff]
  simp only
  omega
theorem vR_tR : ∀ (n : Nat) (r : Rect), vR r = true → vR (tR n r) = true
  | 0, _, h => h
  | n + 1, r, h => vR_tR n _ (vR_turn h)
theorem lineOK_iff (e : Bend) : lineOK e = true ↔ (-1048576 ≤ e.Line_X1 ∧ e.Line_X1 ≤ 1048576) ∧ (-1048576 ≤ e.Line_Y1 ∧ e.Line_Y1 ≤ 1048576) ∧ (-1048576 ≤ e.Line_X2 ∧ e.Line_X2 ≤ 1048576) ∧ (-1048576 ≤ e.Line_Y2 ∧ e.Line_Y2 ≤ 1048576) := by
  unfold lineOK sp_flat_inRange rng
  simp only [Bool.and_eq_true, decide_eq_true_eq]
theorem lQ_eq {e : Bend} (h : lineOK e = true) : lQ e = Bend.mk e.Flange e.Parent (-e.Line_Y1) e.Line_X1 (-e.Line_Y2) e.Line_X2 e.Angle e.Deduct := by
  have h' := (lineOK_iff e).1 h
  unfold lQ sp_flat_quarter_2
  simp only
  rw [w64_s (n := 0 - e.Line_Y1) (by omega) (by omega), w64_s (by omega) (by omega), show (0 : Int) - e.Line_Y1 = -e.Line_Y1 by omega, show (0 : Int) - e.Line_Y2 = -e.Line_Y2 by omega]
theorem lineOK_turn {e : Bend} (h : lineOK e = true) : lineOK (Bend.mk e.Flange e.Parent (-e.Line_Y1) e.Line_X1 (-e.Line_Y2) e.Line_X2 e.Angle e.Deduct) = true := by
  have h' := (lineOK_iff e).1 h
  rw [lineOK_iff]
  simp only
  omega
theorem lineOK_tL : ∀ (n : Nat) (e : Bend), lineOK e = true → lineOK (tL n e) = true
  | 0, _, h => h
  | n + 1, r, h => lineOK_tL n _ (lineOK_turn h)
theorem map_tR (n : Nat) (l : List Rect) (h : ∀ r ∈ l, vR r = true) : (l.map mQ).map (tR n) = l.map (tR (n + 1)) := by
  rw [List.map_map]
  refine List.map_congr_left fun r hr => ?_
  show tR n (mQ r) = _
  rw [mQ_eq (h r hr)]
  rfl
theorem map_tL (n : Nat) (l : List Bend) (h : ∀ r ∈ l, lineOK r = true) : (l.map lQ).map (tL n) = l.map (tL (n + 1)) := by
  rw [List.map_map]
  refine List.map_congr_left fun r hr => ?_
  show tL n (lQ r) = _
  rw [lQ_eq (h r hr)]
  rfl
theorem vR_map {l : List Rect} (h : ∀ r ∈ l, vR r = true) : ∀ r ∈ l.map mQ, vR r = true := by
  intro r hr
  obtain ⟨x, hx, rfl⟩ := List.mem_map.1 hr
  rw [mQ_eq (h x hx)]
  exact vR_turn (h x hx)
theorem lineOK_map {l : List Bend} (h : ∀ r ∈ l, lineOK r = true) : ∀ r ∈ l.map lQ, lineOK r = true := by
  intro r hr
  obtain ⟨x, hx, rfl⟩ := List.mem_map.1 hr
  rw [lQ_eq (h x hx)]
  exact lineOK_turn (h x hx)
theorem qF_eq : ∀ (n : Nat) (R C M : List Rect) (B : List Bend), (∀ r ∈ R, vR r = true) → (∀ r ∈ C, vR r = true) → (∀ r ∈ M, vR r = true) → (∀ e ∈ B, lineOK e = true) →
    qF n (R, C, M, B) = (R.map (tR n), C.map (tR n), M.map (tR n), B.map (tL n)) := by
  intro n
  induction n with
  | zero =>
    intro R C M B _ _ _ _
    have e1 : (tR 0 : Rect → Rect) = id := rfl
    have e2 : (tL 0 : Bend → Bend) = id := rfl
    rw [e1, e2, List.map_id, List.map_id, List.map_id, List.map_id]
    rfl
  | succ n ih =>
    intro R C M B hR hC hM hB
    show qF n (R.map mQ, C.map mQ, M.map mQ, B.map lQ) = _
    rw [ih _ _ _ _ (vR_map hR) (vR_map hC) (vR_map hM) (lineOK_map hB), map_tR n R hR, map_tR n C hC, map_tR n M hM, map_tL n B hB]

def near (n : Int) : Prop := -1048576 ≤ n ∧ n ≤ 1048576
theorem preP {t x y a b : Int} (ht : 0 ≤ t ∧ t ≤ 3) (hx : near x) (hy : near y) (ha : -2097152 ≤ a ∧ a ≤ 2097152) (hb : -2097152 ≤ b ∧ b ≤ 2097152) : pre_ref03_move_point t x y a b := by
  unfold near at *
  unfold pre_ref03_move_point big
  omega
theorem preR_of {t x y : Int} (ht : 0 ≤ t ∧ t ≤ 3) (hx : near x) (hy : near y) {r : Rect} (hr : vR r = true) : preR t x y r := by
  have h := (vR_iff r).1 hr
  refine ⟨preP ht hx hy (by omega) (by omega), ?_⟩
  rw [w64_s (n := r.X + r.W) (by omega) (by omega), w64_s (n := r.Y + r.H) (by omega) (by omega)]
  exact preP ht hx hy (by omega) (by omega)
theorem preL_of {t x y : Int} (ht : 0 ≤ t ∧ t ≤ 3) (hx : near x) (hy : near y) {e : Bend} (he : lineOK e = true) : preL t x y e := by
  have h := (lineOK_iff e).1 he
  exact ⟨preP ht hx hy (by omega) (by omega), preP ht hx hy (by omega) (by omega)⟩

theorem cond_d {α : Type} (p : Prop) [Decidable p] (x y : α) : cond (decide p) x y = if p then x else y := by
  by_cases h : p
  · rw [dec_t h, if_pos h]; rfl
  · rw [dec_f h, if_neg h]; rfl
theorem rot_tR (t : Nat) (ht : t ≤ 3) (r : Rect) :
    (((rot t r.X r.Y).1 = (tR t r).X ∧ (rot t (r.X + r.W) (r.Y + r.H)).1 = (tR t r).X + (tR t r).W) ∨ ((rot t (r.X + r.W) (r.Y + r.H)).1 = (tR t r).X ∧ (rot t r.X r.Y).1 = (tR t r).X + (tR t r).W)) ∧
    (((rot t r.X r.Y).2 = (tR t r).Y ∧ (rot t (r.X + r.W) (r.Y + r.H)).2 = (tR t r).Y + (tR t r).H) ∨ ((rot t (r.X + r.W) (r.Y + r.H)).2 = (tR t r).Y ∧ (rot t r.X r.Y).2 = (tR t r).Y + (tR t r).H)) := by
  match t, ht with
  | 0, _ => exact ⟨Or.inl ⟨by simp only [rot, tR] <;> omega, by simp only [rot, tR] <;> omega⟩, Or.inl ⟨by simp only [rot, tR] <;> omega, by simp only [rot, tR] <;> omega⟩⟩
  | 1, _ => exact ⟨Or.inr ⟨by simp only [rot, tR] <;> omega, by simp only [rot, tR] <;> omega⟩, Or.inl ⟨by simp only [rot, tR] <;> omega, by simp only [rot, tR] <;> omega⟩⟩
  | 2, _ => exact ⟨Or.inr ⟨by simp only [rot, tR] <;> omega, by simp only [rot, tR] <;> omega⟩, Or.inr ⟨by simp only [rot, tR] <;> omega, by simp only [rot, tR] <;> omega⟩⟩
  | 3, _ => exact ⟨Or.inl ⟨by simp only [rot, tR] <;> omega, by simp only [rot, tR] <;> omega⟩, Or.inr ⟨by simp only [rot, tR] <;> omega, by simp only [rot, tR] <;> omega⟩⟩
theorem mR_eq (t : Nat) (ht : t ≤ 3) {x y : Int} (hx : near x) (hy : near y) {r : Rect} (hr : vR r = true) :
    mR t x y r = Rect.mk ((tR t r).X + x) ((tR t r).Y + y) (tR t r).W (tR t r).H := by
  have h := (vR_iff r).1 hr
  have hh := rot_tR t ht r
  have hs := (vR_iff _).1 (vR_tR t r hr)
  unfold near at *
  unfold mR sp_ref03_move_rect sp_ref03_move_point
  rw [w64_s (n := r.X + r.W) (by omega) (by omega), w64_s (n := r.Y + r.H) (by omega) (by omega), Int.toNat_natCast]
  revert hh hs
  generalize rot t r.X r.Y = p
  generalize rot t (r.X + r.W) (r.Y + r.H) = q
  generalize tR t r = s
  intro hh hs
  simp only
  rcases hh with ⟨h1 | h1, h2 | h2⟩
  · rw [dec_f (p := q.1 + x < p.1 + x) (by omega), dec_f (p := q.2 + y < p.2 + y) (by omega)]
    simp only [cond_false, Rect.mk.injEq]
    rw [w64_s (by omega) (by omega), w64_s (by omega) (by omega)]
    omega
  · rw [dec_f (p := q.1 + x < p.1 + x) (by omega), dec_t (p := q.2 + y < p.2 + y) (by omega)]
    simp only [cond_true, cond_false, Rect.mk.injEq]
    rw [w64_s (by omega) (by omega), w64_s (by omega) (by omega)]
    omega
  · rw [dec_t (p := q.1 + x < p.1 + x) (by omega), dec_f (p := q.2 + y < p.2 + y) (by omega)]
    simp only [cond_true, cond_false, Rect.mk.injEq]
    rw [w64_s (by omega) (by omega), w64_s (by omega) (by omega)]
    omega
  · rw [dec_t (p := q.1 + x < p.1 + x) (by omega), dec_t (p := q.2 + y < p.2 + y) (by omega)]
    simp only [cond_true, Rect.mk.injEq]
    rw [w64_s (by omega) (by omega), w64_s (by omega) (by omega)]
    omega
theorem mS_eq {a b c d : Int} (ha : near a) (hb : near b) {r : Rect} (hr : vR r = true) : mS a b c d r = Rect.mk (r.X - a) (r.Y - b) r.W r.H := by
  have h := (vR_iff r).1 hr
  unfold near at *
  unfold mS sp_flat_settled_1
  simp only
  rw [w64_s (n := r.X - a) (by omega) (by omega), w64_s (n := r.Y - b) (by omega) (by omega)]
theorem lS_eq {a b c d : Int} (ha : near a) (hb : near b) {e : Bend} (he : lineOK e = true) : lS a b c d e = Bend.mk e.Flange e.Parent (e.Line_X1 - a) (e.Line_Y1 - b) (e.Line_X2 - a) (e.Line_Y2 - b) e.Angle e.Deduct := by
  have h := (lineOK_iff e).1 he
  unfold near at *
  unfold lS sp_flat_settled_2
  simp only
  rw [w64_s (n := e.Line_X1 - a) (by omega) (by omega), w64_s (n := e.Line_Y1 - b) (by omega) (by omega), w64_s (n := e.Line_X2 - a) (by omega) (by omega), w64_s (n := e.Line_Y2 - b) (by omega) (by omega)]
/-- A line, turned: in order, if it was. -/
def fin (t : Nat) (e : Bend) : Bend := bif decide (0 < t) && ordB e then sortL (tL t e) else tL t e
theorem lineOK_sort {e : Bend} (h : lineOK e = true) : lineOK (sortL e) = true := by
  have h' := (lineOK_iff e).1 h
  rw [lineOK_iff]
  unfold sortL
  simp only [mi_min, ma_max]
  omega
theorem lineOK_fin (t : Nat) {e : Bend} (h : lineOK e = true) : lineOK (fin t e) = true := by
  unfold fin
  cases decide (0 < t) && ordB e
  · exact lineOK_tL t e h
  · exact lineOK_sort (lineOK_tL t e h)
theorem rot_tL (t : Nat) (ht : t ≤ 3) (e : Bend) : rot t e.Line_X1 e.Line_Y1 = ((tL t e).Line_X1, (tL t e).Line_Y1) ∧ rot t e.Line_X2 e.Line_Y2 = ((tL t e).Line_X2, (tL t e).Line_Y2) := by
  match t, ht with
  | 0, _ => exact ⟨rfl, rfl⟩
  | 1, _ => exact ⟨rfl, rfl⟩
  | 2, _ => exact ⟨rfl, rfl⟩
  | 3, _ => exact ⟨rfl, rfl⟩
theorem mL_eq (t : Nat) (ht : t ≤ 3) {x y : Int} (hx : near x) (hy : near y) {e : Bend} (he : lineOK e = true) :
    mL t x y e = Bend.mk e.Flange e.Parent ((fin t e).Line_X1 + x) ((fin t e).Line_Y1 + y) ((fin t e).Line_X2 + x) ((fin t e).Line_Y2 + y) e.Angle e.Deduct := by
  obtain ⟨hp, hq⟩ := rot_tL t ht e
  unfold mL sp_ref03_move_line sp_ref03_move_point fin
  rw [Int.toNat_natCast, hp, hq]
  have ho' : (decide (e.Line_X1 ≤ e.Line_X2) && decide (e.Line_Y1 ≤ e.Line_Y2)) = ordB e := rfl
  rw [ho']
  simp only
  cases ho : ordB e
  · rw [Bool.and_false, cond_false, cond_false]
  · rw [Bool.and_true, cond_true]
    by_cases h0 : 0 < t
    · rw [dec_t h0, cond_true]
      generalize tL t e = l
      unfold sortL
      simp only [mi_min, ma_max]
      by_cases k1 : l.Line_X2 + x < l.Line_X1 + x <;> by_cases k2 : l.Line_Y2 + y < l.Line_Y1 + y
      all_goals
        first
          | rw [dec_t k1, cond_true]
          | rw [dec_f k1, cond_false]
        first
          | rw [dec_t k2, cond_true]
          | rw [dec_f k2, cond_false]
        simp only [Bend.mk.injEq, true_and, and_true]
        omega
    · rw [dec_f h0, cond_false]
      have ht0 : t = 0 := by omega
      subst ht0
      have e0 : tL 0 e = e := rfl
      rw [e0]
      unfold ordB at ho
      simp only [Bool.and_eq_true, decide_eq_true_eq] at ho
      rw [dec_f (p := e.Line_X2 + x < e.Line_X1 + x) (by omega), cond_false, dec_f (p := e.Line_Y2 + y < e.Line_Y1 + y) (by omega), cond_false]
theorem fixL_map (t : Nat) : ∀ l : List Bend, (bif decide ((0 : Int) < t) then fixL l (l.map (tL t)) else l.map (tL t)) = l.map (fin t) := by
  intro l
  by_cases h : 0 < t
  · rw [dec_t (by omega : (0 : Int) < t), cond_true]
    induction l with
    | nil => rfl
    | cons e l ih =>
      rw [List.map_cons, List.map_cons, fixL, ih]
      unfold fin
      rw [dec_t h, Bool.true_and]
  · rw [dec_f (by omega : ¬ (0 : Int) < t), cond_false]
    refine List.map_congr_left fun e _ => ?_
    unfold fin
    rw [dec_f h]
    rfl
theorem fin_keep (t : Nat) (e : Bend) : (fin t e).Flange = e.Flange ∧ (fin t e).Parent = e.Parent ∧ (fin t e).Angle = e.Angle ∧ (fin t e).Deduct = e.Deduct := by
  have : ∀ (n : Nat) (e : Bend), (tL n e).Flange = e.Flange ∧ (tL n e).Parent = e.Parent ∧ (tL n e).Angle = e.Angle ∧ (tL n e).Deduct = e.Deduct := by
    intro n
    induction n with
    | zero => intro e; exact ⟨rfl, rfl, rfl, rfl⟩
    | succ n ih => intro e; exact ih _
  unfold fin
  cases decide (0 < t) && ordB e
  · exact this t e
  · exact this t e

theorem bnd_box : ∀ (l : List Rect) (a b c d : Int), box a b c d → (∀ r ∈ l, vR r = true) → near (bnd a b c d l).1 ∧ near (bnd a b c d l).2.1 := by
  intro l
  induction l with
  | nil =>
    intro a b c d h _
    unfold box at h
    exact ⟨by unfold near; show _ ≤ a ∧ a ≤ _; omega, by unfold near; show _ ≤ b ∧ b ≤ _; omega⟩
  | cons r l ih =>
    intro a b c d h hv
    exact ih _ _ _ _ (box_next h (hv r List.mem_cons_self)) (fun x hx => hv x (List.mem_cons_of_mem _ hx))
theorem bndL_near {l : List Rect} (hn : l ≠ []) (hv : ∀ r ∈ l, vR r = true) : near (bndL l).1 ∧ near (bndL l).2.1 := by
  cases l with
  | nil => exact absurd rfl hn
  | cons r l => exact bnd_box l _ _ _ _ (vR_box (hv r List.mem_cons_self)) (fun x hx => hv x (List.mem_cons_of_mem _ hx))
theorem near_neg {a : Int} (h : near a) : near (-a) := by unfold near at *; omega

structure Good (R C M : List Rect) (B : List Bend) : Prop where
  ne : R ≠ []
  r : ∀ x ∈ R, vR x = true
  c : ∀ x ∈ C, vR x = true
  m : ∀ x ∈ M, vR x = true
  b : ∀ x ∈ B, lineOK x = true
theorem good_of {R C M : List Rect} {B : List Bend} (h : wholeB R C M B = true) : Good R C M B := by
  unfold wholeB okL at h
  simp only [Bool.and_eq_true, decide_eq_true_eq, List.all_eq_true] at h
  obtain ⟨⟨h0, ⟨_, h1⟩, ⟨_, h2⟩, ⟨_, h3⟩⟩, h4⟩ := h
  exact ⟨fun e => h0 (by rw [e]; rfl), h1, h2, h3, h4⟩

theorem turned_eq {R C M : List Rect} {B : List Bend} (h : Good R C M B) (t : Nat) : turned R C M B t = (R.map (tR t), C.map (tR t), M.map (tR t), B.map (fin t)) := by
  unfold turned
  rw [Int.toNat_natCast, qF_eq t R C M B h.r h.c h.m h.b]
  simp only
  rw [fixL_map]
theorem rects_eq (t : Nat) (ht : t ≤ 3) {a b c d : Int} (ha : near a) (hb : near b) {l : List Rect} (h : ∀ r ∈ l, vR r = true) : (l.map (tR t)).map (mS a b c d) = l.map (mR t (-a) (-b)) := by
  rw [List.map_map]
  refine List.map_congr_left fun r hr => ?_
  show mS a b c d (tR t r) = _
  rw [mS_eq ha hb (vR_tR t r (h r hr)), mR_eq t ht (near_neg ha) (near_neg hb) (h r hr)]
  rfl
theorem bends_eq (t : Nat) (ht : t ≤ 3) {a b c d : Int} (ha : near a) (hb : near b) {l : List Bend} (h : ∀ r ∈ l, lineOK r = true) : (l.map (fin t)).map (lS a b c d) = l.map (mL t (-a) (-b)) := by
  rw [List.map_map]
  refine List.map_congr_left fun r hr => ?_
  show lS a b c d (fin t r) = _
  rw [lS_eq ha hb (lineOK_fin t (h r hr)), mL_eq t ht (near_neg ha) (near_neg hb) (h r hr)]
  obtain ⟨h1, h2, h3, h4⟩ := fin_keep t r
  rw [h1, h2, h3, h4]
  rfl
theorem moved0 (t : Nat) (ht : t ≤ 3) {l : List Rect} (h : ∀ r ∈ l, vR r = true) : l.map (mR t 0 0) = l.map (tR t) := by
  refine List.map_congr_left fun r hr => ?_
  rw [mR_eq t ht (by unfold near; omega) (by unfold near; omega) (h r hr), Int.add_zero, Int.add_zero]
theorem tR_all (t : Nat) {l : List Rect} (h : ∀ r ∈ l, vR r = true) : ∀ r ∈ l.map (tR t), vR r = true := by
  intro r hr
  obtain ⟨x, hx, rfl⟩ := List.mem_map.1 hr
  exact vR_tR t x (h x hx)

/-- The pattern, turned and settled. -/
def goal (R C M : List Rect) (B : List Bend) (t : Int) : Flat4 :=
  let q := bndL (R.map (mR t 0 0))
  sp_ref03_move_flat t (-q.1) (-q.2.1) R C M B
def answer (f : Flat4) : List Rect × List Rect × List Rect × List Bend × Int :=
  bif wholeB f.1 f.2.1 f.2.2.1 f.2.2.2 then (f.1, f.2.1, f.2.2.1, f.2.2.2, 0) else ([], [], [], [], 4)
theorem check0 (R C M : List Rect) (B : List Bend) : (sp_flat_check R C M B != 0) = !wholeB R C M B := by
  unfold sp_flat_check
  cases wholeB R C M B <;> rfl
theorem settled_eq {R C M : List Rect} {B : List Bend} (h : Good R C M B) (hs : shF R C M B) (t : Nat) (ht : t ≤ 3) :
    let f := turned R C M B t
    pre_flat_settled f.1 f.2.1 f.2.2.1 f.2.2.2 ∧ sp_flat_settled f.1 f.2.1 f.2.2.1 f.2.2.2 = answer (goal R C M B t) := by
  have hne : R.map (tR t) ≠ [] := fun e => h.ne (List.map_eq_nil_iff.1 e)
  obtain ⟨ha, hb⟩ := bndL_near hne (tR_all t h.r)
  obtain ⟨s1, s2, s3, s4⟩ := hs
  have hg : goal R C M B t = ((R.map (tR t)).map (mS (bndL (R.map (tR t))).1 (bndL (R.map (tR t))).2.1 (bndL (R.map (tR t))).2.2.1 (bndL (R.map (tR t))).2.2.2), (C.map (tR t)).map (mS (bndL (R.map (tR t))).1 (bndL (R.map (tR t))).2.1 (bndL (R.map (tR t))).2.2.1 (bndL (R.map (tR t))).2.2.2), (M.map (tR t)).map (mS (bndL (R.map (tR t))).1 (bndL (R.map (tR t))).2.1 (bndL (R.map (tR t))).2.2.1 (bndL (R.map (tR t))).2.2.2), (B.map (fin t)).map (lS (bndL (R.map (tR t))).1 (bndL (R.map (tR t))).2.1 (bndL (R.map (tR t))).2.2.1 (bndL (R.map (tR t))).2.2.2)) := by
    unfold goal
    rw [moved0 t ht h.r, rects_eq t ht ha hb h.r, rects_eq t ht ha hb h.c, rects_eq t ht ha hb h.m, bends_eq t ht ha hb h.b]
    rfl
  rw [turned_eq h t, hg]
  unfold sh at *
  refine ⟨⟨⟨by unfold sh; simpa using s1, hne, tR_all t h.r⟩, ⟨by unfold sh; simpa using s1, by unfold sh; simpa using s2, by unfold sh; simpa using s3, by unfold sh; simpa using s4⟩, ?_⟩, ?_⟩
  · unfold pre_flat_check sh sp_mapS
    simpa using s4
  · unfold sp_flat_settled answer
    rw [check0]
    show cond (!wholeB ((R.map (tR t)).map _) ((C.map (tR t)).map _) ((M.map (tR t)).map _) ((B.map (fin t)).map _)) _ _ = _
    unfold sp_flat_bounds sp_mapS
    simp only
    generalize wholeB _ _ _ _ = k
    cases k <;> rfl
end
end Go.Proofs.Ytohecfbnmmgimaa

namespace Go.Proofs.Ytohecfbnmmgimaa
open Go.Vm Go.RowKit
set_option linter.unusedVariables false
noncomputable section

def inT (t : Int) : Bool := decide (0 ≤ t) && decide (t ≤ 3)
def ans (R C M : List Rect) (B : List Bend) (t : Int) : List Rect × List Rect × List Rect × List Bend × Int :=
  bif wholeB R C M B && inT t then answer (goal R C M B t) else ([], [], [], [], 1)
theorem goal_sh {R C M : List Rect} {B : List Bend} (hs : shF R C M B) (t : Int) : shF4 (goal R C M B t) := by
  obtain ⟨s1, s2, s3, s4⟩ := hs
  unfold sh at *
  unfold goal sp_ref03_move_flat
  refine ⟨?_, ?_, ?_, ?_⟩
  all_goals
    unfold sh
    simp only [List.length_map]
    assumption
theorem answer_sh {f : Flat4} (h : shF4 f) : shF (answer f).1 (answer f).2.1 (answer f).2.2.1 (answer f).2.2.2.1 := by
  unfold answer
  cases wholeB f.1 f.2.1 f.2.2.1 f.2.2.2
  · unfold shF sh
    refine ⟨?_, ?_, ?_, ?_⟩ <;> exact Nat.zero_le _
  · exact h
theorem ans_sh {R C M : List Rect} {B : List Bend} (hs : shF R C M B) (t : Int) : shF (ans R C M B t).1 (ans R C M B t).2.1 (ans R C M B t).2.2.1 (ans R C M B t).2.2.2.1 := by
  unfold ans
  cases wholeB R C M B && inT t
  · unfold shF sh
    refine ⟨?_, ?_, ?_, ?_⟩ <;> exact Nat.zero_le _
  · exact answer_sh (goal_sh hs t)
theorem inT_nat {t : Int} (h : inT t = true) : ∃ n : Nat, t = n ∧ n ≤ 3 := by
  unfold inT at h
  simp only [Bool.and_eq_true, decide_eq_true_eq] at h
  exact ⟨t.toNat, by omega, by omega⟩
theorem badQ_eq (R C M : List Rect) (B : List Bend) (t : Int) : badQ R C M B t = !(wholeB R C M B && inT t) := by
  unfold badQ inT
  rw [check0, Bool.not_and, Bool.not_and, Bool.or_assoc, ← decide_not, ← decide_not]
  congr 1
  congr 1
  · exact decide_eq_decide.2 (by omega)
  · exact decide_eq_decide.2 (by omega)
theorem flatQ {R C M : List Rect} {B : List Bend} (hs : shF R C M B) (t : Int) : pre_flat_Quarter R C M B t ∧ sp_flat_Quarter R C M B t = ans R C M B t := by
  unfold pre_flat_Quarter sp_flat_Quarter ans
  rw [badQ_eq]
  cases h : wholeB R C M B && inT t
  · exact ⟨⟨hs, fun e => by cases e⟩, rfl⟩
  · rw [Bool.and_eq_true] at h
    obtain ⟨n, rfl, hn⟩ := inT_nat h.2
    obtain ⟨h1, h2⟩ := settled_eq (good_of h.1) hs n hn
    exact ⟨⟨hs, fun _ => h1⟩, h2⟩
theorem refQ {R C M : List Rect} {B : List Bend} (hs : shF R C M B) (t : Int) : pre_ref03_Quarter R C M B t ∧ sp_ref03_Quarter R C M B t = ans R C M B t := by
  have hb : ((!(sp_ref03_Whole R C M B)) || (!(sp_ref03_within t 0 3))) = !(wholeB R C M B && inT t) := by
    rw [Bool.not_and]
    rfl
  unfold pre_ref03_Quarter sp_ref03_Quarter ans
  rw [hb]
  cases h : wholeB R C M B && inT t
  · exact ⟨⟨hs.2.2.2, trivial⟩, rfl⟩
  · rw [Bool.and_eq_true] at h
    obtain ⟨n, rfl, hn⟩ := inT_nat h.2
    have g := good_of h.1
    obtain ⟨s1, s2, s3, s4⟩ := hs
    have hn' : (0 : Int) ≤ (n : Int) ∧ (n : Int) ≤ 3 := by omega
    have hm := moved0 n hn g.r
    have hne : R.map (mR n 0 0) ≠ [] := fun e => g.ne (List.map_eq_nil_iff.1 e)
    have hv : ∀ r ∈ R.map (mR n 0 0), vR r = true := by rw [hm]; exact tR_all n g.r
    obtain ⟨ha, hbb⟩ := bndL_near hne hv
    have z0 : near 0 := by unfold near; omega
    have e1 : w64 (0 - (sp_ref03_bounds (sp_ref03_move_rects n 0 0 R)).1) = -(bndL (R.map (mR n 0 0))).1 := by
      unfold sp_ref03_bounds sp_ref03_move_rects
      unfold near at ha
      rw [w64_s (by omega) (by omega)]
      omega
    have e2 : w64 (0 - (sp_ref03_bounds (sp_ref03_move_rects n 0 0 R)).2.1) = -(bndL (R.map (mR n 0 0))).2.1 := by
      unfold sp_ref03_bounds sp_ref03_move_rects
      unfold near at hbb
      rw [w64_s (by omega) (by omega)]
      omega
    rw [e1, e2]
    have hk : shF4 (goal R C M B n) := goal_sh ⟨s1, s2, s3, s4⟩ n
    refine ⟨⟨s4, ⟨s1, fun r hr => preR_of hn' z0 z0 (g.r r hr)⟩, ⟨by unfold sp_ref03_move_rects sh at *; rw [List.length_map]; exact s1, hne, hv⟩, ⟨⟨s1, fun r hr => preR_of hn' (near_neg ha) (near_neg hbb) (g.r r hr)⟩, ⟨s2, fun r hr => preR_of hn' (near_neg ha) (near_neg hbb) (g.c r hr)⟩, ⟨s3, fun r hr => preR_of hn' (near_neg ha) (near_neg hbb) (g.m r hr)⟩, s4, fun b hb => preL_of hn' (near_neg ha) (near_neg hbb) (g.b b hb)⟩, hk.2.2.2⟩, ?_⟩
    show cond (!wholeB (goal R C M B n).1 (goal R C M B n).2.1 (goal R C M B n).2.2.1 (goal R C M B n).2.2.2) _ ((goal R C M B n).1, (goal R C M B n).2.1, (goal R C M B n).2.2.1, (goal R C M B n).2.2.2, 0) = cond true (answer (goal R C M B n)) _
    unfold answer
    generalize goal R C M B n = f
    cases wholeB f.1 f.2.1 f.2.2.1 f.2.2.2 <;> rfl
theorem turned0 {R C M : List Rect} {B : List Bend} : turned R C M B ((0 : Nat) : Int) = (R, C, M, B) := rfl
theorem settleQ {R C M : List Rect} {B : List Bend} (hs : shF R C M B) : pre_flat_Settle R C M B ∧ sp_flat_Settle R C M B = ans R C M B 0 := by
  unfold pre_flat_Settle sp_flat_Settle ans
  rw [check0, show inT 0 = true from rfl, Bool.and_true]
  cases h : wholeB R C M B
  · refine ⟨⟨hs.2.2.2, trivial⟩, ?_⟩
    show (_, _, _, _, sp_flat_check R C M B) = _
    unfold sp_flat_check
    rw [h]
    rfl
  · obtain ⟨h1, h2⟩ := settled_eq (good_of h) hs 0 (by omega)
    rw [turned0] at h1 h2
    exact ⟨⟨hs.2.2.2, h1⟩, h2⟩
theorem boundsQ {R C M : List Rect} {B : List Bend} (hs : shF R C M B) : pre_flat_Bounds R C M B ∧ pre_ref03_Bounds R C M B ∧ sp_flat_Bounds R C M B = sp_ref03_Bounds R C M B := by
  unfold pre_flat_Bounds sp_flat_Bounds pre_ref03_Bounds sp_ref03_Bounds sp_ref03_Whole
  rw [check0]
  cases h : wholeB R C M B
  · refine ⟨⟨hs.2.2.2, trivial⟩, ⟨hs.2.2.2, trivial⟩, ?_⟩
    show (_, _, _, _, sp_flat_check R C M B) = _
    unfold sp_flat_check
    rw [h]
    rfl
  · have g := good_of h
    exact ⟨⟨hs.2.2.2, hs.1, g.ne, g.r⟩, ⟨hs.2.2.2, hs.1, g.ne, g.r⟩, rfl⟩

theorem eqR_refl (x : Rect) : eqR x x = true := by unfold eqR; simp
theorem eqB_refl (x : Bend) : eqB x x = true := by unfold eqB; simp
theorem same_refl (R C M : List Rect) (B : List Bend) : sp_ref03_SameFlat R C M B R C M B = true := by
  unfold sp_ref03_SameFlat
  rw [zipAll_refl _ eqR_refl, zipAll_refl _ eqR_refl, zipAll_refl _ eqR_refl, zipAll_refl _ eqB_refl]
  rfl
theorem valid_iffQ {n d : Int} : sp_flat_valid n d = true ↔ (1 ≤ d ∧ d ≤ 4096 ∧ -16777216 ≤ n ∧ n ≤ 16777216) := by
  simp [sp_flat_valid, and_assoc]
theorem valid_bigQ {n d : Int} (h : sp_flat_valid n d = true) : bigOK n d := by
  obtain ⟨h1, h2, h3, h4⟩ := valid_iffQ.1 h
  exact ⟨by omega, by omega, by omega, by omega⟩
theorem pre_ReduceQ (n d : Int) : pre_flat_Reduce n d := by
  unfold pre_flat_Reduce
  cases h : sp_flat_valid n d
  · trivial
  · exact valid_bigQ h
theorem times720Q {n d : Int} (h : sp_flat_valid n d = true) : w64 (n * 720) = n * 720 ∧ w64 (d * 1) = d ∧ bigOK (n * 720) d := by
  obtain ⟨h1, h2, h3, h4⟩ := valid_iffQ.1 h
  exact ⟨w64_of (by omega) (by omega), by rw [w64_of (by omega) (by omega)]; omega, by omega, by omega, by omega, by omega⟩
theorem pre_TicksQ (n d : Int) : pre_flat_Ticks n d := by
  unfold pre_flat_Ticks
  cases h : sp_flat_valid n d
  · trivial
  · obtain ⟨e1, e2, e3⟩ := times720Q h
    show bigOK (w64 (n * 720)) (w64 (d * 1))
    rw [e1, e2]
    exact e3
theorem known_pre' : pre_law03_known := ⟨pre_ReduceQ _ _, pre_TicksQ _ _⟩
theorem known_true' : sp_law03_known = true := by decide +kernel

theorem lp_law (F : Nat) (x0 : Bool → Int → List Rect → List Rect → List Rect → List Bend → List Rect → List Rect → List Rect → List Bend → List Rect → List Rect → List Rect → List Bend → Prop) (k : Bool) (R C M : List Rect) (B : List Bend) (R' C' M' : List Rect) (B' : List Bend) (V W : List Rect) (Y : List Bend) (len : Nat) (hl : len ≤ 1000) : ∀ (n i : Nat) (U : List Rect), U.length = len → i ≤ len → len < i + n →
    (∀ U j, x0 k j R C M B R' C' M' B' U V W Y) → w_law03_FlatSettles_0 F x0 n k i R C M B R' C' M' B' U V W Y := by
  intro n
  induction n with
  | zero => intro i U h0 h1 h2; omega
  | succ n ih =>
    intro i U h0 h1 h2 e
    show g_law03_FlatSettles_s0 (w_law03_FlatSettles_0 F x0 n) x0 k i R C M B R' C' M' B' U V W Y
    unfold g_law03_FlatSettles_s0
    by_cases h : i < len
    · rw [dec_t (by omega), cond_true]
      refine ⟨by omega, ?_⟩
      rw [w64_succ h (by omega)]
      exact ih _ _ (by rw [List.length_set]; exact h0) (by omega) (by omega) e
    · rw [dec_f (by omega), cond_false]
      exact e _ _
theorem law_settles (R C M : List Rect) (B : List Bend) (t : Int) : w_law03_FlatSettles 1001 R C M B t (fun r => r = true) := by
  unfold w_law03_FlatSettles g_law03_FlatSettles_e n_law03_FlatSettles_0
  show cond (sp_law03_Long R C M B) _ _
  cases hl : sp_law03_Long R C M B
  · rw [cond_false]
    have hs : shF R C M B := by
      unfold sp_law03_Long at hl
      simp only [Bool.or_eq_false_iff, decide_eq_false_iff_not] at hl
      unfold shF sh
      omega
    obtain ⟨b1, b2, b3⟩ := boundsQ hs
    obtain ⟨s1, s2⟩ := settleQ hs
    obtain ⟨f1, f2⟩ := flatQ hs t
    obtain ⟨r1, r2⟩ := refQ hs t
    obtain ⟨q1, q2⟩ := refQ hs 0
    refine ⟨hs, b1, b2, s1, q1, f1, r1, ?_⟩
    show (_ ∧ _) ∧ _
    change ((_ → pre_ref03_SameFlat (sp_flat_Settle R C M B).1 (sp_flat_Settle R C M B).2.1 (sp_flat_Settle R C M B).2.2.1 (sp_flat_Settle R C M B).2.2.2.1 _ _ _ _) ∧ (_ → pre_ref03_SameFlat (sp_flat_Quarter R C M B t).1 (sp_flat_Quarter R C M B t).2.1 (sp_flat_Quarter R C M B t).2.2.1 (sp_flat_Quarter R C M B t).2.2.2.1 _ _ _ _)) ∧ _
    refine ⟨⟨fun _ => ?_, fun _ => ?_⟩, ?_⟩
    · rw [s2]
      exact ans_sh hs 0
    · rw [f2]
      exact ans_sh hs t
    have ht : ((((((((sp_flat_Bounds R C M B).1 == (sp_ref03_Bounds R C M B).1) && (((sp_flat_Bounds R C M B).2.1 == (sp_ref03_Bounds R C M B).2.1) && (((sp_flat_Bounds R C M B).2.2.1 == (sp_ref03_Bounds R C M B).2.2.1) && (((sp_flat_Bounds R C M B).2.2.2.1 == (sp_ref03_Bounds R C M B).2.2.2.1) && true)))) && ((sp_flat_Bounds R C M B).2.2.2.2 == (sp_ref03_Bounds R C M B).2.2.2.2)) && (sp_ref03_SameFlat (sp_flat_Settle R C M B).1 (sp_flat_Settle R C M B).2.1 (sp_flat_Settle R C M B).2.2.1 (sp_flat_Settle R C M B).2.2.2.1 (sp_ref03_Quarter R C M B 0).1 (sp_ref03_Quarter R C M B 0).2.1 (sp_ref03_Quarter R C M B 0).2.2.1 (sp_ref03_Quarter R C M B 0).2.2.2.1)) && ((sp_flat_Settle R C M B).2.2.2.2 == (sp_ref03_Quarter R C M B 0).2.2.2.2)) && (sp_ref03_SameFlat (sp_flat_Quarter R C M B t).1 (sp_flat_Quarter R C M B t).2.1 (sp_flat_Quarter R C M B t).2.2.1 (sp_flat_Quarter R C M B t).2.2.2.1 (sp_ref03_Quarter R C M B t).1 (sp_ref03_Quarter R C M B t).2.1 (sp_ref03_Quarter R C M B t).2.2.1 (sp_ref03_Quarter R C M B t).2.2.2.1)) && ((sp_flat_Quarter R C M B t).2.2.2.2 == (sp_ref03_Quarter R C M B t).2.2.2.2)) = true := by
      rw [b3, s2, q2, f2, r2, same_refl, same_refl]
      simp
    have hlen : (sp_flat_Quarter R C M B t).1.length ≤ 1000 := by
      rw [f2]
      exact (ans_sh hs t).1
    refine lp_law _ _ _ _ _ _ _ _ _ _ _ _ _ _ _ hlen 1001 0 _ rfl (by omega) (by omega) (fun U j => ?_)
    change ((_ → shF R C M B) ∧ (_ → pre_law03_known)) ∧ ((_ && sp_ref03_SameFlat R C M B R C M B) && sp_law03_known) = true
    refine ⟨⟨fun _ => hs, fun _ => known_pre'⟩, ?_⟩
    rw [same_refl, known_true']
    change ((_ && true) && true) = true
    rw [Bool.and_true, Bool.and_true]
    exact ht
  · exact ⟨known_pre', known_true'⟩
end
end Go.Proofs.Ytohecfbnmmgimaa

namespace Go.Proofs.Ytohecfbnmmgimaa
open Go.Vm Go.RowKit
set_option linter.unusedVariables false
noncomputable section

/-! ### sums, turned and moved -/
theorem S_rev (f : Int → Int) : ∀ (n : Nat) (lo : Int), S (fun x => f (-x - 1)) lo n = S f (-lo - n) n := by
  intro n
  induction n with
  | zero => intro lo; rfl
  | succ n ih =>
    intro lo
    show S (fun x => f (-x - 1)) lo n + f (-(lo + n) - 1) = _
    rw [ih, show n + 1 = 1 + n by omega, S_add]
    show _ = (0 + f (-lo - ((1 + n : Nat) : Int) + ((0 : Nat) : Int))) + S f (-lo - ((1 + n : Nat) : Int) + ((1 : Nat) : Int)) n
    rw [show -lo - ((1 + n : Nat) : Int) + ((1 : Nat) : Int) = -lo - n by omega, show -lo - ((1 + n : Nat) : Int) + ((0 : Nat) : Int) = -(lo + n) - 1 by omega]
    omega
theorem A1_rev (f : Int → Int) : A1 (fun x => f (-x - 1)) = A1 f := by
  unfold A1
  rw [S_rev, show -(-1048576 : Int) - (NN : Int) = -1048576 from by unfold NN; omega]
theorem S_shift (f : Int → Int) (u : Int) : ∀ (n : Nat) (lo : Int), S (fun x => f (x - u)) lo n = S f (lo - u) n := by
  intro n
  induction n with
  | zero => intro lo; rfl
  | succ n ih =>
    intro lo
    show S (fun x => f (x - u)) lo n + f (lo + n - u) = S f (lo - u) n + f (lo - u + n)
    rw [ih, show lo + (n : Int) - u = lo - u + n by omega]
theorem A1_shift (f : Int → Int) (u : Int) (h : ∀ x, f x ≠ 0 → -1048576 ≤ x ∧ x < 1048576 ∧ -1048576 ≤ x + u ∧ x + u < 1048576) : A1 (fun x => f (x - u)) = A1 f := by
  unfold A1
  rw [S_shift]
  have hz : ∀ (lo : Int) (n : Nat), (∀ x, lo ≤ x → x < lo + n → f x = 0) → S f lo n = 0 := fun lo n h => by rw [S_const h]; omega
  have hN : (NN : Int) = 2097152 := rfl
  by_cases hu : 0 ≤ u
  · obtain ⟨k, rfl⟩ : ∃ k : Nat, u = k := ⟨u.toNat, by omega⟩
    have e1 := S_add f (-1048576 - k) k NN
    have e2 := S_add f (-1048576 - k) NN k
    rw [show k + NN = NN + k by omega, e2, show -1048576 - (k : Int) + k = -1048576 by omega] at e1
    rw [hz (-1048576 - k + (NN : Int)) k (fun x h1 h2 => by
      refine Classical.byContradiction fun hne => ?_
      have := h x hne
      omega), hz (-1048576 - k) k (fun x h1 h2 => by
      refine Classical.byContradiction fun hne => ?_
      have := h x hne
      omega)] at e1
    omega
  · obtain ⟨k, rfl⟩ : ∃ k : Nat, u = -(k : Int) := ⟨(-u).toNat, by omega⟩
    have e1 := S_add f (-1048576) k NN
    have e2 := S_add f (-1048576) NN k
    rw [show k + NN = NN + k by omega, e2] at e1
    rw [hz (-1048576 + (NN : Int)) k (fun x h1 h2 => by
      refine Classical.byContradiction fun hne => ?_
      have := h x hne
      omega), hz (-1048576) k (fun x h1 h2 => by
      refine Classical.byContradiction fun hne => ?_
      have := h x hne
      omega)] at e1
    rw [show (-1048576 : Int) - -(k : Int) = -1048576 + k by omega]
    omega
theorem A_turn (p : Int → Int → Bool) : A (fun a b => p b (-a - 1)) = A p := by
  rw [A_swap]
  unfold A
  exact A1_congr fun x => A1_rev fun y => b2i (p x y)
theorem A_shift (p : Int → Int → Bool) (u v : Int) (h : ∀ x y, p x y = true → (-1048576 ≤ x ∧ x < 1048576 ∧ -1048576 ≤ x + u ∧ x + u < 1048576) ∧ (-1048576 ≤ y ∧ y < 1048576 ∧ -1048576 ≤ y + v ∧ y + v < 1048576)) : A (fun x y => p (x - u) (y - v)) = A p := by
  unfold A
  have e : ∀ x, A1 (fun y => b2i (p x (y - v))) = A1 (fun y => b2i (p x y)) := fun x => A1_shift (fun y => b2i (p x y)) v fun y hy => by
    refine (h x y ?_).2
    cases hp : p x y
    · exact absurd (by show b2i (p x y) = 0; rw [hp]; rfl) hy
    · rfl
  have e2 : (fun x => A1 fun y => b2i (p (x - u) (y - v))) = fun x => (fun z => A1 fun y => b2i (p z y)) (x - u) := funext fun x => e (x - u)
  rw [e2]
  refine A1_shift (fun z => A1 fun y => b2i (p z y)) u fun x hx => ?_
  refine Classical.byContradiction fun hne => hx ?_
  refine (A1_congr (g := fun _ => 0) fun y => ?_).trans (S_zero _ _)
  cases hp : p x y
  · rfl
  · exact absurd (h x y hp).1 hne

/-! ### surfaces, turned and moved -/
def turn1 (r : Rect) : Rect := Rect.mk (-r.Y - r.H) r.X r.H r.W
def shR (u v : Int) (r : Rect) : Rect := Rect.mk (r.X + u) (r.Y + v) r.W r.H
theorem inB_turn (r : Rect) (a b : Int) : inB (turn1 r) a b = inB r b (-a - 1) := by
  rw [Bool.eq_iff_iff, inB_iff, inB_iff]
  unfold turn1
  dsimp only
  omega
theorem inB_sh (u v : Int) (r : Rect) (a b : Int) : inB (shR u v r) a b = inB r (a - u) (b - v) := by
  rw [Bool.eq_iff_iff, inB_iff, inB_iff]
  unfold shR
  dsimp only
  omega
theorem cov_turn (l : List Rect) (a b : Int) : covB (l.map turn1) a b = covB l b (-a - 1) := by
  unfold covB
  rw [List.any_map]
  congr 1
  funext r
  exact inB_turn r a b
theorem cov_sh (u v : Int) (l : List Rect) (a b : Int) : covB (l.map (shR u v)) a b = covB l (a - u) (b - v) := by
  unfold covB
  rw [List.any_map]
  congr 1
  funext r
  exact inB_sh u v r a b
theorem surf_turn (R C : List Rect) : surf (R.map turn1) (C.map turn1) = surf R C := by
  unfold surf
  rw [← A_turn (fun x y => covB R x y && !covB C x y)]
  exact A_congr fun a b => by rw [cov_turn, cov_turn]
theorem surf_tR : ∀ (n : Nat) (R C : List Rect), surf (R.map (tR n)) (C.map (tR n)) = surf R C
  | 0, R, C => by
    have : tR 0 = id := funext fun r => rfl
    rw [this, List.map_id, List.map_id]
  | n + 1, R, C => by
    have : tR (n + 1) = tR n ∘ turn1 := funext fun r => rfl
    rw [this, ← List.map_map, ← List.map_map, surf_tR n, surf_turn]
theorem surf_sh (u v : Int) (R C : List Rect) (h1 : ∀ r ∈ R, vR r = true) (h2 : ∀ r ∈ R.map (shR u v), vR r = true) : surf (R.map (shR u v)) (C.map (shR u v)) = surf R C := by
  unfold surf
  rw [← A_shift (fun x y => covB R x y && !covB C x y) u v fun x y h => ?_]
  · exact A_congr fun a b => by rw [cov_sh, cov_sh]
  · rw [Bool.and_eq_true] at h
    obtain ⟨r, hr, hi⟩ := (covB_iff _ _ _).1 h.1
    have b1 := (vR_iff _).1 (h1 r hr)
    have b2 := (vR_iff _).1 (h2 _ (List.mem_map_of_mem hr))
    rw [inB_iff] at hi
    unfold shR at b2
    dsimp only at b2
    omega
theorem surf_goal {R C M : List Rect} {B : List Bend} (t : Nat) (ht : t ≤ 3) (g : Good R C M B) (g' : Good (goal R C M B t).1 (goal R C M B t).2.1 (goal R C M B t).2.2.1 (goal R C M B t).2.2.2) : surf (goal R C M B t).1 (goal R C M B t).2.1 = surf R C := by
  have hm := moved0 t ht g.r
  have hne : R.map (tR t) ≠ [] := fun e => g.ne (List.map_eq_nil_iff.1 e)
  obtain ⟨ha, hb⟩ := bndL_near hne (tR_all t g.r)
  have hr := g'.r
  revert hr
  unfold goal sp_ref03_move_flat
  dsimp only
  rw [hm]
  generalize bndL (R.map (tR t)) = q at ha hb
  have key : ∀ l : List Rect, (∀ r ∈ l, vR r = true) → l.map (mR t (-q.1) (-q.2.1)) = (l.map (tR t)).map (shR (-q.1) (-q.2.1)) := fun l hl => by
    rw [List.map_map]
    exact List.map_congr_left fun r hr => mR_eq t ht (near_neg ha) (near_neg hb) (hl r hr)
  rw [key R g.r, key C g.c]
  intro hr
  rw [surf_sh _ _ _ _ (tR_all t g.r) hr, surf_tR]

/-! ### turns add up -/
theorem tR_add : ∀ (a b : Nat) (r : Rect), tR b (tR a r) = tR (a + b) r
  | 0, b, r => by rw [Nat.zero_add]; rfl
  | a + 1, b, r => by
    rw [show a + 1 + b = (a + b) + 1 by omega]
    exact tR_add a b _
theorem tR_four (n : Nat) (r : Rect) : tR (n + 4) r = tR n r := by
  show tR n _ = tR n r
  congr 1
  show Rect.mk _ _ _ _ = Rect.mk r.X r.Y r.W r.H
  congr 1
  all_goals dsimp only
  all_goals omega
theorem tR_mod (a b : Nat) (ha : a ≤ 3) (hb : b ≤ 3) (r : Rect) : tR b (tR a r) = tR ((a + b) % 4) r := by
  rw [tR_add]
  by_cases h : a + b < 4
  · rw [Nat.mod_eq_of_lt h]
  · obtain ⟨k, hk⟩ : ∃ k, a + b = k + 4 := ⟨a + b - 4, by omega⟩
    rw [hk, tR_four, Nat.add_mod_right, Nat.mod_eq_of_lt (by omega)]
theorem tL_add : ∀ (a b : Nat) (r : Bend), tL b (tL a r) = tL (a + b) r
  | 0, b, r => by rw [Nat.zero_add]; rfl
  | a + 1, b, r => by
    rw [show a + 1 + b = (a + b) + 1 by omega]
    exact tL_add a b _
theorem tL_four (n : Nat) (r : Bend) : tL (n + 4) r = tL n r := by
  show tL n _ = tL n r
  congr 1
  show Bend.mk _ _ _ _ _ _ _ _ = Bend.mk r.Flange r.Parent r.Line_X1 r.Line_Y1 r.Line_X2 r.Line_Y2 r.Angle r.Deduct
  dsimp only
  rw [Int.neg_neg, Int.neg_neg, Int.neg_neg, Int.neg_neg]
theorem tL_mod (a b : Nat) (ha : a ≤ 3) (hb : b ≤ 3) (r : Bend) : tL b (tL a r) = tL ((a + b) % 4) r := by
  rw [tL_add]
  by_cases h : a + b < 4
  · rw [Nat.mod_eq_of_lt h]
  · obtain ⟨k, hk⟩ : ∃ k, a + b = k + 4 := ⟨a + b - 4, by omega⟩
    rw [hk, tL_four, Nat.add_mod_right, Nat.mod_eq_of_lt (by omega)]
theorem rot_sh : ∀ (t : Nat) (u v : Int) (r : Rect), tR t (shR u v r) = shR (rot t u v).1 (rot t u v).2 (tR t r)
  | 0, u, v, r => rfl
  | t + 1, u, v, r => by
    have e : Rect.mk (-(shR u v r).Y - (shR u v r).H) (shR u v r).X (shR u v r).H (shR u v r).W = shR (-v) u (Rect.mk (-r.Y - r.H) r.X r.H r.W) := by
      unfold shR
      dsimp only
      congr 1
      omega
    show tR t (Rect.mk (-(shR u v r).Y - (shR u v r).H) (shR u v r).X (shR u v r).H (shR u v r).W) = _
    rw [e, rot_sh t]
    rfl
def shL (u v : Int) (e : Bend) : Bend := Bend.mk e.Flange e.Parent (e.Line_X1 + u) (e.Line_Y1 + v) (e.Line_X2 + u) (e.Line_Y2 + v) e.Angle e.Deduct
theorem rot_shL : ∀ (t : Nat) (u v : Int) (e : Bend), tL t (shL u v e) = shL (rot t u v).1 (rot t u v).2 (tL t e)
  | 0, u, v, r => rfl
  | t + 1, u, v, r => by
    have e : Bend.mk (shL u v r).Flange (shL u v r).Parent (-(shL u v r).Line_Y1) (shL u v r).Line_X1 (-(shL u v r).Line_Y2) (shL u v r).Line_X2 (shL u v r).Angle (shL u v r).Deduct = shL (-v) u (Bend.mk r.Flange r.Parent (-r.Line_Y1) r.Line_X1 (-r.Line_Y2) r.Line_X2 r.Angle r.Deduct) := by
      unfold shL
      dsimp only
      congr 1 <;> omega
    show tL t (Bend.mk (shL u v r).Flange (shL u v r).Parent (-(shL u v r).Line_Y1) (shL u v r).Line_X1 (-(shL u v r).Line_Y2) (shL u v r).Line_X2 (shL u v r).Angle (shL u v r).Deduct) = _
    rw [e, rot_shL t]
    rfl
theorem sortL_sh (u v : Int) (e : Bend) : sortL (shL u v e) = shL u v (sortL e) := by
  unfold sortL shL
  dsimp only
  simp only [mi_min, ma_max]
  congr 1 <;> omega
theorem sort_ord (e : Bend) : ordB (sortL e) = true := by
  unfold ordB sortL
  simp only [mi_min, ma_max, Bool.and_eq_true, decide_eq_true_eq]
  omega
theorem ord_sort {e : Bend} (h : ordB e = true) : sortL e = e := by
  unfold ordB at h
  simp only [Bool.and_eq_true, decide_eq_true_eq] at h
  unfold sortL
  show _ = Bend.mk e.Flange e.Parent e.Line_X1 e.Line_Y1 e.Line_X2 e.Line_Y2 e.Angle e.Deduct
  simp only [mi_min, ma_max]
  congr 1 <;> omega
theorem ord_sh (u v : Int) {e : Bend} (h : ordB e = true) : ordB (shL u v e) = true := by
  unfold ordB shL at *
  simp only [Bool.and_eq_true, decide_eq_true_eq] at *
  omega
theorem sort_step (e : Bend) : sortL (tL 1 (sortL e)) = sortL (tL 1 e) := by
  unfold tL tL sortL
  simp only [mi_min, ma_max]
  congr 1 <;> omega
theorem sort_turns : ∀ (t : Nat) (e : Bend), sortL (tL t (sortL e)) = sortL (tL t e)
  | 0, e => ord_sort (sort_ord e)
  | t + 1, e => by
    have h1 : ∀ e, tL (t + 1) e = tL t (tL 1 e) := fun _ => rfl
    rw [h1, h1, ← sort_turns t (tL 1 (sortL e)), sort_step, sort_turns t]
theorem fin_ord {t : Nat} {e : Bend} (h : ordB e = true) : fin t e = sortL (tL t e) := by
  unfold fin
  rw [h, Bool.and_true]
  by_cases ht : 0 < t
  · rw [dec_t ht]; rfl
  · have : t = 0 := by omega
    subst this
    rw [dec_f ht]
    exact (ord_sort h).symm
theorem mL_sh (t : Nat) (ht : t ≤ 3) {x y : Int} (hx : near x) (hy : near y) {e : Bend} (he : lineOK e = true) : mL t x y e = shL x y (fin t e) := by
  obtain ⟨h1, h2, h3, h4⟩ := fin_keep t e
  rw [mL_eq t ht hx hy he]
  unfold shL
  rw [h1, h2, h3, h4]
theorem sh_sh (u v x y : Int) (r : Rect) : shR u v (shR x y r) = shR (x + u) (y + v) r := by
  unfold shR
  dsimp only
  congr 1 <;> omega
theorem sh_shL (u v x y : Int) (r : Bend) : shL u v (shL x y r) = shL (x + u) (y + v) r := by
  unfold shL
  dsimp only
  congr 1 <;> omega
theorem bnd_sh (u v : Int) : ∀ (l : List Rect) (a b c d : Int), (bnd (a + u) (b + v) (c + u) (d + v) (l.map (shR u v))).1 = (bnd a b c d l).1 + u ∧ (bnd (a + u) (b + v) (c + u) (d + v) (l.map (shR u v))).2.1 = (bnd a b c d l).2.1 + v := by
  intro l
  induction l with
  | nil => intro a b c d; exact ⟨rfl, rfl⟩
  | cons r l ih =>
    intro a b c d
    rw [List.map_cons]
    unfold bnd
    have := ih (min a r.X) (min b r.Y) (max c (r.X + r.W)) (max d (r.Y + r.H))
    rw [show min (a + u) (shR u v r).X = min a r.X + u by unfold shR; dsimp only; omega, show min (b + v) (shR u v r).Y = min b r.Y + v by unfold shR; dsimp only; omega,
      show max (c + u) ((shR u v r).X + (shR u v r).W) = max c (r.X + r.W) + u by unfold shR; dsimp only; omega, show max (d + v) ((shR u v r).Y + (shR u v r).H) = max d (r.Y + r.H) + v by unfold shR; dsimp only; omega]
    exact this
theorem bndL_sh (u v : Int) {l : List Rect} (h : l ≠ []) : (bndL (l.map (shR u v))).1 = (bndL l).1 + u ∧ (bndL (l.map (shR u v))).2.1 = (bndL l).2.1 + v := by
  cases l with
  | nil => exact absurd rfl h
  | cons r l =>
    have e1 : bndL ((r :: l).map (shR u v)) = bnd (shR u v r).X (shR u v r).Y ((shR u v r).X + (shR u v r).W) ((shR u v r).Y + (shR u v r).H) (l.map (shR u v)) := rfl
    have e2 : bndL (r :: l) = bnd r.X r.Y (r.X + r.W) (r.Y + r.H) l := rfl
    rw [e1, e2, show (shR u v r).X + (shR u v r).W = r.X + r.W + u by unfold shR; dsimp only; omega, show (shR u v r).Y + (shR u v r).H = r.Y + r.H + v by unfold shR; dsimp only; omega]
    exact bnd_sh u v l r.X r.Y (r.X + r.W) (r.Y + r.H)
/-- A pattern, turned and settled, in plain steps. -/
theorem goal_eq {R C M : List Rect} {B : List Bend} (t : Nat) (ht : t ≤ 3) (g : Good R C M B) :
    goal R C M B t = ((R.map (tR t)).map (shR (-(bndL (R.map (tR t))).1) (-(bndL (R.map (tR t))).2.1)), (C.map (tR t)).map (shR (-(bndL (R.map (tR t))).1) (-(bndL (R.map (tR t))).2.1)), (M.map (tR t)).map (shR (-(bndL (R.map (tR t))).1) (-(bndL (R.map (tR t))).2.1)), (B.map (fin t)).map (shL (-(bndL (R.map (tR t))).1) (-(bndL (R.map (tR t))).2.1))) := by
  have hm := moved0 t ht g.r
  have hne : R.map (tR t) ≠ [] := fun e => g.ne (List.map_eq_nil_iff.1 e)
  obtain ⟨ha, hb⟩ := bndL_near hne (tR_all t g.r)
  unfold goal sp_ref03_move_flat
  dsimp only
  rw [hm]
  generalize bndL (R.map (tR t)) = q at ha hb
  have key : ∀ l : List Rect, (∀ r ∈ l, vR r = true) → l.map (mR t (-q.1) (-q.2.1)) = (l.map (tR t)).map (shR (-q.1) (-q.2.1)) := fun l hl => by
    rw [List.map_map]
    exact List.map_congr_left fun r hr => mR_eq t ht (near_neg ha) (near_neg hb) (hl r hr)
  have keyL : B.map (mL t (-q.1) (-q.2.1)) = (B.map (fin t)).map (shL (-q.1) (-q.2.1)) := by
    rw [List.map_map]
    exact List.map_congr_left fun e he => mL_sh t ht (near_neg ha) (near_neg hb) (g.b e he)
  rw [key R g.r, key C g.c, key M g.m, keyL]
theorem goal_goal {R C M : List Rect} {B : List Bend} (a b : Nat) (ha : a ≤ 3) (hb : b ≤ 3) (g : Good R C M B) (ho : ∀ e ∈ B, ordB e = true)
    (g' : Good (goal R C M B a).1 (goal R C M B a).2.1 (goal R C M B a).2.2.1 (goal R C M B a).2.2.2) :
    goal (goal R C M B a).1 (goal R C M B a).2.1 (goal R C M B a).2.2.1 (goal R C M B a).2.2.2 b = goal R C M B (((a + b) % 4 : Nat) : Int) := by
  rw [goal_eq b hb g', goal_eq ((a + b) % 4) (by omega) g, goal_eq a ha g]
  dsimp only
  have hne : R.map (tR ((a + b) % 4)) ≠ [] := fun e => g.ne (List.map_eq_nil_iff.1 e)
  generalize -(bndL (R.map (tR a))).1 = u
  generalize -(bndL (R.map (tR a))).2.1 = v
  have key : ∀ l : List Rect, ((l.map (tR a)).map (shR u v)).map (tR b) = (l.map (tR ((a + b) % 4))).map (shR (rot b u v).1 (rot b u v).2) := fun l => by
    rw [List.map_map, List.map_map, List.map_map]
    refine List.map_congr_left fun r _ => ?_
    show tR b (shR u v (tR a r)) = shR _ _ (tR ((a + b) % 4) r)
    rw [rot_sh, tR_mod a b ha hb]
  have keyL : ((B.map (fin a)).map (shL u v)).map (fin b) = (B.map (fin ((a + b) % 4))).map (shL (rot b u v).1 (rot b u v).2) := by
    rw [List.map_map, List.map_map, List.map_map]
    refine List.map_congr_left fun e he => ?_
    show fin b (shL u v (fin a e)) = shL _ _ (fin ((a + b) % 4) e)
    have h1 := ho e he
    rw [fin_ord h1, fin_ord (t := (a + b) % 4) h1, fin_ord (ord_sh u v (sort_ord _)), rot_shL, sortL_sh, sort_turns, tL_mod a b ha hb]
  rw [key, key, key, keyL]
  obtain ⟨q1, q2⟩ := bndL_sh (rot b u v).1 (rot b u v).2 hne
  rw [q1, q2]
  generalize (rot b u v).1 = x
  generalize (rot b u v).2 = y
  generalize (bndL (R.map (tR ((a + b) % 4)))).1 = p
  generalize (bndL (R.map (tR ((a + b) % 4)))).2.1 = q
  have kk : ∀ l : List Rect, (l.map (shR x y)).map (shR (-(p + x)) (-(q + y))) = l.map (shR (-p) (-q)) := fun l => by
    rw [List.map_map]
    refine List.map_congr_left fun r _ => ?_
    show shR _ _ (shR x y r) = _
    rw [sh_sh, show x + -(p + x) = -p by omega, show y + -(q + y) = -q by omega]
  have kl : ∀ l : List Bend, (l.map (shL x y)).map (shL (-(p + x)) (-(q + y))) = l.map (shL (-p) (-q)) := fun l => by
    rw [List.map_map]
    refine List.map_congr_left fun r _ => ?_
    show shL _ _ (shL x y r) = _
    rw [sh_shL, show x + -(p + x) = -p by omega, show y + -(q + y) = -q by omega]
  rw [kk, kk, kk, kl]

/-! ### the law -/
theorem ans_ok {R C M : List Rect} {B : List Bend} {t : Int} (h : (ans R C M B t).2.2.2.2 = 0) : wholeB R C M B = true ∧ inT t = true ∧ wholeB (goal R C M B t).1 (goal R C M B t).2.1 (goal R C M B t).2.2.1 (goal R C M B t).2.2.2 = true ∧
    ans R C M B t = ((goal R C M B t).1, (goal R C M B t).2.1, (goal R C M B t).2.2.1, (goal R C M B t).2.2.2, 0) := by
  unfold ans at *
  cases h1 : wholeB R C M B && inT t
  · rw [h1] at h; cases h
  · rw [h1] at h
    rw [Bool.and_eq_true] at h1
    simp only [cond_true] at h ⊢
    unfold answer at *
    cases h2 : wholeB (goal R C M B t).1 (goal R C M B t).2.1 (goal R C M B t).2.2.1 (goal R C M B t).2.2.2
    · rw [h2] at h; cases h
    · exact ⟨h1.1, h1.2, rfl, rfl⟩
theorem surf_of {R C M : List Rect} {B : List Bend} (h : wholeB R C M B = true) : sp_flat_Surface R C M B = (surf R C, 0) := by
  unfold sp_flat_Surface
  rw [h]
  rfl
theorem mod4 (n m : Nat) (hn : n ≤ 3) (hm : m ≤ 3) : Int.tmod (w64 ((n : Int) + m)) 4 = (((n + m) % 4 : Nat) : Int) := by
  rw [w64_of (by omega) (by omega), Int.tmod_eq_emod_of_nonneg (by omega)]
  omega
theorem law_turns (R C M : List Rect) (B : List Bend) (a b : Int) : w_law03_FlatTurnsBack 1001 R C M B a b (fun r => r = true) := by
  unfold w_law03_FlatTurnsBack g_law03_FlatTurnsBack_e
  dsimp only
  cases hc : (((sp_law03_Long R C M B || decide (a < 0)) || decide (3 < a)) || decide (b < 0)) || decide (3 < b)
  · rw [cond_false]
    simp only [Bool.or_eq_false_iff, decide_eq_false_iff_not] at hc
    obtain ⟨⟨⟨⟨hl, a1⟩, a2⟩, b1⟩, b2⟩ := hc
    obtain ⟨n, rfl, hn⟩ : ∃ n : Nat, a = n ∧ n ≤ 3 := ⟨a.toNat, by omega, by omega⟩
    obtain ⟨m, rfl, hm⟩ : ∃ m : Nat, b = m ∧ m ≤ 3 := ⟨b.toNat, by omega, by omega⟩
    have hs : shF R C M B := by
      unfold sp_law03_Long at hl
      simp only [Bool.or_eq_false_iff, decide_eq_false_iff_not] at hl
      unfold shF sh
      omega
    obtain ⟨s1, s2⟩ := settleQ hs
    obtain ⟨f1, f2⟩ := flatQ hs n
    refine ⟨s1, f1, ?_⟩
    rw [s2, f2]
    cases hk : ((ans R C M B 0).2.2.2.2 != 0) || ((ans R C M B n).2.2.2.2 != 0)
    · rw [cond_false]
      rw [Bool.or_eq_false_iff] at hk
      obtain ⟨w0, _, w1, e1⟩ := ans_ok (t := 0) (by simpa using hk.1)
      obtain ⟨_, _, w2, e2⟩ := ans_ok (t := n) (by simpa using hk.2)
      rw [e1, e2]
      dsimp only
      have hg := goal_sh hs (n : Int)
      have hg0 := goal_sh hs 0
      obtain ⟨y1, y2⟩ := flatQ hg (m : Int)
      obtain ⟨z1, z2⟩ := flatQ hs (((n + m) % 4 : Nat) : Int)
      rw [mod4 n m hn hm]
      refine ⟨y1, ⟨by decide, z1⟩, ⟨fun _ => hs.2.2.2, fun _ => ?_⟩, ?_⟩
      · rw [y2]
        exact ans_sh hg m
      · rw [y2, z2]
        have hcl : (((((ans (goal R C M B n).1 (goal R C M B n).2.1 (goal R C M B n).2.2.1 (goal R C M B n).2.2.2 m).2.2.2.2 == 0) && ((ans R C M B (((n + m) % 4 : Nat) : Int)).2.2.2.2 == 0)) && sp_law03_ordered R C M B) &&
            !sp_ref03_SameFlat (ans (goal R C M B n).1 (goal R C M B n).2.1 (goal R C M B n).2.2.1 (goal R C M B n).2.2.2 m).1 (ans (goal R C M B n).1 (goal R C M B n).2.1 (goal R C M B n).2.2.1 (goal R C M B n).2.2.2 m).2.1 (ans (goal R C M B n).1 (goal R C M B n).2.1 (goal R C M B n).2.2.1 (goal R C M B n).2.2.2 m).2.2.1 (ans (goal R C M B n).1 (goal R C M B n).2.1 (goal R C M B n).2.2.1 (goal R C M B n).2.2.2 m).2.2.2.1
              (ans R C M B (((n + m) % 4 : Nat) : Int)).1 (ans R C M B (((n + m) % 4 : Nat) : Int)).2.1 (ans R C M B (((n + m) % 4 : Nat) : Int)).2.2.1 (ans R C M B (((n + m) % 4 : Nat) : Int)).2.2.2.1) = false := by
          rw [← Bool.not_eq_true]
          intro ht
          simp only [Bool.and_eq_true, beq_iff_eq] at ht
          obtain ⟨⟨⟨k1, k2⟩, k3⟩, k4⟩ := ht
          obtain ⟨_, _, _, q1⟩ := ans_ok k1
          obtain ⟨_, _, _, q2⟩ := ans_ok k2
          have ho : ∀ e ∈ B, ordB e = true := fun e he => List.all_eq_true.1 k3 e he
          rw [q1, q2] at k4
          dsimp only at k4
          rw [goal_goal n m hn hm (good_of w0) ho (good_of w2), same_refl] at k4
          cases k4
        rw [hcl, cond_false]
        have g0 := good_of w0
        have hA := surf_goal n hn g0 (good_of w2)
        have hB : surf (goal R C M B 0).1 (goal R C M B 0).2.1 = surf R C := surf_goal 0 (by omega) g0 (good_of w1)
        refine ⟨hs.2.2.2, hg.2.2.2, hg0.2.2.2, fun _ => known_pre', ?_⟩
        rw [surf_of w0, surf_of w1, surf_of w2]
        dsimp only
        rw [hA, hB, known_true']
        simp
    · rw [cond_true]
      exact ⟨known_pre', known_true'⟩
  · rw [cond_true]
    exact ⟨known_pre', known_true'⟩
end
end Go.Proofs.Ytohecfbnmmgimaa

namespace Go.Proofs.Ytohecfbnmmgimaa
open Go.Vm Go.RowKit
set_option linter.unusedVariables false
noncomputable section
set_option maxRecDepth 100000 in
theorem entry_flat_rightAngle (F : Nat) (Post : AVal UU → Prop) (a0 : Int) : exec C_names Try.f38.ntmps M_flat_rightAngle F 0 (bo Try.f38) (initSt [.int .i64 a0]) (AEnds C_names false Try.f38 Post) = g_flat_rightAngle_e a0 (fun r0 => Post (.bool r0)) := by kernel_rfl
theorem exec_flat_rightAngle (F : Nat) (Post : AVal UU → Prop) (a0 : Int) : exec C_names Try.f38.ntmps M_flat_rightAngle F 0 (bo Try.f38) (initSt [.int .i64 a0]) (AEnds C_names false Try.f38 Post) = w_flat_rightAngle F a0 (fun r0 => Post (.bool r0)) := by
  rw [entry_flat_rightAngle]
  rfl
def m_flat_rightAngle : Model UU
  | [.int .i64 a0] => some ([], .bool (sp_flat_rightAngle a0))
  | _ => none
def C_flat_rightAngle : Cfg UU := C_names.add 38 m_flat_rightAngle
theorem s_flat_rightAngle : SumOK C_flat_rightAngle := by
  refine s_names.addD mixed (fn := Try.f38) (c := bo Try.f38) Try.func38 (by kernel_rfl) (by kernel_rfl) ?_
  intro xs cs r h hc
  unfold m_flat_rightAngle at h
  split at h
  · rename_i a0
    cases h
    obtain ⟨F, hF⟩ := ok_flat_rightAngle a0
    refine ⟨by kernel_rfl, M_flat_rightAngle, F, false, ⟨?_⟩⟩
    rw [exec_flat_rightAngle]
    refine hF _ ?_
    rfl
  · cases h
set_option maxRecDepth 100000 in
theorem entry_flat_rightDen (F : Nat) (Post : AVal UU → Prop) (a0 : Int) : exec C_flat_rightAngle Try.f43.ntmps M_flat_rightDen F 0 (bo Try.f43) (initSt [.int .i64 a0]) (AEnds C_flat_rightAngle false Try.f43 Post) = g_flat_rightDen_e a0 (fun r0 => Post (.bool r0)) := by kernel_rfl
theorem exec_flat_rightDen (F : Nat) (Post : AVal UU → Prop) (a0 : Int) : exec C_flat_rightAngle Try.f43.ntmps M_flat_rightDen F 0 (bo Try.f43) (initSt [.int .i64 a0]) (AEnds C_flat_rightAngle false Try.f43 Post) = w_flat_rightDen F a0 (fun r0 => Post (.bool r0)) := by
  rw [entry_flat_rightDen]
  rfl
def m_flat_rightDen : Model UU
  | [.int .i64 a0] => some ([], .bool (sp_flat_rightDen a0))
  | _ => none
def C_flat_rightDen : Cfg UU := C_flat_rightAngle.add 43 m_flat_rightDen
theorem s_flat_rightDen : SumOK C_flat_rightDen := by
  refine s_flat_rightAngle.addD mixed (fn := Try.f43) (c := bo Try.f43) Try.func43 (by kernel_rfl) (by kernel_rfl) ?_
  intro xs cs r h hc
  unfold m_flat_rightDen at h
  split at h
  · rename_i a0
    cases h
    obtain ⟨F, hF⟩ := ok_flat_rightDen a0
    refine ⟨by kernel_rfl, M_flat_rightDen, F, false, ⟨?_⟩⟩
    rw [exec_flat_rightDen]
    refine hF _ ?_
    rfl
  · cases h
set_option maxRecDepth 100000 in
theorem entry_ref03_within (F : Nat) (Post : AVal UU → Prop) (a0 : Int) (a1 : Int) (a2 : Int) : exec C_flat_rightDen Try.f33.ntmps M_ref03_within F 0 (bo Try.f33) (initSt [.int .i64 a0, .int .i64 a1, .int .i64 a2]) (AEnds C_flat_rightDen false Try.f33 Post) = g_ref03_within_e a0 a1 a2 (fun r0 => Post (.bool r0)) := by kernel_rfl
theorem exec_ref03_within (F : Nat) (Post : AVal UU → Prop) (a0 : Int) (a1 : Int) (a2 : Int) : exec C_flat_rightDen Try.f33.ntmps M_ref03_within F 0 (bo Try.f33) (initSt [.int .i64 a0, .int .i64 a1, .int .i64 a2]) (AEnds C_flat_rightDen false Try.f33 Post) = w_ref03_within F a0 a1 a2 (fun r0 => Post (.bool r0)) := by
  rw [entry_ref03_within]
  rfl
def m_ref03_within : Model UU
  | [.int .i64 a0, .int .i64 a1, .int .i64 a2] => some ([], .bool (sp_ref03_within a0 a1 a2))
  | _ => none
def C_ref03_within : Cfg UU := C_flat_rightDen.add 33 m_ref03_within
theorem s_ref03_within : SumOK C_ref03_within := by
  refine s_flat_rightDen.addD mixed (fn := Try.f33) (c := bo Try.f33) Try.func33 (by kernel_rfl) (by kernel_rfl) ?_
  intro xs cs r h hc
  unfold m_ref03_within at h
  split at h
  · rename_i a0 a1 a2
    cases h
    obtain ⟨F, hF⟩ := ok_ref03_within a0 a1 a2
    refine ⟨by kernel_rfl, M_ref03_within, F, false, ⟨?_⟩⟩
    rw [exec_ref03_within]
    refine hF _ ?_
    rfl
  · cases h
set_option maxRecDepth 100000 in
theorem entry_flat_of (F : Nat) (Post : AVal UU → Prop) (a0_Num : Int) (a0_Den : Int) : exec C_ref03_within Try.f46.ntmps M_flat_of F 0 (bo Try.f46) (initSt [.agg [.int .i64 a0_Num, .int .i64 a0_Den]]) (AEnds C_ref03_within false Try.f46 Post) = g_flat_of_e a0_Num a0_Den (fun r0_num r0_den => Post (.agg [.int .i64 r0_num, .int .i64 r0_den])) := by kernel_rfl
theorem exec_flat_of (F : Nat) (Post : AVal UU → Prop) (a0_Num : Int) (a0_Den : Int) : exec C_ref03_within Try.f46.ntmps M_flat_of F 0 (bo Try.f46) (initSt [.agg [.int .i64 a0_Num, .int .i64 a0_Den]]) (AEnds C_ref03_within false Try.f46 Post) = w_flat_of F a0_Num a0_Den (fun r0_num r0_den => Post (.agg [.int .i64 r0_num, .int .i64 r0_den])) := by
  rw [entry_flat_of]
  rfl
def m_flat_of : Model UU
  | [.agg [.int .i64 a0_Num, .int .i64 a0_Den]] => some ([], .agg [.int .i64 ((sp_flat_of a0_Num a0_Den).1), .int .i64 ((sp_flat_of a0_Num a0_Den).2)])
  | _ => none
def C_flat_of : Cfg UU := C_ref03_within.add 46 m_flat_of
theorem s_flat_of : SumOK C_flat_of := by
  refine s_ref03_within.addD mixed (fn := Try.f46) (c := bo Try.f46) Try.func46 (by kernel_rfl) (by kernel_rfl) ?_
  intro xs cs r h hc
  unfold m_flat_of at h
  split at h
  · rename_i a0_Num a0_Den
    cases h
    obtain ⟨F, hF⟩ := ok_flat_of a0_Num a0_Den
    refine ⟨by kernel_rfl, M_flat_of, F, false, ⟨?_⟩⟩
    rw [exec_flat_of]
    refine hF _ ?_
    rfl
  · cases h
set_option maxRecDepth 100000 in
theorem entry_flat_rational_rat (F : Nat) (Post : AVal UU → Prop) (a0_num : Int) (a0_den : Int) : exec C_flat_of Try.f40.ntmps M_flat_rational_rat F 0 (bo Try.f40) (initSt [.agg [.int .i64 a0_num, .int .i64 a0_den]]) (AEnds C_flat_of false Try.f40 Post) = g_flat_rational_rat_e a0_num a0_den (fun r0_Num r0_Den => Post (.agg [.int .i64 r0_Num, .int .i64 r0_Den])) := by kernel_rfl
theorem exec_flat_rational_rat (F : Nat) (Post : AVal UU → Prop) (a0_num : Int) (a0_den : Int) : exec C_flat_of Try.f40.ntmps M_flat_rational_rat F 0 (bo Try.f40) (initSt [.agg [.int .i64 a0_num, .int .i64 a0_den]]) (AEnds C_flat_of false Try.f40 Post) = w_flat_rational_rat F a0_num a0_den (fun r0_Num r0_Den => Post (.agg [.int .i64 r0_Num, .int .i64 r0_Den])) := by
  rw [entry_flat_rational_rat]
  rfl
def m_flat_rational_rat : Model UU
  | [.agg [.int .i64 a0_num, .int .i64 a0_den]] => some ([], .agg [.int .i64 ((sp_flat_rational_rat a0_num a0_den).1), .int .i64 ((sp_flat_rational_rat a0_num a0_den).2)])
  | _ => none
def C_flat_rational_rat : Cfg UU := C_flat_of.add 40 m_flat_rational_rat
theorem s_flat_rational_rat : SumOK C_flat_rational_rat := by
  refine s_flat_of.addD mixed (fn := Try.f40) (c := bo Try.f40) Try.func40 (by kernel_rfl) (by kernel_rfl) ?_
  intro xs cs r h hc
  unfold m_flat_rational_rat at h
  split at h
  · rename_i a0_num a0_den
    cases h
    obtain ⟨F, hF⟩ := ok_flat_rational_rat a0_num a0_den
    refine ⟨by kernel_rfl, M_flat_rational_rat, F, false, ⟨?_⟩⟩
    rw [exec_flat_rational_rat]
    refine hF _ ?_
    rfl
  · cases h
set_option maxRecDepth 100000 in
theorem entry_flat_valid (F : Nat) (Post : AVal UU → Prop) (a0_Num : Int) (a0_Den : Int) : exec C_flat_rational_rat Try.f45.ntmps M_flat_valid F 0 (bo Try.f45) (initSt [.agg [.int .i64 a0_Num, .int .i64 a0_Den]]) (AEnds C_flat_rational_rat false Try.f45 Post) = g_flat_valid_e a0_Num a0_Den (fun r0 => Post (.bool r0)) := by kernel_rfl
theorem exec_flat_valid (F : Nat) (Post : AVal UU → Prop) (a0_Num : Int) (a0_Den : Int) : exec C_flat_rational_rat Try.f45.ntmps M_flat_valid F 0 (bo Try.f45) (initSt [.agg [.int .i64 a0_Num, .int .i64 a0_Den]]) (AEnds C_flat_rational_rat false Try.f45 Post) = w_flat_valid F a0_Num a0_Den (fun r0 => Post (.bool r0)) := by
  rw [entry_flat_valid]
  rfl
def m_flat_valid : Model UU
  | [.agg [.int .i64 a0_Num, .int .i64 a0_Den]] => some ([], .bool (sp_flat_valid a0_Num a0_Den))
  | _ => none
def C_flat_valid : Cfg UU := C_flat_rational_rat.add 45 m_flat_valid
theorem s_flat_valid : SumOK C_flat_valid := by
  refine s_flat_rational_rat.addD mixed (fn := Try.f45) (c := bo Try.f45) Try.func45 (by kernel_rfl) (by kernel_rfl) ?_
  intro xs cs r h hc
  unfold m_flat_valid at h
  split at h
  · rename_i a0_Num a0_Den
    cases h
    obtain ⟨F, hF⟩ := ok_flat_valid a0_Num a0_Den
    refine ⟨by kernel_rfl, M_flat_valid, F, false, ⟨?_⟩⟩
    rw [exec_flat_valid]
    refine hF _ ?_
    rfl
  · cases h
end
end Go.Proofs.Ytohecfbnmmgimaa

namespace Go.Proofs.Ytohecfbnmmgimaa
open Go.Vm Go.RowKit
set_option linter.unusedVariables false
noncomputable section
def k_flat_Validate_0 (F : Nat) (Post : AVal UU → Prop) : AEx → ASt UU → Prop := kBlock 0 (kSeq C_flat_valid Try.f20.ntmps M_flat_Validate F 0 (cS (cS (cS (cS (bo Try.f20))))) (AEnds C_flat_valid false Try.f20 Post))
set_option maxRecDepth 100000 in
theorem step_flat_Validate_0 (F n r : Nat) (K : AEx → ASt UU → Prop) (t2 : Int) (t3 : Int) (t43 : List Ent) (t44 : Int) (t45 : Int) : iter (exec C_flat_valid Try.f20.ntmps M_flat_Validate F 0 (cL (cB (cS (cF (cS (cS (cS (bo Try.f20))))))))) (M_flat_Validate 0) (n + 1) r (st_flat_Validate_0 t2 t3 t43 t44 t45) K = g_flat_Validate_s0 (fun t2 t3 t43 t44 t45 => iter (exec C_flat_valid Try.f20.ntmps M_flat_Validate F 0 (cL (cB (cS (cF (cS (cS (cS (bo Try.f20))))))))) (M_flat_Validate 0) n (r + 1) (st_flat_Validate_0 t2 t3 t43 t44 t45) K) (fun t2 t3 t43 t44 t45 => K .ret (st_flat_Validate_0 t2 t3 t43 t44 t45)) (fun t2 t3 t43 t44 t45 => K (.exit 0) (st_flat_Validate_0 t2 t3 t43 t44 t45)) t2 t3 t43 t44 t45 := by kernel_rfl
set_option maxRecDepth 100000 in
theorem cont_flat_Validate_0_0 (F : Nat) (Post : AVal UU → Prop) (t2 : Int) (t3 : Int) (t43 : List Ent) (t44 : Int) (t45 : Int) : k_flat_Validate_0 F Post .ret (st_flat_Validate_0 t2 t3 t43 t44 t45) = g_flat_Validate_c0_0 (fun r0 => Post (.int .i64 r0)) t2 t3 t43 t44 t45 := by kernel_rfl
set_option maxRecDepth 100000 in
theorem cont_flat_Validate_0_1 (F : Nat) (Post : AVal UU → Prop) (t2 : Int) (t3 : Int) (t43 : List Ent) (t44 : Int) (t45 : Int) : k_flat_Validate_0 F Post (.exit 0) (st_flat_Validate_0 t2 t3 t43 t44 t45) = g_flat_Validate_c0_1 (fun r0 => Post (.int .i64 r0)) t2 t3 t43 t44 t45 := by kernel_rfl
set_option maxRecDepth 100000 in
theorem entry_flat_Validate (F : Nat) (Post : AVal UU → Prop) (a0_Material : ByteArray) (a0_Gauge : Int) (a0_Die : Int) (a0_Entries : List Ent) : exec C_flat_valid Try.f20.ntmps M_flat_Validate F 0 (bo Try.f20) (initSt [.agg [.str a0_Material, .int .i64 a0_Gauge, .int .i64 a0_Die, .sl .ent a0_Entries]]) (AEnds C_flat_valid false Try.f20 Post) = g_flat_Validate_e a0_Material a0_Gauge a0_Die a0_Entries (fun r0 => Post (.int .i64 r0)) (fun t2 t3 t43 t44 t45 => iter (exec C_flat_valid Try.f20.ntmps M_flat_Validate F 0 (cL (cB (cS (cF (cS (cS (cS (bo Try.f20))))))))) (M_flat_Validate 0) F 0 (st_flat_Validate_0 t2 t3 t43 t44 t45) (k_flat_Validate_0 F Post)) := by kernel_rfl
theorem loop_flat_Validate_0 (F : Nat) (K : AEx → ASt UU → Prop) : ∀ (n r : Nat) (t2 : Int) (t3 : Int) (t43 : List Ent) (t44 : Int) (t45 : Int), iter (exec C_flat_valid Try.f20.ntmps M_flat_Validate F 0 (cL (cB (cS (cF (cS (cS (cS (bo Try.f20))))))))) (M_flat_Validate 0) n r (st_flat_Validate_0 t2 t3 t43 t44 t45) K = w_flat_Validate_0 F  (fun t2 t3 t43 t44 t45 => K .ret (st_flat_Validate_0 t2 t3 t43 t44 t45)) (fun t2 t3 t43 t44 t45 => K (.exit 0) (st_flat_Validate_0 t2 t3 t43 t44 t45)) n t2 t3 t43 t44 t45 := by
  intro n
  induction n with
  | zero => intros; rfl
  | succ n ih =>
    intro r t2 t3 t43 t44 t45
    have e : (fun t2 t3 t43 t44 t45 => iter (exec C_flat_valid Try.f20.ntmps M_flat_Validate F 0 (cL (cB (cS (cF (cS (cS (cS (bo Try.f20))))))))) (M_flat_Validate 0) n (r + 1) (st_flat_Validate_0 t2 t3 t43 t44 t45) K) = w_flat_Validate_0 F  (fun t2 t3 t43 t44 t45 => K .ret (st_flat_Validate_0 t2 t3 t43 t44 t45)) (fun t2 t3 t43 t44 t45 => K (.exit 0) (st_flat_Validate_0 t2 t3 t43 t44 t45)) n := by
      funext t2 t3 t43 t44 t45
      exact ih (r + 1) t2 t3 t43 t44 t45
    rw [step_flat_Validate_0, e]
    rfl
theorem nl_flat_Validate_0 (F : Nat) (Post : AVal UU → Prop) (t2 : Int) (t3 : Int) (t43 : List Ent) (t44 : Int) (t45 : Int) : iter (exec C_flat_valid Try.f20.ntmps M_flat_Validate F 0 (cL (cB (cS (cF (cS (cS (cS (bo Try.f20))))))))) (M_flat_Validate 0) F 0 (st_flat_Validate_0 t2 t3 t43 t44 t45) (k_flat_Validate_0 F Post) = n_flat_Validate_0 F (fun r0 => Post (.int .i64 r0)) t2 t3 t43 t44 t45 := by
  rw [loop_flat_Validate_0]
  have h0 : (fun t2 t3 t43 t44 t45 => k_flat_Validate_0 F Post .ret (st_flat_Validate_0 t2 t3 t43 t44 t45)) = (fun t2 t3 t43 t44 t45 => g_flat_Validate_c0_0 (fun r0 => Post (.int .i64 r0)) t2 t3 t43 t44 t45) := by
    funext t2 t3 t43 t44 t45
    rw [cont_flat_Validate_0_0]
  have h1 : (fun t2 t3 t43 t44 t45 => k_flat_Validate_0 F Post (.exit 0) (st_flat_Validate_0 t2 t3 t43 t44 t45)) = (fun t2 t3 t43 t44 t45 => g_flat_Validate_c0_1 (fun r0 => Post (.int .i64 r0)) t2 t3 t43 t44 t45) := by
    funext t2 t3 t43 t44 t45
    rw [cont_flat_Validate_0_1]
  rw [h0, h1]
  rfl
theorem exec_flat_Validate (F : Nat) (Post : AVal UU → Prop) (a0_Material : ByteArray) (a0_Gauge : Int) (a0_Die : Int) (a0_Entries : List Ent) : exec C_flat_valid Try.f20.ntmps M_flat_Validate F 0 (bo Try.f20) (initSt [.agg [.str a0_Material, .int .i64 a0_Gauge, .int .i64 a0_Die, .sl .ent a0_Entries]]) (AEnds C_flat_valid false Try.f20 Post) = w_flat_Validate F a0_Material a0_Gauge a0_Die a0_Entries (fun r0 => Post (.int .i64 r0)) := by
  rw [entry_flat_Validate]
  have e0 : (fun t2 t3 t43 t44 t45 => iter (exec C_flat_valid Try.f20.ntmps M_flat_Validate F 0 (cL (cB (cS (cF (cS (cS (cS (bo Try.f20))))))))) (M_flat_Validate 0) F 0 (st_flat_Validate_0 t2 t3 t43 t44 t45) (k_flat_Validate_0 F Post)) = (n_flat_Validate_0 F (fun r0 => Post (.int .i64 r0))) := by
    funext t2 t3 t43 t44 t45
    exact nl_flat_Validate_0 F Post t2 t3 t43 t44 t45
  rw [e0]
  rfl
def m_flat_Validate : Model UU
  | [.agg [.str a0_Material, .int .i64 a0_Gauge, .int .i64 a0_Die, .sl .ent a0_Entries]] => some ([pre_flat_Validate a0_Material a0_Gauge a0_Die a0_Entries], .int .i64 (sp_flat_Validate a0_Material a0_Gauge a0_Die a0_Entries))
  | _ => none
def C_flat_Validate : Cfg UU := C_flat_valid.add 20 m_flat_Validate
theorem s_flat_Validate : SumOK C_flat_Validate := by
  refine s_flat_valid.addD mixed (fn := Try.f20) (c := bo Try.f20) Try.func20 (by kernel_rfl) (by kernel_rfl) ?_
  intro xs cs r h hc
  unfold m_flat_Validate at h
  split at h
  · rename_i a0_Material a0_Gauge a0_Die a0_Entries
    cases h
    obtain ⟨F, hF⟩ := ok_flat_Validate a0_Material a0_Gauge a0_Die a0_Entries hc
    refine ⟨by kernel_rfl, M_flat_Validate, F, false, ⟨?_⟩⟩
    rw [exec_flat_Validate]
    refine hF _ ?_
    rfl
  · cases h
def k_ref03_Validate_0 (F : Nat) (Post : AVal UU → Prop) : AEx → ASt UU → Prop := kBlock 0 (kSeq C_flat_Validate Try.f21.ntmps M_ref03_Validate F 0 (cS (cS (cS (bo Try.f21)))) (AEnds C_flat_Validate false Try.f21 Post))
set_option maxRecDepth 100000 in
theorem step_ref03_Validate_0 (F n r : Nat) (K : AEx → ASt UU → Prop) (t2 : Int) (t3 : Int) (c1_0 : ByteArray) (c1_1 : Int) (c1_2 : Int) (c1_3 : List Ent) : iter (exec C_flat_Validate Try.f21.ntmps M_ref03_Validate F 0 (cL (cB (cS (cF (cS (cS (bo Try.f21)))))))) (M_ref03_Validate 0) (n + 1) r (st_ref03_Validate_0 t2 t3 c1_0 c1_1 c1_2 c1_3) K = g_ref03_Validate_s0 (fun t2 t3 c1_0 c1_1 c1_2 c1_3 => iter (exec C_flat_Validate Try.f21.ntmps M_ref03_Validate F 0 (cL (cB (cS (cF (cS (cS (bo Try.f21)))))))) (M_ref03_Validate 0) n (r + 1) (st_ref03_Validate_0 t2 t3 c1_0 c1_1 c1_2 c1_3) K) (fun t2 t3 c1_0 c1_1 c1_2 c1_3 => K .ret (st_ref03_Validate_0 t2 t3 c1_0 c1_1 c1_2 c1_3)) (fun t2 t3 c1_0 c1_1 c1_2 c1_3 => K (.exit 0) (st_ref03_Validate_0 t2 t3 c1_0 c1_1 c1_2 c1_3)) t2 t3 c1_0 c1_1 c1_2 c1_3 := by kernel_rfl
set_option maxRecDepth 100000 in
theorem cont_ref03_Validate_0_0 (F : Nat) (Post : AVal UU → Prop) (t2 : Int) (t3 : Int) (c1_0 : ByteArray) (c1_1 : Int) (c1_2 : Int) (c1_3 : List Ent) : k_ref03_Validate_0 F Post .ret (st_ref03_Validate_0 t2 t3 c1_0 c1_1 c1_2 c1_3) = g_ref03_Validate_c0_0 (fun r0 => Post (.int .i64 r0)) t2 t3 c1_0 c1_1 c1_2 c1_3 := by kernel_rfl
set_option maxRecDepth 100000 in
theorem cont_ref03_Validate_0_1 (F : Nat) (Post : AVal UU → Prop) (t2 : Int) (t3 : Int) (c1_0 : ByteArray) (c1_1 : Int) (c1_2 : Int) (c1_3 : List Ent) : k_ref03_Validate_0 F Post (.exit 0) (st_ref03_Validate_0 t2 t3 c1_0 c1_1 c1_2 c1_3) = g_ref03_Validate_c0_1 (fun r0 => Post (.int .i64 r0)) t2 t3 c1_0 c1_1 c1_2 c1_3 := by kernel_rfl
set_option maxRecDepth 100000 in
theorem entry_ref03_Validate (F : Nat) (Post : AVal UU → Prop) (a0_Material : ByteArray) (a0_Gauge : Int) (a0_Die : Int) (a0_Entries : List Ent) : exec C_flat_Validate Try.f21.ntmps M_ref03_Validate F 0 (bo Try.f21) (initSt [.agg [.str a0_Material, .int .i64 a0_Gauge, .int .i64 a0_Die, .sl .ent a0_Entries]]) (AEnds C_flat_Validate false Try.f21 Post) = g_ref03_Validate_e a0_Material a0_Gauge a0_Die a0_Entries (fun r0 => Post (.int .i64 r0)) (fun t2 t3 c1_0 c1_1 c1_2 c1_3 => iter (exec C_flat_Validate Try.f21.ntmps M_ref03_Validate F 0 (cL (cB (cS (cF (cS (cS (bo Try.f21)))))))) (M_ref03_Validate 0) F 0 (st_ref03_Validate_0 t2 t3 c1_0 c1_1 c1_2 c1_3) (k_ref03_Validate_0 F Post)) := by kernel_rfl
theorem loop_ref03_Validate_0 (F : Nat) (K : AEx → ASt UU → Prop) : ∀ (n r : Nat) (t2 : Int) (t3 : Int) (c1_0 : ByteArray) (c1_1 : Int) (c1_2 : Int) (c1_3 : List Ent), iter (exec C_flat_Validate Try.f21.ntmps M_ref03_Validate F 0 (cL (cB (cS (cF (cS (cS (bo Try.f21)))))))) (M_ref03_Validate 0) n r (st_ref03_Validate_0 t2 t3 c1_0 c1_1 c1_2 c1_3) K = w_ref03_Validate_0 F  (fun t2 t3 c1_0 c1_1 c1_2 c1_3 => K .ret (st_ref03_Validate_0 t2 t3 c1_0 c1_1 c1_2 c1_3)) (fun t2 t3 c1_0 c1_1 c1_2 c1_3 => K (.exit 0) (st_ref03_Validate_0 t2 t3 c1_0 c1_1 c1_2 c1_3)) n t2 t3 c1_0 c1_1 c1_2 c1_3 := by
  intro n
  induction n with
  | zero => intros; rfl
  | succ n ih =>
    intro r t2 t3 c1_0 c1_1 c1_2 c1_3
    have e : (fun t2 t3 c1_0 c1_1 c1_2 c1_3 => iter (exec C_flat_Validate Try.f21.ntmps M_ref03_Validate F 0 (cL (cB (cS (cF (cS (cS (bo Try.f21)))))))) (M_ref03_Validate 0) n (r + 1) (st_ref03_Validate_0 t2 t3 c1_0 c1_1 c1_2 c1_3) K) = w_ref03_Validate_0 F  (fun t2 t3 c1_0 c1_1 c1_2 c1_3 => K .ret (st_ref03_Validate_0 t2 t3 c1_0 c1_1 c1_2 c1_3)) (fun t2 t3 c1_0 c1_1 c1_2 c1_3 => K (.exit 0) (st_ref03_Validate_0 t2 t3 c1_0 c1_1 c1_2 c1_3)) n := by
      funext t2 t3 c1_0 c1_1 c1_2 c1_3
      exact ih (r + 1) t2 t3 c1_0 c1_1 c1_2 c1_3
    rw [step_ref03_Validate_0, e]
    rfl
theorem nl_ref03_Validate_0 (F : Nat) (Post : AVal UU → Prop) (t2 : Int) (t3 : Int) (c1_0 : ByteArray) (c1_1 : Int) (c1_2 : Int) (c1_3 : List Ent) : iter (exec C_flat_Validate Try.f21.ntmps M_ref03_Validate F 0 (cL (cB (cS (cF (cS (cS (bo Try.f21)))))))) (M_ref03_Validate 0) F 0 (st_ref03_Validate_0 t2 t3 c1_0 c1_1 c1_2 c1_3) (k_ref03_Validate_0 F Post) = n_ref03_Validate_0 F (fun r0 => Post (.int .i64 r0)) t2 t3 c1_0 c1_1 c1_2 c1_3 := by
  rw [loop_ref03_Validate_0]
  have h0 : (fun t2 t3 c1_0 c1_1 c1_2 c1_3 => k_ref03_Validate_0 F Post .ret (st_ref03_Validate_0 t2 t3 c1_0 c1_1 c1_2 c1_3)) = (fun t2 t3 c1_0 c1_1 c1_2 c1_3 => g_ref03_Validate_c0_0 (fun r0 => Post (.int .i64 r0)) t2 t3 c1_0 c1_1 c1_2 c1_3) := by
    funext t2 t3 c1_0 c1_1 c1_2 c1_3
    rw [cont_ref03_Validate_0_0]
  have h1 : (fun t2 t3 c1_0 c1_1 c1_2 c1_3 => k_ref03_Validate_0 F Post (.exit 0) (st_ref03_Validate_0 t2 t3 c1_0 c1_1 c1_2 c1_3)) = (fun t2 t3 c1_0 c1_1 c1_2 c1_3 => g_ref03_Validate_c0_1 (fun r0 => Post (.int .i64 r0)) t2 t3 c1_0 c1_1 c1_2 c1_3) := by
    funext t2 t3 c1_0 c1_1 c1_2 c1_3
    rw [cont_ref03_Validate_0_1]
  rw [h0, h1]
  rfl
theorem exec_ref03_Validate (F : Nat) (Post : AVal UU → Prop) (a0_Material : ByteArray) (a0_Gauge : Int) (a0_Die : Int) (a0_Entries : List Ent) : exec C_flat_Validate Try.f21.ntmps M_ref03_Validate F 0 (bo Try.f21) (initSt [.agg [.str a0_Material, .int .i64 a0_Gauge, .int .i64 a0_Die, .sl .ent a0_Entries]]) (AEnds C_flat_Validate false Try.f21 Post) = w_ref03_Validate F a0_Material a0_Gauge a0_Die a0_Entries (fun r0 => Post (.int .i64 r0)) := by
  rw [entry_ref03_Validate]
  have e0 : (fun t2 t3 c1_0 c1_1 c1_2 c1_3 => iter (exec C_flat_Validate Try.f21.ntmps M_ref03_Validate F 0 (cL (cB (cS (cF (cS (cS (bo Try.f21)))))))) (M_ref03_Validate 0) F 0 (st_ref03_Validate_0 t2 t3 c1_0 c1_1 c1_2 c1_3) (k_ref03_Validate_0 F Post)) = (n_ref03_Validate_0 F (fun r0 => Post (.int .i64 r0))) := by
    funext t2 t3 c1_0 c1_1 c1_2 c1_3
    exact nl_ref03_Validate_0 F Post t2 t3 c1_0 c1_1 c1_2 c1_3
  rw [e0]
  rfl
def m_ref03_Validate : Model UU
  | [.agg [.str a0_Material, .int .i64 a0_Gauge, .int .i64 a0_Die, .sl .ent a0_Entries]] => some ([pre_ref03_Validate a0_Material a0_Gauge a0_Die a0_Entries], .int .i64 (sp_ref03_Validate a0_Material a0_Gauge a0_Die a0_Entries))
  | _ => none
def C_ref03_Validate : Cfg UU := C_flat_Validate.add 21 m_ref03_Validate
theorem s_ref03_Validate : SumOK C_ref03_Validate := by
  refine s_flat_Validate.addD mixed (fn := Try.f21) (c := bo Try.f21) Try.func21 (by kernel_rfl) (by kernel_rfl) ?_
  intro xs cs r h hc
  unfold m_ref03_Validate at h
  split at h
  · rename_i a0_Material a0_Gauge a0_Die a0_Entries
    cases h
    obtain ⟨F, hF⟩ := ok_ref03_Validate a0_Material a0_Gauge a0_Die a0_Entries hc
    refine ⟨by kernel_rfl, M_ref03_Validate, F, false, ⟨?_⟩⟩
    rw [exec_ref03_Validate]
    refine hF _ ?_
    rfl
  · cases h
end
end Go.Proofs.Ytohecfbnmmgimaa

namespace Go.Proofs.Ytohecfbnmmgimaa
open Go.Vm Go.RowKit
set_option linter.unusedVariables false
noncomputable section
def k_flat_rational_reduced_0 (F : Nat) (Post : AVal UU → Prop) : AEx → ASt UU → Prop := kBlock 0 (kSeq C_ref03_Validate Try.f53.ntmps M_flat_rational_reduced F 0 (cS (cS (cS (cS (bo Try.f53))))) (AEnds C_ref03_Validate false Try.f53 Post))
set_option maxRecDepth 100000 in
theorem step_flat_rational_reduced_0 (F n r : Nat) (K : AEx → ASt UU → Prop) (t3 : Int) (t4 : Int) (c1_0 : Int) (c1_1 : Int) (c2_0 : Int) (c2_1 : Int) : iter (exec C_ref03_Validate Try.f53.ntmps M_flat_rational_reduced F 0 (cL (cB (cF (cS (cS (cS (bo Try.f53)))))))) (M_flat_rational_reduced 0) (n + 1) r (st_flat_rational_reduced_0 t3 t4 c1_0 c1_1 c2_0 c2_1) K = g_flat_rational_reduced_s0 (fun t3 t4 c1_0 c1_1 c2_0 c2_1 => iter (exec C_ref03_Validate Try.f53.ntmps M_flat_rational_reduced F 0 (cL (cB (cF (cS (cS (cS (bo Try.f53)))))))) (M_flat_rational_reduced 0) n (r + 1) (st_flat_rational_reduced_0 t3 t4 c1_0 c1_1 c2_0 c2_1) K) (fun t3 t4 c1_0 c1_1 c2_0 c2_1 => K (.exit 0) (st_flat_rational_reduced_0 t3 t4 c1_0 c1_1 c2_0 c2_1)) t3 t4 c1_0 c1_1 c2_0 c2_1 := by kernel_rfl
set_option maxRecDepth 100000 in
theorem cont_flat_rational_reduced_0_0 (F : Nat) (Post : AVal UU → Prop) (t3 : Int) (t4 : Int) (c1_0 : Int) (c1_1 : Int) (c2_0 : Int) (c2_1 : Int) : k_flat_rational_reduced_0 F Post (.exit 0) (st_flat_rational_reduced_0 t3 t4 c1_0 c1_1 c2_0 c2_1) = g_flat_rational_reduced_c0_0 (fun r0_num r0_den => Post (.agg [.int .i64 r0_num, .int .i64 r0_den])) t3 t4 c1_0 c1_1 c2_0 c2_1 := by kernel_rfl
set_option maxRecDepth 100000 in
theorem entry_flat_rational_reduced (F : Nat) (Post : AVal UU → Prop) (a0_num : Int) (a0_den : Int) : exec C_ref03_Validate Try.f53.ntmps M_flat_rational_reduced F 0 (bo Try.f53) (initSt [.agg [.int .i64 a0_num, .int .i64 a0_den]]) (AEnds C_ref03_Validate false Try.f53 Post) = g_flat_rational_reduced_e a0_num a0_den (fun r0_num r0_den => Post (.agg [.int .i64 r0_num, .int .i64 r0_den])) (fun t3 t4 c1_0 c1_1 c2_0 c2_1 => iter (exec C_ref03_Validate Try.f53.ntmps M_flat_rational_reduced F 0 (cL (cB (cF (cS (cS (cS (bo Try.f53)))))))) (M_flat_rational_reduced 0) F 0 (st_flat_rational_reduced_0 t3 t4 c1_0 c1_1 c2_0 c2_1) (k_flat_rational_reduced_0 F Post)) := by kernel_rfl
theorem loop_flat_rational_reduced_0 (F : Nat) (K : AEx → ASt UU → Prop) : ∀ (n r : Nat) (t3 : Int) (t4 : Int) (c1_0 : Int) (c1_1 : Int) (c2_0 : Int) (c2_1 : Int), iter (exec C_ref03_Validate Try.f53.ntmps M_flat_rational_reduced F 0 (cL (cB (cF (cS (cS (cS (bo Try.f53)))))))) (M_flat_rational_reduced 0) n r (st_flat_rational_reduced_0 t3 t4 c1_0 c1_1 c2_0 c2_1) K = w_flat_rational_reduced_0 F  (fun t3 t4 c1_0 c1_1 c2_0 c2_1 => K (.exit 0) (st_flat_rational_reduced_0 t3 t4 c1_0 c1_1 c2_0 c2_1)) n t3 t4 c1_0 c1_1 c2_0 c2_1 := by
  intro n
  induction n with
  | zero => intros; rfl
  | succ n ih =>
    intro r t3 t4 c1_0 c1_1 c2_0 c2_1
    have e : (fun t3 t4 c1_0 c1_1 c2_0 c2_1 => iter (exec C_ref03_Validate Try.f53.ntmps M_flat_rational_reduced F 0 (cL (cB (cF (cS (cS (cS (bo Try.f53)))))))) (M_flat_rational_reduced 0) n (r + 1) (st_flat_rational_reduced_0 t3 t4 c1_0 c1_1 c2_0 c2_1) K) = w_flat_rational_reduced_0 F  (fun t3 t4 c1_0 c1_1 c2_0 c2_1 => K (.exit 0) (st_flat_rational_reduced_0 t3 t4 c1_0 c1_1 c2_0 c2_1)) n := by
      funext t3 t4 c1_0 c1_1 c2_0 c2_1
      exact ih (r + 1) t3 t4 c1_0 c1_1 c2_0 c2_1
    rw [step_flat_rational_reduced_0, e]
    rfl
theorem nl_flat_rational_reduced_0 (F : Nat) (Post : AVal UU → Prop) (t3 : Int) (t4 : Int) (c1_0 : Int) (c1_1 : Int) (c2_0 : Int) (c2_1 : Int) : iter (exec C_ref03_Validate Try.f53.ntmps M_flat_rational_reduced F 0 (cL (cB (cF (cS (cS (cS (bo Try.f53)))))))) (M_flat_rational_reduced 0) F 0 (st_flat_rational_reduced_0 t3 t4 c1_0 c1_1 c2_0 c2_1) (k_flat_rational_reduced_0 F Post) = n_flat_rational_reduced_0 F (fun r0_num r0_den => Post (.agg [.int .i64 r0_num, .int .i64 r0_den])) t3 t4 c1_0 c1_1 c2_0 c2_1 := by
  rw [loop_flat_rational_reduced_0]
  have h0 : (fun t3 t4 c1_0 c1_1 c2_0 c2_1 => k_flat_rational_reduced_0 F Post (.exit 0) (st_flat_rational_reduced_0 t3 t4 c1_0 c1_1 c2_0 c2_1)) = (fun t3 t4 c1_0 c1_1 c2_0 c2_1 => g_flat_rational_reduced_c0_0 (fun r0_num r0_den => Post (.agg [.int .i64 r0_num, .int .i64 r0_den])) t3 t4 c1_0 c1_1 c2_0 c2_1) := by
    funext t3 t4 c1_0 c1_1 c2_0 c2_1
    rw [cont_flat_rational_reduced_0_0]
  rw [h0]
  rfl
theorem exec_flat_rational_reduced (F : Nat) (Post : AVal UU → Prop) (a0_num : Int) (a0_den : Int) : exec C_ref03_Validate Try.f53.ntmps M_flat_rational_reduced F 0 (bo Try.f53) (initSt [.agg [.int .i64 a0_num, .int .i64 a0_den]]) (AEnds C_ref03_Validate false Try.f53 Post) = w_flat_rational_reduced F a0_num a0_den (fun r0_num r0_den => Post (.agg [.int .i64 r0_num, .int .i64 r0_den])) := by
  rw [entry_flat_rational_reduced]
  have e0 : (fun t3 t4 c1_0 c1_1 c2_0 c2_1 => iter (exec C_ref03_Validate Try.f53.ntmps M_flat_rational_reduced F 0 (cL (cB (cF (cS (cS (cS (bo Try.f53)))))))) (M_flat_rational_reduced 0) F 0 (st_flat_rational_reduced_0 t3 t4 c1_0 c1_1 c2_0 c2_1) (k_flat_rational_reduced_0 F Post)) = (n_flat_rational_reduced_0 F (fun r0_num r0_den => Post (.agg [.int .i64 r0_num, .int .i64 r0_den]))) := by
    funext t3 t4 c1_0 c1_1 c2_0 c2_1
    exact nl_flat_rational_reduced_0 F Post t3 t4 c1_0 c1_1 c2_0 c2_1
  rw [e0]
  rfl
def m_flat_rational_reduced : Model UU
  | [.agg [.int .i64 a0_num, .int .i64 a0_den]] => some ([pre_flat_rational_reduced a0_num a0_den], .agg [.int .i64 ((sp_flat_rational_reduced a0_num a0_den).1), .int .i64 ((sp_flat_rational_reduced a0_num a0_den).2)])
  | _ => none
def C_flat_rational_reduced : Cfg UU := C_ref03_Validate.add 53 m_flat_rational_reduced
theorem s_flat_rational_reduced : SumOK C_flat_rational_reduced := by
  refine s_ref03_Validate.addD mixed (fn := Try.f53) (c := bo Try.f53) Try.func53 (by kernel_rfl) (by kernel_rfl) ?_
  intro xs cs r h hc
  unfold m_flat_rational_reduced at h
  split at h
  · rename_i a0_num a0_den
    cases h
    obtain ⟨F, hF⟩ := ok_flat_rational_reduced a0_num a0_den hc
    refine ⟨by kernel_rfl, M_flat_rational_reduced, F, false, ⟨?_⟩⟩
    rw [exec_flat_rational_reduced]
    refine hF _ ?_
    rfl
  · cases h
def k_ref03_lowest_0 (F : Nat) (Post : AVal UU → Prop) : AEx → ASt UU → Prop := kBlock 0 (kSeq C_flat_rational_reduced Try.f66.ntmps M_ref03_lowest F 0 (cS (cS (cS (cS (bo Try.f66))))) (AEnds C_flat_rational_reduced false Try.f66 Post))
set_option maxRecDepth 100000 in
theorem step_ref03_lowest_0 (F n r : Nat) (K : AEx → ASt UU → Prop) (t0 : Int) (t1 : Int) (t5 : Int) (t6 : Int) (c4_0 : Int) (c4_1 : Int) : iter (exec C_flat_rational_reduced Try.f66.ntmps M_ref03_lowest F 0 (cL (cB (cF (cS (cS (cS (bo Try.f66)))))))) (M_ref03_lowest 0) (n + 1) r (st_ref03_lowest_0 t0 t1 t5 t6 c4_0 c4_1) K = g_ref03_lowest_s0 (fun t0 t1 t5 t6 c4_0 c4_1 => iter (exec C_flat_rational_reduced Try.f66.ntmps M_ref03_lowest F 0 (cL (cB (cF (cS (cS (cS (bo Try.f66)))))))) (M_ref03_lowest 0) n (r + 1) (st_ref03_lowest_0 t0 t1 t5 t6 c4_0 c4_1) K) (fun t0 t1 t5 t6 c4_0 c4_1 => K (.exit 0) (st_ref03_lowest_0 t0 t1 t5 t6 c4_0 c4_1)) t0 t1 t5 t6 c4_0 c4_1 := by kernel_rfl
set_option maxRecDepth 100000 in
theorem cont_ref03_lowest_0_0 (F : Nat) (Post : AVal UU → Prop) (t0 : Int) (t1 : Int) (t5 : Int) (t6 : Int) (c4_0 : Int) (c4_1 : Int) : k_ref03_lowest_0 F Post (.exit 0) (st_ref03_lowest_0 t0 t1 t5 t6 c4_0 c4_1) = g_ref03_lowest_c0_0 (fun r0_Num r0_Den => Post (.agg [.int .i64 r0_Num, .int .i64 r0_Den])) t0 t1 t5 t6 c4_0 c4_1 := by kernel_rfl
set_option maxRecDepth 100000 in
theorem entry_ref03_lowest (F : Nat) (Post : AVal UU → Prop) (a0 : Int) (a1 : Int) : exec C_flat_rational_reduced Try.f66.ntmps M_ref03_lowest F 0 (bo Try.f66) (initSt [.int .i64 a0, .int .i64 a1]) (AEnds C_flat_rational_reduced false Try.f66 Post) = g_ref03_lowest_e a0 a1 (fun r0_Num r0_Den => Post (.agg [.int .i64 r0_Num, .int .i64 r0_Den])) (fun t0 t1 t5 t6 c4_0 c4_1 => iter (exec C_flat_rational_reduced Try.f66.ntmps M_ref03_lowest F 0 (cL (cB (cF (cS (cS (cS (bo Try.f66)))))))) (M_ref03_lowest 0) F 0 (st_ref03_lowest_0 t0 t1 t5 t6 c4_0 c4_1) (k_ref03_lowest_0 F Post)) := by kernel_rfl
theorem loop_ref03_lowest_0 (F : Nat) (K : AEx → ASt UU → Prop) : ∀ (n r : Nat) (t0 : Int) (t1 : Int) (t5 : Int) (t6 : Int) (c4_0 : Int) (c4_1 : Int), iter (exec C_flat_rational_reduced Try.f66.ntmps M_ref03_lowest F 0 (cL (cB (cF (cS (cS (cS (bo Try.f66)))))))) (M_ref03_lowest 0) n r (st_ref03_lowest_0 t0 t1 t5 t6 c4_0 c4_1) K = w_ref03_lowest_0 F  (fun t0 t1 t5 t6 c4_0 c4_1 => K (.exit 0) (st_ref03_lowest_0 t0 t1 t5 t6 c4_0 c4_1)) n t0 t1 t5 t6 c4_0 c4_1 := by
  intro n
  induction n with
  | zero => intros; rfl
  | succ n ih =>
    intro r t0 t1 t5 t6 c4_0 c4_1
    have e : (fun t0 t1 t5 t6 c4_0 c4_1 => iter (exec C_flat_rational_reduced Try.f66.ntmps M_ref03_lowest F 0 (cL (cB (cF (cS (cS (cS (bo Try.f66)))))))) (M_ref03_lowest 0) n (r + 1) (st_ref03_lowest_0 t0 t1 t5 t6 c4_0 c4_1) K) = w_ref03_lowest_0 F  (fun t0 t1 t5 t6 c4_0 c4_1 => K (.exit 0) (st_ref03_lowest_0 t0 t1 t5 t6 c4_0 c4_1)) n := by
      funext t0 t1 t5 t6 c4_0 c4_1
      exact ih (r + 1) t0 t1 t5 t6 c4_0 c4_1
    rw [step_ref03_lowest_0, e]
    rfl
theorem nl_ref03_lowest_0 (F : Nat) (Post : AVal UU → Prop) (t0 : Int) (t1 : Int) (t5 : Int) (t6 : Int) (c4_0 : Int) (c4_1 : Int) : iter (exec C_flat_rational_reduced Try.f66.ntmps M_ref03_lowest F 0 (cL (cB (cF (cS (cS (cS (bo Try.f66)))))))) (M_ref03_lowest 0) F 0 (st_ref03_lowest_0 t0 t1 t5 t6 c4_0 c4_1) (k_ref03_lowest_0 F Post) = n_ref03_lowest_0 F (fun r0_Num r0_Den => Post (.agg [.int .i64 r0_Num, .int .i64 r0_Den])) t0 t1 t5 t6 c4_0 c4_1 := by
  rw [loop_ref03_lowest_0]
  have h0 : (fun t0 t1 t5 t6 c4_0 c4_1 => k_ref03_lowest_0 F Post (.exit 0) (st_ref03_lowest_0 t0 t1 t5 t6 c4_0 c4_1)) = (fun t0 t1 t5 t6 c4_0 c4_1 => g_ref03_lowest_c0_0 (fun r0_Num r0_Den => Post (.agg [.int .i64 r0_Num, .int .i64 r0_Den])) t0 t1 t5 t6 c4_0 c4_1) := by
    funext t0 t1 t5 t6 c4_0 c4_1
    rw [cont_ref03_lowest_0_0]
  rw [h0]
  rfl
theorem exec_ref03_lowest (F : Nat) (Post : AVal UU → Prop) (a0 : Int) (a1 : Int) : exec C_flat_rational_reduced Try.f66.ntmps M_ref03_lowest F 0 (bo Try.f66) (initSt [.int .i64 a0, .int .i64 a1]) (AEnds C_flat_rational_reduced false Try.f66 Post) = w_ref03_lowest F a0 a1 (fun r0_Num r0_Den => Post (.agg [.int .i64 r0_Num, .int .i64 r0_Den])) := by
  rw [entry_ref03_lowest]
  have e0 : (fun t0 t1 t5 t6 c4_0 c4_1 => iter (exec C_flat_rational_reduced Try.f66.ntmps M_ref03_lowest F 0 (cL (cB (cF (cS (cS (cS (bo Try.f66)))))))) (M_ref03_lowest 0) F 0 (st_ref03_lowest_0 t0 t1 t5 t6 c4_0 c4_1) (k_ref03_lowest_0 F Post)) = (n_ref03_lowest_0 F (fun r0_Num r0_Den => Post (.agg [.int .i64 r0_Num, .int .i64 r0_Den]))) := by
    funext t0 t1 t5 t6 c4_0 c4_1
    exact nl_ref03_lowest_0 F Post t0 t1 t5 t6 c4_0 c4_1
  rw [e0]
  rfl
def m_ref03_lowest : Model UU
  | [.int .i64 a0, .int .i64 a1] => some ([pre_ref03_lowest a0 a1], .agg [.int .i64 ((sp_ref03_lowest a0 a1).1), .int .i64 ((sp_ref03_lowest a0 a1).2)])
  | _ => none
def C_ref03_lowest : Cfg UU := C_flat_rational_reduced.add 66 m_ref03_lowest
theorem s_ref03_lowest : SumOK C_ref03_lowest := by
  refine s_flat_rational_reduced.addD mixed (fn := Try.f66) (c := bo Try.f66) Try.func66 (by kernel_rfl) (by kernel_rfl) ?_
  intro xs cs r h hc
  unfold m_ref03_lowest at h
  split at h
  · rename_i a0 a1
    cases h
    obtain ⟨F, hF⟩ := ok_ref03_lowest a0 a1 hc
    refine ⟨by kernel_rfl, M_ref03_lowest, F, false, ⟨?_⟩⟩
    rw [exec_ref03_lowest]
    refine hF _ ?_
    rfl
  · cases h
end
end Go.Proofs.Ytohecfbnmmgimaa

namespace Go.Proofs.Ytohecfbnmmgimaa
open Go.Vm Go.RowKit
set_option linter.unusedVariables false
noncomputable section
set_option maxRecDepth 100000 in
theorem entry_flat_rational_times (F : Nat) (Post : AVal UU → Prop) (a0_num : Int) (a0_den : Int) (a1_num : Int) (a1_den : Int) : exec C_ref03_lowest Try.f47.ntmps M_flat_rational_times F 0 (bo Try.f47) (initSt [.agg [.int .i64 a0_num, .int .i64 a0_den], .agg [.int .i64 a1_num, .int .i64 a1_den]]) (AEnds C_ref03_lowest false Try.f47 Post) = g_flat_rational_times_e a0_num a0_den a1_num a1_den (fun r0_num r0_den => Post (.agg [.int .i64 r0_num, .int .i64 r0_den])) := by kernel_rfl
theorem exec_flat_rational_times (F : Nat) (Post : AVal UU → Prop) (a0_num : Int) (a0_den : Int) (a1_num : Int) (a1_den : Int) : exec C_ref03_lowest Try.f47.ntmps M_flat_rational_times F 0 (bo Try.f47) (initSt [.agg [.int .i64 a0_num, .int .i64 a0_den], .agg [.int .i64 a1_num, .int .i64 a1_den]]) (AEnds C_ref03_lowest false Try.f47 Post) = w_flat_rational_times F a0_num a0_den a1_num a1_den (fun r0_num r0_den => Post (.agg [.int .i64 r0_num, .int .i64 r0_den])) := by
  rw [entry_flat_rational_times]
  rfl
def m_flat_rational_times : Model UU
  | [.agg [.int .i64 a0_num, .int .i64 a0_den], .agg [.int .i64 a1_num, .int .i64 a1_den]] => some ([pre_flat_rational_times a0_num a0_den a1_num a1_den], .agg [.int .i64 ((sp_flat_rational_times a0_num a0_den a1_num a1_den).1), .int .i64 ((sp_flat_rational_times a0_num a0_den a1_num a1_den).2)])
  | _ => none
def C_flat_rational_times : Cfg UU := C_ref03_lowest.add 47 m_flat_rational_times
theorem s_flat_rational_times : SumOK C_flat_rational_times := by
  refine s_ref03_lowest.addD mixed (fn := Try.f47) (c := bo Try.f47) Try.func47 (by kernel_rfl) (by kernel_rfl) ?_
  intro xs cs r h hc
  unfold m_flat_rational_times at h
  split at h
  · rename_i a0_num a0_den a1_num a1_den
    cases h
    obtain ⟨F, hF⟩ := ok_flat_rational_times a0_num a0_den a1_num a1_den hc
    refine ⟨by kernel_rfl, M_flat_rational_times, F, false, ⟨?_⟩⟩
    rw [exec_flat_rational_times]
    refine hF _ ?_
    rfl
  · cases h
set_option maxRecDepth 100000 in
theorem entry_flat_rational_plus (F : Nat) (Post : AVal UU → Prop) (a0_num : Int) (a0_den : Int) (a1_num : Int) (a1_den : Int) : exec C_flat_rational_times Try.f65.ntmps M_flat_rational_plus F 0 (bo Try.f65) (initSt [.agg [.int .i64 a0_num, .int .i64 a0_den], .agg [.int .i64 a1_num, .int .i64 a1_den]]) (AEnds C_flat_rational_times false Try.f65 Post) = g_flat_rational_plus_e a0_num a0_den a1_num a1_den (fun r0_num r0_den => Post (.agg [.int .i64 r0_num, .int .i64 r0_den])) := by kernel_rfl
theorem exec_flat_rational_plus (F : Nat) (Post : AVal UU → Prop) (a0_num : Int) (a0_den : Int) (a1_num : Int) (a1_den : Int) : exec C_flat_rational_times Try.f65.ntmps M_flat_rational_plus F 0 (bo Try.f65) (initSt [.agg [.int .i64 a0_num, .int .i64 a0_den], .agg [.int .i64 a1_num, .int .i64 a1_den]]) (AEnds C_flat_rational_times false Try.f65 Post) = w_flat_rational_plus F a0_num a0_den a1_num a1_den (fun r0_num r0_den => Post (.agg [.int .i64 r0_num, .int .i64 r0_den])) := by
  rw [entry_flat_rational_plus]
  rfl
def m_flat_rational_plus : Model UU
  | [.agg [.int .i64 a0_num, .int .i64 a0_den], .agg [.int .i64 a1_num, .int .i64 a1_den]] => some ([pre_flat_rational_plus a0_num a0_den a1_num a1_den], .agg [.int .i64 ((sp_flat_rational_plus a0_num a0_den a1_num a1_den).1), .int .i64 ((sp_flat_rational_plus a0_num a0_den a1_num a1_den).2)])
  | _ => none
def C_flat_rational_plus : Cfg UU := C_flat_rational_times.add 65 m_flat_rational_plus
theorem s_flat_rational_plus : SumOK C_flat_rational_plus := by
  refine s_flat_rational_times.addD mixed (fn := Try.f65) (c := bo Try.f65) Try.func65 (by kernel_rfl) (by kernel_rfl) ?_
  intro xs cs r h hc
  unfold m_flat_rational_plus at h
  split at h
  · rename_i a0_num a0_den a1_num a1_den
    cases h
    obtain ⟨F, hF⟩ := ok_flat_rational_plus a0_num a0_den a1_num a1_den hc
    refine ⟨by kernel_rfl, M_flat_rational_plus, F, false, ⟨?_⟩⟩
    rw [exec_flat_rational_plus]
    refine hF _ ?_
    rfl
  · cases h
set_option maxRecDepth 100000 in
theorem entry_flat_Reduce (F : Nat) (Post : AVal UU → Prop) (a0_Num : Int) (a0_Den : Int) : exec C_flat_rational_plus Try.f26.ntmps M_flat_Reduce F 0 (bo Try.f26) (initSt [.agg [.int .i64 a0_Num, .int .i64 a0_Den]]) (AEnds C_flat_rational_plus false Try.f26 Post) = g_flat_Reduce_e a0_Num a0_Den (fun r0_Num r0_Den r1 => Post (.tup [.agg [.int .i64 r0_Num, .int .i64 r0_Den], .int .i64 r1])) := by kernel_rfl
theorem exec_flat_Reduce (F : Nat) (Post : AVal UU → Prop) (a0_Num : Int) (a0_Den : Int) : exec C_flat_rational_plus Try.f26.ntmps M_flat_Reduce F 0 (bo Try.f26) (initSt [.agg [.int .i64 a0_Num, .int .i64 a0_Den]]) (AEnds C_flat_rational_plus false Try.f26 Post) = w_flat_Reduce F a0_Num a0_Den (fun r0_Num r0_Den r1 => Post (.tup [.agg [.int .i64 r0_Num, .int .i64 r0_Den], .int .i64 r1])) := by
  rw [entry_flat_Reduce]
  rfl
def m_flat_Reduce : Model UU
  | [.agg [.int .i64 a0_Num, .int .i64 a0_Den]] => some ([pre_flat_Reduce a0_Num a0_Den], .tup [.agg [.int .i64 ((sp_flat_Reduce a0_Num a0_Den).1), .int .i64 ((sp_flat_Reduce a0_Num a0_Den).2.1)], .int .i64 ((sp_flat_Reduce a0_Num a0_Den).2.2)])
  | _ => none
def C_flat_Reduce : Cfg UU := C_flat_rational_plus.add 26 m_flat_Reduce
theorem s_flat_Reduce : SumOK C_flat_Reduce := by
  refine s_flat_rational_plus.addD mixed (fn := Try.f26) (c := bo Try.f26) Try.func26 (by kernel_rfl) (by kernel_rfl) ?_
  intro xs cs r h hc
  unfold m_flat_Reduce at h
  split at h
  · rename_i a0_Num a0_Den
    cases h
    obtain ⟨F, hF⟩ := ok_flat_Reduce a0_Num a0_Den hc
    refine ⟨by kernel_rfl, M_flat_Reduce, F, false, ⟨?_⟩⟩
    rw [exec_flat_Reduce]
    refine hF _ ?_
    rfl
  · cases h
end
end Go.Proofs.Ytohecfbnmmgimaa

namespace Go.Proofs.Ytohecfbnmmgimaa
open Go.Vm Go.RowKit
set_option linter.unusedVariables false
noncomputable section
set_option maxRecDepth 100000 in
theorem entry_flat_Ticks (F : Nat) (Post : AVal UU → Prop) (a0_Num : Int) (a0_Den : Int) : exec C_flat_Reduce Try.f22.ntmps M_flat_Ticks F 0 (bo Try.f22) (initSt [.agg [.int .i64 a0_Num, .int .i64 a0_Den]]) (AEnds C_flat_Reduce false Try.f22 Post) = g_flat_Ticks_e a0_Num a0_Den (fun r0 r1 => Post (.tup [.int .i64 r0, .int .i64 r1])) := by kernel_rfl
theorem exec_flat_Ticks (F : Nat) (Post : AVal UU → Prop) (a0_Num : Int) (a0_Den : Int) : exec C_flat_Reduce Try.f22.ntmps M_flat_Ticks F 0 (bo Try.f22) (initSt [.agg [.int .i64 a0_Num, .int .i64 a0_Den]]) (AEnds C_flat_Reduce false Try.f22 Post) = w_flat_Ticks F a0_Num a0_Den (fun r0 r1 => Post (.tup [.int .i64 r0, .int .i64 r1])) := by
  rw [entry_flat_Ticks]
  rfl
def m_flat_Ticks : Model UU
  | [.agg [.int .i64 a0_Num, .int .i64 a0_Den]] => some ([pre_flat_Ticks a0_Num a0_Den], .tup [.int .i64 ((sp_flat_Ticks a0_Num a0_Den).1), .int .i64 ((sp_flat_Ticks a0_Num a0_Den).2)])
  | _ => none
def C_flat_Ticks : Cfg UU := C_flat_Reduce.add 22 m_flat_Ticks
theorem s_flat_Ticks : SumOK C_flat_Ticks := by
  refine s_flat_Reduce.addD mixed (fn := Try.f22) (c := bo Try.f22) Try.func22 (by kernel_rfl) (by kernel_rfl) ?_
  intro xs cs r h hc
  unfold m_flat_Ticks at h
  split at h
  · rename_i a0_Num a0_Den
    cases h
    obtain ⟨F, hF⟩ := ok_flat_Ticks a0_Num a0_Den hc
    refine ⟨by kernel_rfl, M_flat_Ticks, F, false, ⟨?_⟩⟩
    rw [exec_flat_Ticks]
    refine hF _ ?_
    rfl
  · cases h
end
end Go.Proofs.Ytohecfbnmmgimaa

namespace Go.Proofs.Ytohecfbnmmgimaa
open Go.Vm Go.RowKit
set_option linter.unusedVariables false
noncomputable section
def k_flat_deduction_0 (F : Nat) (Post : AVal UU → Prop) : AEx → ASt UU → Prop := kBlock 0 (kSeq C_flat_Ticks Try.f39.ntmps M_flat_deduction F 0 (cS (cS (bo Try.f39))) (AEnds C_flat_Ticks false Try.f39 Post))
set_option maxRecDepth 100000 in
theorem step_flat_deduction_0 (F n r : Nat) (K : AEx → ASt UU → Prop) (t1 : Int) (t5 : Bool) (t13 : List Ent) (t14 : Int) (t15 : Int) (c2_0 : ByteArray) (c2_1 : Int) (c2_2 : Int) (c2_3 : List Ent) (c4_0 : Int) (c4_1 : Int) : iter (exec C_flat_Ticks Try.f39.ntmps M_flat_deduction F 0 (cL (cB (cS (cF (cS (bo Try.f39))))))) (M_flat_deduction 0) (n + 1) r (st_flat_deduction_0 t1 t5 t13 t14 t15 c2_0 c2_1 c2_2 c2_3 c4_0 c4_1) K = g_flat_deduction_s0 (fun t1 t5 t13 t14 t15 c2_0 c2_1 c2_2 c2_3 c4_0 c4_1 => iter (exec C_flat_Ticks Try.f39.ntmps M_flat_deduction F 0 (cL (cB (cS (cF (cS (bo Try.f39))))))) (M_flat_deduction 0) n (r + 1) (st_flat_deduction_0 t1 t5 t13 t14 t15 c2_0 c2_1 c2_2 c2_3 c4_0 c4_1) K) (fun t1 t5 t13 t14 t15 c2_0 c2_1 c2_2 c2_3 c4_0 c4_1 => K .ret (st_flat_deduction_0 t1 t5 t13 t14 t15 c2_0 c2_1 c2_2 c2_3 c4_0 c4_1)) (fun t1 t5 t13 t14 t15 c2_0 c2_1 c2_2 c2_3 c4_0 c4_1 => K (.exit 0) (st_flat_deduction_0 t1 t5 t13 t14 t15 c2_0 c2_1 c2_2 c2_3 c4_0 c4_1)) t1 t5 t13 t14 t15 c2_0 c2_1 c2_2 c2_3 c4_0 c4_1 := by kernel_rfl
set_option maxRecDepth 100000 in
theorem cont_flat_deduction_0_0 (F : Nat) (Post : AVal UU → Prop) (t1 : Int) (t5 : Bool) (t13 : List Ent) (t14 : Int) (t15 : Int) (c2_0 : ByteArray) (c2_1 : Int) (c2_2 : Int) (c2_3 : List Ent) (c4_0 : Int) (c4_1 : Int) : k_flat_deduction_0 F Post .ret (st_flat_deduction_0 t1 t5 t13 t14 t15 c2_0 c2_1 c2_2 c2_3 c4_0 c4_1) = g_flat_deduction_c0_0 (fun r0_num r0_den r1 => Post (.tup [.agg [.int .i64 r0_num, .int .i64 r0_den], .bool r1])) t1 t5 t13 t14 t15 c2_0 c2_1 c2_2 c2_3 c4_0 c4_1 := by kernel_rfl
set_option maxRecDepth 100000 in
theorem cont_flat_deduction_0_1 (F : Nat) (Post : AVal UU → Prop) (t1 : Int) (t5 : Bool) (t13 : List Ent) (t14 : Int) (t15 : Int) (c2_0 : ByteArray) (c2_1 : Int) (c2_2 : Int) (c2_3 : List Ent) (c4_0 : Int) (c4_1 : Int) : k_flat_deduction_0 F Post (.exit 0) (st_flat_deduction_0 t1 t5 t13 t14 t15 c2_0 c2_1 c2_2 c2_3 c4_0 c4_1) = g_flat_deduction_c0_1 (fun r0_num r0_den r1 => Post (.tup [.agg [.int .i64 r0_num, .int .i64 r0_den], .bool r1])) t1 t5 t13 t14 t15 c2_0 c2_1 c2_2 c2_3 c4_0 c4_1 := by kernel_rfl
set_option maxRecDepth 100000 in
theorem entry_flat_deduction (F : Nat) (Post : AVal UU → Prop) (a0_Material : ByteArray) (a0_Gauge : Int) (a0_Die : Int) (a0_Entries : List Ent) (a1 : Int) : exec C_flat_Ticks Try.f39.ntmps M_flat_deduction F 0 (bo Try.f39) (initSt [.agg [.str a0_Material, .int .i64 a0_Gauge, .int .i64 a0_Die, .sl .ent a0_Entries], .int .i64 a1]) (AEnds C_flat_Ticks false Try.f39 Post) = g_flat_deduction_e a0_Material a0_Gauge a0_Die a0_Entries a1 (fun r0_num r0_den r1 => Post (.tup [.agg [.int .i64 r0_num, .int .i64 r0_den], .bool r1])) (fun t1 t5 t13 t14 t15 c2_0 c2_1 c2_2 c2_3 c4_0 c4_1 => iter (exec C_flat_Ticks Try.f39.ntmps M_flat_deduction F 0 (cL (cB (cS (cF (cS (bo Try.f39))))))) (M_flat_deduction 0) F 0 (st_flat_deduction_0 t1 t5 t13 t14 t15 c2_0 c2_1 c2_2 c2_3 c4_0 c4_1) (k_flat_deduction_0 F Post)) := by kernel_rfl
theorem loop_flat_deduction_0 (F : Nat) (K : AEx → ASt UU → Prop) : ∀ (n r : Nat) (t1 : Int) (t5 : Bool) (t13 : List Ent) (t14 : Int) (t15 : Int) (c2_0 : ByteArray) (c2_1 : Int) (c2_2 : Int) (c2_3 : List Ent) (c4_0 : Int) (c4_1 : Int), iter (exec C_flat_Ticks Try.f39.ntmps M_flat_deduction F 0 (cL (cB (cS (cF (cS (bo Try.f39))))))) (M_flat_deduction 0) n r (st_flat_deduction_0 t1 t5 t13 t14 t15 c2_0 c2_1 c2_2 c2_3 c4_0 c4_1) K = w_flat_deduction_0 F  (fun t1 t5 t13 t14 t15 c2_0 c2_1 c2_2 c2_3 c4_0 c4_1 => K .ret (st_flat_deduction_0 t1 t5 t13 t14 t15 c2_0 c2_1 c2_2 c2_3 c4_0 c4_1)) (fun t1 t5 t13 t14 t15 c2_0 c2_1 c2_2 c2_3 c4_0 c4_1 => K (.exit 0) (st_flat_deduction_0 t1 t5 t13 t14 t15 c2_0 c2_1 c2_2 c2_3 c4_0 c4_1)) n t1 t5 t13 t14 t15 c2_0 c2_1 c2_2 c2_3 c4_0 c4_1 := by
  intro n
  induction n with
  | zero => intros; rfl
  | succ n ih =>
    intro r t1 t5 t13 t14 t15 c2_0 c2_1 c2_2 c2_3 c4_0 c4_1
    have e : (fun t1 t5 t13 t14 t15 c2_0 c2_1 c2_2 c2_3 c4_0 c4_1 => iter (exec C_flat_Ticks Try.f39.ntmps M_flat_deduction F 0 (cL (cB (cS (cF (cS (bo Try.f39))))))) (M_flat_deduction 0) n (r + 1) (st_flat_deduction_0 t1 t5 t13 t14 t15 c2_0 c2_1 c2_2 c2_3 c4_0 c4_1) K) = w_flat_deduction_0 F  (fun t1 t5 t13 t14 t15 c2_0 c2_1 c2_2 c2_3 c4_0 c4_1 => K .ret (st_flat_deduction_0 t1 t5 t13 t14 t15 c2_0 c2_1 c2_2 c2_3 c4_0 c4_1)) (fun t1 t5 t13 t14 t15 c2_0 c2_1 c2_2 c2_3 c4_0 c4_1 => K (.exit 0) (st_flat_deduction_0 t1 t5 t13 t14 t15 c2_0 c2_1 c2_2 c2_3 c4_0 c4_1)) n := by
      funext t1 t5 t13 t14 t15 c2_0 c2_1 c2_2 c2_3 c4_0 c4_1
      exact ih (r + 1) t1 t5 t13 t14 t15 c2_0 c2_1 c2_2 c2_3 c4_0 c4_1
    rw [step_flat_deduction_0, e]
    rfl
theorem nl_flat_deduction_0 (F : Nat) (Post : AVal UU → Prop) (t1 : Int) (t5 : Bool) (t13 : List Ent) (t14 : Int) (t15 : Int) (c2_0 : ByteArray) (c2_1 : Int) (c2_2 : Int) (c2_3 : List Ent) (c4_0 : Int) (c4_1 : Int) : iter (exec C_flat_Ticks Try.f39.ntmps M_flat_deduction F 0 (cL (cB (cS (cF (cS (bo Try.f39))))))) (M_flat_deduction 0) F 0 (st_flat_deduction_0 t1 t5 t13 t14 t15 c2_0 c2_1 c2_2 c2_3 c4_0 c4_1) (k_flat_deduction_0 F Post) = n_flat_deduction_0 F (fun r0_num r0_den r1 => Post (.tup [.agg [.int .i64 r0_num, .int .i64 r0_den], .bool r1])) t1 t5 t13 t14 t15 c2_0 c2_1 c2_2 c2_3 c4_0 c4_1 := by
  rw [loop_flat_deduction_0]
  have h0 : (fun t1 t5 t13 t14 t15 c2_0 c2_1 c2_2 c2_3 c4_0 c4_1 => k_flat_deduction_0 F Post .ret (st_flat_deduction_0 t1 t5 t13 t14 t15 c2_0 c2_1 c2_2 c2_3 c4_0 c4_1)) = (fun t1 t5 t13 t14 t15 c2_0 c2_1 c2_2 c2_3 c4_0 c4_1 => g_flat_deduction_c0_0 (fun r0_num r0_den r1 => Post (.tup [.agg [.int .i64 r0_num, .int .i64 r0_den], .bool r1])) t1 t5 t13 t14 t15 c2_0 c2_1 c2_2 c2_3 c4_0 c4_1) := by
    funext t1 t5 t13 t14 t15 c2_0 c2_1 c2_2 c2_3 c4_0 c4_1
    rw [cont_flat_deduction_0_0]
  have h1 : (fun t1 t5 t13 t14 t15 c2_0 c2_1 c2_2 c2_3 c4_0 c4_1 => k_flat_deduction_0 F Post (.exit 0) (st_flat_deduction_0 t1 t5 t13 t14 t15 c2_0 c2_1 c2_2 c2_3 c4_0 c4_1)) = (fun t1 t5 t13 t14 t15 c2_0 c2_1 c2_2 c2_3 c4_0 c4_1 => g_flat_deduction_c0_1 (fun r0_num r0_den r1 => Post (.tup [.agg [.int .i64 r0_num, .int .i64 r0_den], .bool r1])) t1 t5 t13 t14 t15 c2_0 c2_1 c2_2 c2_3 c4_0 c4_1) := by
    funext t1 t5 t13 t14 t15 c2_0 c2_1 c2_2 c2_3 c4_0 c4_1
    rw [cont_flat_deduction_0_1]
  rw [h0, h1]
  rfl
theorem exec_flat_deduction (F : Nat) (Post : AVal UU → Prop) (a0_Material : ByteArray) (a0_Gauge : Int) (a0_Die : Int) (a0_Entries : List Ent) (a1 : Int) : exec C_flat_Ticks Try.f39.ntmps M_flat_deduction F 0 (bo Try.f39) (initSt [.agg [.str a0_Material, .int .i64 a0_Gauge, .int .i64 a0_Die, .sl .ent a0_Entries], .int .i64 a1]) (AEnds C_flat_Ticks false Try.f39 Post) = w_flat_deduction F a0_Material a0_Gauge a0_Die a0_Entries a1 (fun r0_num r0_den r1 => Post (.tup [.agg [.int .i64 r0_num, .int .i64 r0_den], .bool r1])) := by
  rw [entry_flat_deduction]
  have e0 : (fun t1 t5 t13 t14 t15 c2_0 c2_1 c2_2 c2_3 c4_0 c4_1 => iter (exec C_flat_Ticks Try.f39.ntmps M_flat_deduction F 0 (cL (cB (cS (cF (cS (bo Try.f39))))))) (M_flat_deduction 0) F 0 (st_flat_deduction_0 t1 t5 t13 t14 t15 c2_0 c2_1 c2_2 c2_3 c4_0 c4_1) (k_flat_deduction_0 F Post)) = (n_flat_deduction_0 F (fun r0_num r0_den r1 => Post (.tup [.agg [.int .i64 r0_num, .int .i64 r0_den], .bool r1]))) := by
    funext t1 t5 t13 t14 t15 c2_0 c2_1 c2_2 c2_3 c4_0 c4_1
    exact nl_flat_deduction_0 F Post t1 t5 t13 t14 t15 c2_0 c2_1 c2_2 c2_3 c4_0 c4_1
  rw [e0]
  rfl
def m_flat_deduction : Model UU
  | [.agg [.str a0_Material, .int .i64 a0_Gauge, .int .i64 a0_Die, .sl .ent a0_Entries], .int .i64 a1] => some ([pre_flat_deduction a0_Material a0_Gauge a0_Die a0_Entries a1], .tup [.agg [.int .i64 ((sp_flat_deduction a0_Material a0_Gauge a0_Die a0_Entries a1).1), .int .i64 ((sp_flat_deduction a0_Material a0_Gauge a0_Die a0_Entries a1).2.1)], .bool ((sp_flat_deduction a0_Material a0_Gauge a0_Die a0_Entries a1).2.2)])
  | _ => none
def C_flat_deduction : Cfg UU := C_flat_Ticks.add 39 m_flat_deduction
theorem s_flat_deduction : SumOK C_flat_deduction := by
  refine s_flat_Ticks.addD mixed (fn := Try.f39) (c := bo Try.f39) Try.func39 (by kernel_rfl) (by kernel_rfl) ?_
  intro xs cs r h hc
  unfold m_flat_deduction at h
  split at h
  · rename_i a0_Material a0_Gauge a0_Die a0_Entries a1
    cases h
    obtain ⟨F, hF⟩ := ok_flat_deduction a0_Material a0_Gauge a0_Die a0_Entries a1 hc
    refine ⟨by kernel_rfl, M_flat_deduction, F, false, ⟨?_⟩⟩
    rw [exec_flat_deduction]
    refine hF _ ?_
    rfl
  · cases h
def k_ref03_deduction_0 (F : Nat) (Post : AVal UU → Prop) : AEx → ASt UU → Prop := kBlock 0 (kSeq C_flat_deduction Try.f41.ntmps M_ref03_deduction F 0 (cS (cS (cS (bo Try.f41)))) (AEnds C_flat_deduction false Try.f41 Post))
set_option maxRecDepth 100000 in
theorem step_ref03_deduction_0 (F n r : Nat) (K : AEx → ASt UU → Prop) (t1 : Int) (t6 : Int) (t7 : Int) (t8 : Int) (c2_0 : ByteArray) (c2_1 : Int) (c2_2 : Int) (c2_3 : List Ent) (c4_0 : Int) (c4_1 : Int) : iter (exec C_flat_deduction Try.f41.ntmps M_ref03_deduction F 0 (cL (cB (cS (cF (cS (cS (bo Try.f41)))))))) (M_ref03_deduction 0) (n + 1) r (st_ref03_deduction_0 t1 t6 t7 t8 c2_0 c2_1 c2_2 c2_3 c4_0 c4_1) K = g_ref03_deduction_s0 (fun t1 t6 t7 t8 c2_0 c2_1 c2_2 c2_3 c4_0 c4_1 => iter (exec C_flat_deduction Try.f41.ntmps M_ref03_deduction F 0 (cL (cB (cS (cF (cS (cS (bo Try.f41)))))))) (M_ref03_deduction 0) n (r + 1) (st_ref03_deduction_0 t1 t6 t7 t8 c2_0 c2_1 c2_2 c2_3 c4_0 c4_1) K) (fun t1 t6 t7 t8 c2_0 c2_1 c2_2 c2_3 c4_0 c4_1 => K (.exit 0) (st_ref03_deduction_0 t1 t6 t7 t8 c2_0 c2_1 c2_2 c2_3 c4_0 c4_1)) t1 t6 t7 t8 c2_0 c2_1 c2_2 c2_3 c4_0 c4_1 := by kernel_rfl
set_option maxRecDepth 100000 in
theorem cont_ref03_deduction_0_0 (F : Nat) (Post : AVal UU → Prop) (t1 : Int) (t6 : Int) (t7 : Int) (t8 : Int) (c2_0 : ByteArray) (c2_1 : Int) (c2_2 : Int) (c2_3 : List Ent) (c4_0 : Int) (c4_1 : Int) : k_ref03_deduction_0 F Post (.exit 0) (st_ref03_deduction_0 t1 t6 t7 t8 c2_0 c2_1 c2_2 c2_3 c4_0 c4_1) = g_ref03_deduction_c0_0 (fun r0_Num r0_Den r1 => Post (.tup [.agg [.int .i64 r0_Num, .int .i64 r0_Den], .int .i64 r1])) t1 t6 t7 t8 c2_0 c2_1 c2_2 c2_3 c4_0 c4_1 := by kernel_rfl
set_option maxRecDepth 100000 in
theorem entry_ref03_deduction (F : Nat) (Post : AVal UU → Prop) (a0_Material : ByteArray) (a0_Gauge : Int) (a0_Die : Int) (a0_Entries : List Ent) (a1 : Int) : exec C_flat_deduction Try.f41.ntmps M_ref03_deduction F 0 (bo Try.f41) (initSt [.agg [.str a0_Material, .int .i64 a0_Gauge, .int .i64 a0_Die, .sl .ent a0_Entries], .int .i64 a1]) (AEnds C_flat_deduction false Try.f41 Post) = g_ref03_deduction_e a0_Material a0_Gauge a0_Die a0_Entries a1 (fun r0_Num r0_Den r1 => Post (.tup [.agg [.int .i64 r0_Num, .int .i64 r0_Den], .int .i64 r1])) (fun t1 t6 t7 t8 c2_0 c2_1 c2_2 c2_3 c4_0 c4_1 => iter (exec C_flat_deduction Try.f41.ntmps M_ref03_deduction F 0 (cL (cB (cS (cF (cS (cS (bo Try.f41)))))))) (M_ref03_deduction 0) F 0 (st_ref03_deduction_0 t1 t6 t7 t8 c2_0 c2_1 c2_2 c2_3 c4_0 c4_1) (k_ref03_deduction_0 F Post)) := by kernel_rfl
theorem loop_ref03_deduction_0 (F : Nat) (K : AEx → ASt UU → Prop) : ∀ (n r : Nat) (t1 : Int) (t6 : Int) (t7 : Int) (t8 : Int) (c2_0 : ByteArray) (c2_1 : Int) (c2_2 : Int) (c2_3 : List Ent) (c4_0 : Int) (c4_1 : Int), iter (exec C_flat_deduction Try.f41.ntmps M_ref03_deduction F 0 (cL (cB (cS (cF (cS (cS (bo Try.f41)))))))) (M_ref03_deduction 0) n r (st_ref03_deduction_0 t1 t6 t7 t8 c2_0 c2_1 c2_2 c2_3 c4_0 c4_1) K = w_ref03_deduction_0 F  (fun t1 t6 t7 t8 c2_0 c2_1 c2_2 c2_3 c4_0 c4_1 => K (.exit 0) (st_ref03_deduction_0 t1 t6 t7 t8 c2_0 c2_1 c2_2 c2_3 c4_0 c4_1)) n t1 t6 t7 t8 c2_0 c2_1 c2_2 c2_3 c4_0 c4_1 := by
  intro n
  induction n with
  | zero => intros; rfl
  | succ n ih =>
    intro r t1 t6 t7 t8 c2_0 c2_1 c2_2 c2_3 c4_0 c4_1
    have e : (fun t1 t6 t7 t8 c2_0 c2_1 c2_2 c2_3 c4_0 c4_1 => iter (exec C_flat_deduction Try.f41.ntmps M_ref03_deduction F 0 (cL (cB (cS (cF (cS (cS (bo Try.f41)))))))) (M_ref03_deduction 0) n (r + 1) (st_ref03_deduction_0 t1 t6 t7 t8 c2_0 c2_1 c2_2 c2_3 c4_0 c4_1) K) = w_ref03_deduction_0 F  (fun t1 t6 t7 t8 c2_0 c2_1 c2_2 c2_3 c4_0 c4_1 => K (.exit 0) (st_ref03_deduction_0 t1 t6 t7 t8 c2_0 c2_1 c2_2 c2_3 c4_0 c4_1)) n := by
      funext t1 t6 t7 t8 c2_0 c2_1 c2_2 c2_3 c4_0 c4_1
      exact ih (r + 1) t1 t6 t7 t8 c2_0 c2_1 c2_2 c2_3 c4_0 c4_1
    rw [step_ref03_deduction_0, e]
    rfl
theorem nl_ref03_deduction_0 (F : Nat) (Post : AVal UU → Prop) (t1 : Int) (t6 : Int) (t7 : Int) (t8 : Int) (c2_0 : ByteArray) (c2_1 : Int) (c2_2 : Int) (c2_3 : List Ent) (c4_0 : Int) (c4_1 : Int) : iter (exec C_flat_deduction Try.f41.ntmps M_ref03_deduction F 0 (cL (cB (cS (cF (cS (cS (bo Try.f41)))))))) (M_ref03_deduction 0) F 0 (st_ref03_deduction_0 t1 t6 t7 t8 c2_0 c2_1 c2_2 c2_3 c4_0 c4_1) (k_ref03_deduction_0 F Post) = n_ref03_deduction_0 F (fun r0_Num r0_Den r1 => Post (.tup [.agg [.int .i64 r0_Num, .int .i64 r0_Den], .int .i64 r1])) t1 t6 t7 t8 c2_0 c2_1 c2_2 c2_3 c4_0 c4_1 := by
  rw [loop_ref03_deduction_0]
  have h0 : (fun t1 t6 t7 t8 c2_0 c2_1 c2_2 c2_3 c4_0 c4_1 => k_ref03_deduction_0 F Post (.exit 0) (st_ref03_deduction_0 t1 t6 t7 t8 c2_0 c2_1 c2_2 c2_3 c4_0 c4_1)) = (fun t1 t6 t7 t8 c2_0 c2_1 c2_2 c2_3 c4_0 c4_1 => g_ref03_deduction_c0_0 (fun r0_Num r0_Den r1 => Post (.tup [.agg [.int .i64 r0_Num, .int .i64 r0_Den], .int .i64 r1])) t1 t6 t7 t8 c2_0 c2_1 c2_2 c2_3 c4_0 c4_1) := by
    funext t1 t6 t7 t8 c2_0 c2_1 c2_2 c2_3 c4_0 c4_1
    rw [cont_ref03_deduction_0_0]
  rw [h0]
  rfl
theorem exec_ref03_deduction (F : Nat) (Post : AVal UU → Prop) (a0_Material : ByteArray) (a0_Gauge : Int) (a0_Die : Int) (a0_Entries : List Ent) (a1 : Int) : exec C_flat_deduction Try.f41.ntmps M_ref03_deduction F 0 (bo Try.f41) (initSt [.agg [.str a0_Material, .int .i64 a0_Gauge, .int .i64 a0_Die, .sl .ent a0_Entries], .int .i64 a1]) (AEnds C_flat_deduction false Try.f41 Post) = w_ref03_deduction F a0_Material a0_Gauge a0_Die a0_Entries a1 (fun r0_Num r0_Den r1 => Post (.tup [.agg [.int .i64 r0_Num, .int .i64 r0_Den], .int .i64 r1])) := by
  rw [entry_ref03_deduction]
  have e0 : (fun t1 t6 t7 t8 c2_0 c2_1 c2_2 c2_3 c4_0 c4_1 => iter (exec C_flat_deduction Try.f41.ntmps M_ref03_deduction F 0 (cL (cB (cS (cF (cS (cS (bo Try.f41)))))))) (M_ref03_deduction 0) F 0 (st_ref03_deduction_0 t1 t6 t7 t8 c2_0 c2_1 c2_2 c2_3 c4_0 c4_1) (k_ref03_deduction_0 F Post)) = (n_ref03_deduction_0 F (fun r0_Num r0_Den r1 => Post (.tup [.agg [.int .i64 r0_Num, .int .i64 r0_Den], .int .i64 r1]))) := by
    funext t1 t6 t7 t8 c2_0 c2_1 c2_2 c2_3 c4_0 c4_1
    exact nl_ref03_deduction_0 F Post t1 t6 t7 t8 c2_0 c2_1 c2_2 c2_3 c4_0 c4_1
  rw [e0]
  rfl
def m_ref03_deduction : Model UU
  | [.agg [.str a0_Material, .int .i64 a0_Gauge, .int .i64 a0_Die, .sl .ent a0_Entries], .int .i64 a1] => some ([pre_ref03_deduction a0_Material a0_Gauge a0_Die a0_Entries a1], .tup [.agg [.int .i64 ((sp_ref03_deduction a0_Material a0_Gauge a0_Die a0_Entries a1).1), .int .i64 ((sp_ref03_deduction a0_Material a0_Gauge a0_Die a0_Entries a1).2.1)], .int .i64 ((sp_ref03_deduction a0_Material a0_Gauge a0_Die a0_Entries a1).2.2)])
  | _ => none
def C_ref03_deduction : Cfg UU := C_flat_deduction.add 41 m_ref03_deduction
theorem s_ref03_deduction : SumOK C_ref03_deduction := by
  refine s_flat_deduction.addD mixed (fn := Try.f41) (c := bo Try.f41) Try.func41 (by kernel_rfl) (by kernel_rfl) ?_
  intro xs cs r h hc
  unfold m_ref03_deduction at h
  split at h
  · rename_i a0_Material a0_Gauge a0_Die a0_Entries a1
    cases h
    obtain ⟨F, hF⟩ := ok_ref03_deduction a0_Material a0_Gauge a0_Die a0_Entries a1 hc
    refine ⟨by kernel_rfl, M_ref03_deduction, F, false, ⟨?_⟩⟩
    rw [exec_ref03_deduction]
    refine hF _ ?_
    rfl
  · cases h
end
end Go.Proofs.Ytohecfbnmmgimaa

namespace Go.Proofs.Ytohecfbnmmgimaa
open Go.Vm Go.RowKit
set_option linter.unusedVariables false
noncomputable section
set_option maxRecDepth 100000 in
theorem entry_flat_Deduction (F : Nat) (Post : AVal UU → Prop) (a0_Material : ByteArray) (a0_Gauge : Int) (a0_Die : Int) (a0_Entries : List Ent) (a1 : Int) : exec C_ref03_deduction Try.f18.ntmps M_flat_Deduction F 0 (bo Try.f18) (initSt [.agg [.str a0_Material, .int .i64 a0_Gauge, .int .i64 a0_Die, .sl .ent a0_Entries], .int .i64 a1]) (AEnds C_ref03_deduction false Try.f18 Post) = g_flat_Deduction_e a0_Material a0_Gauge a0_Die a0_Entries a1 (fun r0_Num r0_Den r1 => Post (.tup [.agg [.int .i64 r0_Num, .int .i64 r0_Den], .int .i64 r1])) := by kernel_rfl
theorem exec_flat_Deduction (F : Nat) (Post : AVal UU → Prop) (a0_Material : ByteArray) (a0_Gauge : Int) (a0_Die : Int) (a0_Entries : List Ent) (a1 : Int) : exec C_ref03_deduction Try.f18.ntmps M_flat_Deduction F 0 (bo Try.f18) (initSt [.agg [.str a0_Material, .int .i64 a0_Gauge, .int .i64 a0_Die, .sl .ent a0_Entries], .int .i64 a1]) (AEnds C_ref03_deduction false Try.f18 Post) = w_flat_Deduction F a0_Material a0_Gauge a0_Die a0_Entries a1 (fun r0_Num r0_Den r1 => Post (.tup [.agg [.int .i64 r0_Num, .int .i64 r0_Den], .int .i64 r1])) := by
  rw [entry_flat_Deduction]
  rfl
def m_flat_Deduction : Model UU
  | [.agg [.str a0_Material, .int .i64 a0_Gauge, .int .i64 a0_Die, .sl .ent a0_Entries], .int .i64 a1] => some ([pre_flat_Deduction a0_Material a0_Gauge a0_Die a0_Entries a1], .tup [.agg [.int .i64 ((sp_flat_Deduction a0_Material a0_Gauge a0_Die a0_Entries a1).1), .int .i64 ((sp_flat_Deduction a0_Material a0_Gauge a0_Die a0_Entries a1).2.1)], .int .i64 ((sp_flat_Deduction a0_Material a0_Gauge a0_Die a0_Entries a1).2.2)])
  | _ => none
def C_flat_Deduction : Cfg UU := C_ref03_deduction.add 18 m_flat_Deduction
theorem s_flat_Deduction : SumOK C_flat_Deduction := by
  refine s_ref03_deduction.addD mixed (fn := Try.f18) (c := bo Try.f18) Try.func18 (by kernel_rfl) (by kernel_rfl) ?_
  intro xs cs r h hc
  unfold m_flat_Deduction at h
  split at h
  · rename_i a0_Material a0_Gauge a0_Die a0_Entries a1
    cases h
    obtain ⟨F, hF⟩ := ok_flat_Deduction a0_Material a0_Gauge a0_Die a0_Entries a1 hc
    refine ⟨by kernel_rfl, M_flat_Deduction, F, false, ⟨?_⟩⟩
    rw [exec_flat_Deduction]
    refine hF _ ?_
    rfl
  · cases h
set_option maxRecDepth 100000 in
theorem entry_ref03_Deduction (F : Nat) (Post : AVal UU → Prop) (a0_Material : ByteArray) (a0_Gauge : Int) (a0_Die : Int) (a0_Entries : List Ent) (a1 : Int) : exec C_flat_Deduction Try.f19.ntmps M_ref03_Deduction F 0 (bo Try.f19) (initSt [.agg [.str a0_Material, .int .i64 a0_Gauge, .int .i64 a0_Die, .sl .ent a0_Entries], .int .i64 a1]) (AEnds C_flat_Deduction false Try.f19 Post) = g_ref03_Deduction_e a0_Material a0_Gauge a0_Die a0_Entries a1 (fun r0_Num r0_Den r1 => Post (.tup [.agg [.int .i64 r0_Num, .int .i64 r0_Den], .int .i64 r1])) := by kernel_rfl
theorem exec_ref03_Deduction (F : Nat) (Post : AVal UU → Prop) (a0_Material : ByteArray) (a0_Gauge : Int) (a0_Die : Int) (a0_Entries : List Ent) (a1 : Int) : exec C_flat_Deduction Try.f19.ntmps M_ref03_Deduction F 0 (bo Try.f19) (initSt [.agg [.str a0_Material, .int .i64 a0_Gauge, .int .i64 a0_Die, .sl .ent a0_Entries], .int .i64 a1]) (AEnds C_flat_Deduction false Try.f19 Post) = w_ref03_Deduction F a0_Material a0_Gauge a0_Die a0_Entries a1 (fun r0_Num r0_Den r1 => Post (.tup [.agg [.int .i64 r0_Num, .int .i64 r0_Den], .int .i64 r1])) := by
  rw [entry_ref03_Deduction]
  rfl
def m_ref03_Deduction : Model UU
  | [.agg [.str a0_Material, .int .i64 a0_Gauge, .int .i64 a0_Die, .sl .ent a0_Entries], .int .i64 a1] => some ([pre_ref03_Deduction a0_Material a0_Gauge a0_Die a0_Entries a1], .tup [.agg [.int .i64 ((sp_ref03_Deduction a0_Material a0_Gauge a0_Die a0_Entries a1).1), .int .i64 ((sp_ref03_Deduction a0_Material a0_Gauge a0_Die a0_Entries a1).2.1)], .int .i64 ((sp_ref03_Deduction a0_Material a0_Gauge a0_Die a0_Entries a1).2.2)])
  | _ => none
def C_ref03_Deduction : Cfg UU := C_flat_Deduction.add 19 m_ref03_Deduction
theorem s_ref03_Deduction : SumOK C_ref03_Deduction := by
  refine s_flat_Deduction.addD mixed (fn := Try.f19) (c := bo Try.f19) Try.func19 (by kernel_rfl) (by kernel_rfl) ?_
  intro xs cs r h hc
  unfold m_ref03_Deduction at h
  split at h
  · rename_i a0_Material a0_Gauge a0_Die a0_Entries a1
    cases h
    obtain ⟨F, hF⟩ := ok_ref03_Deduction a0_Material a0_Gauge a0_Die a0_Entries a1 hc
    refine ⟨by kernel_rfl, M_ref03_Deduction, F, false, ⟨?_⟩⟩
    rw [exec_ref03_Deduction]
    refine hF _ ?_
    rfl
  · cases h
set_option maxRecDepth 100000 in
theorem entry_law03_Wide (F : Nat) (Post : AVal UU → Prop) (a0_Material : ByteArray) (a0_Gauge : Int) (a0_Die : Int) (a0_Entries : List Ent) : exec C_ref03_Deduction Try.f17.ntmps M_law03_Wide F 0 (bo Try.f17) (initSt [.agg [.str a0_Material, .int .i64 a0_Gauge, .int .i64 a0_Die, .sl .ent a0_Entries]]) (AEnds C_ref03_Deduction false Try.f17 Post) = g_law03_Wide_e a0_Material a0_Gauge a0_Die a0_Entries (fun r0 => Post (.bool r0)) := by kernel_rfl
theorem exec_law03_Wide (F : Nat) (Post : AVal UU → Prop) (a0_Material : ByteArray) (a0_Gauge : Int) (a0_Die : Int) (a0_Entries : List Ent) : exec C_ref03_Deduction Try.f17.ntmps M_law03_Wide F 0 (bo Try.f17) (initSt [.agg [.str a0_Material, .int .i64 a0_Gauge, .int .i64 a0_Die, .sl .ent a0_Entries]]) (AEnds C_ref03_Deduction false Try.f17 Post) = w_law03_Wide F a0_Material a0_Gauge a0_Die a0_Entries (fun r0 => Post (.bool r0)) := by
  rw [entry_law03_Wide]
  rfl
def m_law03_Wide : Model UU
  | [.agg [.str a0_Material, .int .i64 a0_Gauge, .int .i64 a0_Die, .sl .ent a0_Entries]] => some ([], .bool (sp_law03_Wide a0_Material a0_Gauge a0_Die a0_Entries))
  | _ => none
def C_law03_Wide : Cfg UU := C_ref03_Deduction.add 17 m_law03_Wide
theorem s_law03_Wide : SumOK C_law03_Wide := by
  refine s_ref03_Deduction.addD mixed (fn := Try.f17) (c := bo Try.f17) Try.func17 (by kernel_rfl) (by kernel_rfl) ?_
  intro xs cs r h hc
  unfold m_law03_Wide at h
  split at h
  · rename_i a0_Material a0_Gauge a0_Die a0_Entries
    cases h
    obtain ⟨F, hF⟩ := ok_law03_Wide a0_Material a0_Gauge a0_Die a0_Entries
    refine ⟨by kernel_rfl, M_law03_Wide, F, false, ⟨?_⟩⟩
    rw [exec_law03_Wide]
    refine hF _ ?_
    rfl
  · cases h
set_option maxRecDepth 100000 in
theorem entry_law03_known (F : Nat) (Post : AVal UU → Prop)  : exec C_law03_Wide Try.f9.ntmps M_law03_known F 0 (bo Try.f9) (initSt []) (AEnds C_law03_Wide false Try.f9 Post) = g_law03_known_e  (fun r0 => Post (.bool r0)) := by kernel_rfl
theorem exec_law03_known (F : Nat) (Post : AVal UU → Prop)  : exec C_law03_Wide Try.f9.ntmps M_law03_known F 0 (bo Try.f9) (initSt []) (AEnds C_law03_Wide false Try.f9 Post) = w_law03_known F  (fun r0 => Post (.bool r0)) := by
  rw [entry_law03_known]
  rfl
def m_law03_known : Model UU
  | [] => some ([pre_law03_known ], .bool sp_law03_known)
  | _ => none
def C_law03_known : Cfg UU := C_law03_Wide.add 9 m_law03_known
theorem s_law03_known : SumOK C_law03_known := by
  refine s_law03_Wide.addD mixed (fn := Try.f9) (c := bo Try.f9) Try.func9 (by kernel_rfl) (by kernel_rfl) ?_
  intro xs cs r h hc
  unfold m_law03_known at h
  split at h
  · cases h
    obtain ⟨F, hF⟩ := ok_law03_known  hc
    refine ⟨by kernel_rfl, M_law03_known, F, false, ⟨?_⟩⟩
    rw [exec_law03_known]
    refine hF _ ?_
    rfl
  · cases h
end
end Go.Proofs.Ytohecfbnmmgimaa

namespace Go.Proofs.Ytohecfbnmmgimaa
open Go.Vm Go.RowKit
set_option linter.unusedVariables false
noncomputable section
set_option maxRecDepth 100000 in
theorem entry_geom_within (F : Nat) (Post : AVal UU → Prop) (a0 : Int) (a1 : Int) : exec C_law03_known Try.f79.ntmps M_geom_within F 0 (bo Try.f79) (initSt [.int .i64 a0, .int .i64 a1]) (AEnds C_law03_known false Try.f79 Post) = g_geom_within_e a0 a1 (fun r0 => Post (.bool r0)) := by kernel_rfl
theorem exec_geom_within (F : Nat) (Post : AVal UU → Prop) (a0 : Int) (a1 : Int) : exec C_law03_known Try.f79.ntmps M_geom_within F 0 (bo Try.f79) (initSt [.int .i64 a0, .int .i64 a1]) (AEnds C_law03_known false Try.f79 Post) = w_geom_within F a0 a1 (fun r0 => Post (.bool r0)) := by
  rw [entry_geom_within]
  rfl
def m_geom_within : Model UU
  | [.int .i64 a0, .int .i64 a1] => some ([], .bool (sp_geom_within a0 a1))
  | _ => none
def C_geom_within : Cfg UU := C_law03_known.add 79 m_geom_within
theorem s_geom_within : SumOK C_geom_within := by
  refine s_law03_known.addD mixed (fn := Try.f79) (c := bo Try.f79) Try.func79 (by kernel_rfl) (by kernel_rfl) ?_
  intro xs cs r h hc
  unfold m_geom_within at h
  split at h
  · rename_i a0 a1
    cases h
    obtain ⟨F, hF⟩ := ok_geom_within a0 a1
    refine ⟨by kernel_rfl, M_geom_within, F, false, ⟨?_⟩⟩
    rw [exec_geom_within]
    refine hF _ ?_
    rfl
  · cases h
set_option maxRecDepth 100000 in
theorem entry_geom_ValidRect_1 (F : Nat) (Post : AVal UU → Prop) (a0 : Int) (a1 : Int) : exec C_geom_within Try.f78.ntmps M_geom_ValidRect_1 F 0 (bo Try.f78) (initSt [.int .i64 a0, .int .i64 a1]) (AEnds C_geom_within false Try.f78 Post) = g_geom_ValidRect_1_e a0 a1 (fun r0 => Post (.bool r0)) := by kernel_rfl
theorem exec_geom_ValidRect_1 (F : Nat) (Post : AVal UU → Prop) (a0 : Int) (a1 : Int) : exec C_geom_within Try.f78.ntmps M_geom_ValidRect_1 F 0 (bo Try.f78) (initSt [.int .i64 a0, .int .i64 a1]) (AEnds C_geom_within false Try.f78 Post) = w_geom_ValidRect_1 F a0 a1 (fun r0 => Post (.bool r0)) := by
  rw [entry_geom_ValidRect_1]
  rfl
def m_geom_ValidRect_1 : Model UU
  | [.int .i64 a0, .int .i64 a1] => some ([], .bool (sp_geom_ValidRect_1 a0 a1))
  | _ => none
def C_geom_ValidRect_1 : Cfg UU := C_geom_within.add 78 m_geom_ValidRect_1
theorem s_geom_ValidRect_1 : SumOK C_geom_ValidRect_1 := by
  refine s_geom_within.addD mixed (fn := Try.f78) (c := bo Try.f78) Try.func78 (by kernel_rfl) (by kernel_rfl) ?_
  intro xs cs r h hc
  unfold m_geom_ValidRect_1 at h
  split at h
  · rename_i a0 a1
    cases h
    obtain ⟨F, hF⟩ := ok_geom_ValidRect_1 a0 a1
    refine ⟨by kernel_rfl, M_geom_ValidRect_1, F, false, ⟨?_⟩⟩
    rw [exec_geom_ValidRect_1]
    refine hF _ ?_
    rfl
  · cases h
set_option maxRecDepth 100000 in
theorem entry_geom_ValidRect (F : Nat) (Post : AVal UU → Prop) (a0_X : Int) (a0_Y : Int) (a0_W : Int) (a0_H : Int) : exec C_geom_ValidRect_1 Try.f54.ntmps M_geom_ValidRect F 0 (bo Try.f54) (initSt [.agg [.int .i64 a0_X, .int .i64 a0_Y, .int .i64 a0_W, .int .i64 a0_H]]) (AEnds C_geom_ValidRect_1 false Try.f54 Post) = g_geom_ValidRect_e a0_X a0_Y a0_W a0_H (fun r0 => Post (.bool r0)) := by kernel_rfl
theorem exec_geom_ValidRect (F : Nat) (Post : AVal UU → Prop) (a0_X : Int) (a0_Y : Int) (a0_W : Int) (a0_H : Int) : exec C_geom_ValidRect_1 Try.f54.ntmps M_geom_ValidRect F 0 (bo Try.f54) (initSt [.agg [.int .i64 a0_X, .int .i64 a0_Y, .int .i64 a0_W, .int .i64 a0_H]]) (AEnds C_geom_ValidRect_1 false Try.f54 Post) = w_geom_ValidRect F a0_X a0_Y a0_W a0_H (fun r0 => Post (.bool r0)) := by
  rw [entry_geom_ValidRect]
  rfl
def m_geom_ValidRect : Model UU
  | [.agg [.int .i64 a0_X, .int .i64 a0_Y, .int .i64 a0_W, .int .i64 a0_H]] => some ([], .bool (sp_geom_ValidRect a0_X a0_Y a0_W a0_H))
  | _ => none
def C_geom_ValidRect : Cfg UU := C_geom_ValidRect_1.add 54 m_geom_ValidRect
theorem s_geom_ValidRect : SumOK C_geom_ValidRect := by
  refine s_geom_ValidRect_1.addD mixed (fn := Try.f54) (c := bo Try.f54) Try.func54 (by kernel_rfl) (by kernel_rfl) ?_
  intro xs cs r h hc
  unfold m_geom_ValidRect at h
  split at h
  · rename_i a0_X a0_Y a0_W a0_H
    cases h
    obtain ⟨F, hF⟩ := ok_geom_ValidRect a0_X a0_Y a0_W a0_H
    refine ⟨by kernel_rfl, M_geom_ValidRect, F, false, ⟨?_⟩⟩
    rw [exec_geom_ValidRect]
    refine hF _ ?_
    rfl
  · cases h
set_option maxRecDepth 100000 in
theorem entry_ref01_within (F : Nat) (Post : AVal UU → Prop) (a0 : Int) (a1 : Int) (a2 : Int) : exec C_geom_ValidRect Try.f94.ntmps M_ref01_within F 0 (bo Try.f94) (initSt [.int .i64 a0, .int .i64 a1, .int .i64 a2]) (AEnds C_geom_ValidRect false Try.f94 Post) = g_ref01_within_e a0 a1 a2 (fun r0 => Post (.bool r0)) := by kernel_rfl
theorem exec_ref01_within (F : Nat) (Post : AVal UU → Prop) (a0 : Int) (a1 : Int) (a2 : Int) : exec C_geom_ValidRect Try.f94.ntmps M_ref01_within F 0 (bo Try.f94) (initSt [.int .i64 a0, .int .i64 a1, .int .i64 a2]) (AEnds C_geom_ValidRect false Try.f94 Post) = w_ref01_within F a0 a1 a2 (fun r0 => Post (.bool r0)) := by
  rw [entry_ref01_within]
  rfl
def m_ref01_within : Model UU
  | [.int .i64 a0, .int .i64 a1, .int .i64 a2] => some ([], .bool (sp_ref01_within a0 a1 a2))
  | _ => none
def C_ref01_within : Cfg UU := C_geom_ValidRect.add 94 m_ref01_within
theorem s_ref01_within : SumOK C_ref01_within := by
  refine s_geom_ValidRect.addD mixed (fn := Try.f94) (c := bo Try.f94) Try.func94 (by kernel_rfl) (by kernel_rfl) ?_
  intro xs cs r h hc
  unfold m_ref01_within at h
  split at h
  · rename_i a0 a1 a2
    cases h
    obtain ⟨F, hF⟩ := ok_ref01_within a0 a1 a2
    refine ⟨by kernel_rfl, M_ref01_within, F, false, ⟨?_⟩⟩
    rw [exec_ref01_within]
    refine hF _ ?_
    rfl
  · cases h
set_option maxRecDepth 100000 in
theorem entry_ref01_ValidRect (F : Nat) (Post : AVal UU → Prop) (a0_X : Int) (a0_Y : Int) (a0_W : Int) (a0_H : Int) : exec C_ref01_within Try.f88.ntmps M_ref01_ValidRect F 0 (bo Try.f88) (initSt [.agg [.int .i64 a0_X, .int .i64 a0_Y, .int .i64 a0_W, .int .i64 a0_H]]) (AEnds C_ref01_within false Try.f88 Post) = g_ref01_ValidRect_e a0_X a0_Y a0_W a0_H (fun r0 => Post (.bool r0)) := by kernel_rfl
theorem exec_ref01_ValidRect (F : Nat) (Post : AVal UU → Prop) (a0_X : Int) (a0_Y : Int) (a0_W : Int) (a0_H : Int) : exec C_ref01_within Try.f88.ntmps M_ref01_ValidRect F 0 (bo Try.f88) (initSt [.agg [.int .i64 a0_X, .int .i64 a0_Y, .int .i64 a0_W, .int .i64 a0_H]]) (AEnds C_ref01_within false Try.f88 Post) = w_ref01_ValidRect F a0_X a0_Y a0_W a0_H (fun r0 => Post (.bool r0)) := by
  rw [entry_ref01_ValidRect]
  rfl
def m_ref01_ValidRect : Model UU
  | [.agg [.int .i64 a0_X, .int .i64 a0_Y, .int .i64 a0_W, .int .i64 a0_H]] => some ([], .bool (sp_ref01_ValidRect a0_X a0_Y a0_W a0_H))
  | _ => none
def C_ref01_ValidRect : Cfg UU := C_ref01_within.add 88 m_ref01_ValidRect
theorem s_ref01_ValidRect : SumOK C_ref01_ValidRect := by
  refine s_ref01_within.addD mixed (fn := Try.f88) (c := bo Try.f88) Try.func88 (by kernel_rfl) (by kernel_rfl) ?_
  intro xs cs r h hc
  unfold m_ref01_ValidRect at h
  split at h
  · rename_i a0_X a0_Y a0_W a0_H
    cases h
    obtain ⟨F, hF⟩ := ok_ref01_ValidRect a0_X a0_Y a0_W a0_H
    refine ⟨by kernel_rfl, M_ref01_ValidRect, F, false, ⟨?_⟩⟩
    rw [exec_ref01_ValidRect]
    refine hF _ ?_
    rfl
  · cases h
set_option maxRecDepth 100000 in
theorem entry_ref03_lineIn (F : Nat) (Post : AVal UU → Prop) (a0_X1 : Int) (a0_Y1 : Int) (a0_X2 : Int) (a0_Y2 : Int) : exec C_ref01_ValidRect Try.f57.ntmps M_ref03_lineIn F 0 (bo Try.f57) (initSt [.agg [.int .i64 a0_X1, .int .i64 a0_Y1, .int .i64 a0_X2, .int .i64 a0_Y2]]) (AEnds C_ref01_ValidRect false Try.f57 Post) = g_ref03_lineIn_e a0_X1 a0_Y1 a0_X2 a0_Y2 (fun r0 => Post (.bool r0)) := by kernel_rfl
theorem exec_ref03_lineIn (F : Nat) (Post : AVal UU → Prop) (a0_X1 : Int) (a0_Y1 : Int) (a0_X2 : Int) (a0_Y2 : Int) : exec C_ref01_ValidRect Try.f57.ntmps M_ref03_lineIn F 0 (bo Try.f57) (initSt [.agg [.int .i64 a0_X1, .int .i64 a0_Y1, .int .i64 a0_X2, .int .i64 a0_Y2]]) (AEnds C_ref01_ValidRect false Try.f57 Post) = w_ref03_lineIn F a0_X1 a0_Y1 a0_X2 a0_Y2 (fun r0 => Post (.bool r0)) := by
  rw [entry_ref03_lineIn]
  rfl
def m_ref03_lineIn : Model UU
  | [.agg [.int .i64 a0_X1, .int .i64 a0_Y1, .int .i64 a0_X2, .int .i64 a0_Y2]] => some ([], .bool (sp_ref03_lineIn a0_X1 a0_Y1 a0_X2 a0_Y2))
  | _ => none
def C_ref03_lineIn : Cfg UU := C_ref01_ValidRect.add 57 m_ref03_lineIn
theorem s_ref03_lineIn : SumOK C_ref03_lineIn := by
  refine s_ref01_ValidRect.addD mixed (fn := Try.f57) (c := bo Try.f57) Try.func57 (by kernel_rfl) (by kernel_rfl) ?_
  intro xs cs r h hc
  unfold m_ref03_lineIn at h
  split at h
  · rename_i a0_X1 a0_Y1 a0_X2 a0_Y2
    cases h
    obtain ⟨F, hF⟩ := ok_ref03_lineIn a0_X1 a0_Y1 a0_X2 a0_Y2
    refine ⟨by kernel_rfl, M_ref03_lineIn, F, false, ⟨?_⟩⟩
    rw [exec_ref03_lineIn]
    refine hF _ ?_
    rfl
  · cases h
set_option maxRecDepth 100000 in
theorem entry_flat_settled_1 (F : Nat) (Post : AVal UU → Prop) (a0_X : Int) (a0_Y : Int) (a0_W : Int) (a0_H : Int) (b_X : Int) (b_Y : Int) (b_W : Int) (b_H : Int) : exec C_ref03_lineIn Try.f59.ntmps M_flat_settled_1 F 0 (bo Try.f59) (initSt [.agg [.int .i64 a0_X, .int .i64 a0_Y, .int .i64 a0_W, .int .i64 a0_H], .ref [.int .i64 b_X, .int .i64 b_Y, .int .i64 b_W, .int .i64 b_H] 0]) (AEnds C_ref03_lineIn false Try.f59 Post) = g_flat_settled_1_e a0_X a0_Y a0_W a0_H b_X b_Y b_W b_H (fun r0_X r0_Y r0_W r0_H => Post (.agg [.int .i64 r0_X, .int .i64 r0_Y, .int .i64 r0_W, .int .i64 r0_H])) := by kernel_rfl
theorem exec_flat_settled_1 (F : Nat) (Post : AVal UU → Prop) (a0_X : Int) (a0_Y : Int) (a0_W : Int) (a0_H : Int) (b_X : Int) (b_Y : Int) (b_W : Int) (b_H : Int) : exec C_ref03_lineIn Try.f59.ntmps M_flat_settled_1 F 0 (bo Try.f59) (initSt [.agg [.int .i64 a0_X, .int .i64 a0_Y, .int .i64 a0_W, .int .i64 a0_H], .ref [.int .i64 b_X, .int .i64 b_Y, .int .i64 b_W, .int .i64 b_H] 0]) (AEnds C_ref03_lineIn false Try.f59 Post) = w_flat_settled_1 F a0_X a0_Y a0_W a0_H b_X b_Y b_W b_H (fun r0_X r0_Y r0_W r0_H => Post (.agg [.int .i64 r0_X, .int .i64 r0_Y, .int .i64 r0_W, .int .i64 r0_H])) := by
  rw [entry_flat_settled_1]
  rfl
def m_flat_settled_1 : Model UU
  | [.agg [.int .i64 a0_X, .int .i64 a0_Y, .int .i64 a0_W, .int .i64 a0_H], .ref [.int .i64 b_X, .int .i64 b_Y, .int .i64 b_W, .int .i64 b_H] 0] => some ([], .agg [.int .i64 ((sp_flat_settled_1 a0_X a0_Y a0_W a0_H b_X b_Y b_W b_H).1), .int .i64 ((sp_flat_settled_1 a0_X a0_Y a0_W a0_H b_X b_Y b_W b_H).2.1), .int .i64 ((sp_flat_settled_1 a0_X a0_Y a0_W a0_H b_X b_Y b_W b_H).2.2.1), .int .i64 ((sp_flat_settled_1 a0_X a0_Y a0_W a0_H b_X b_Y b_W b_H).2.2.2)])
  | _ => none
def C_flat_settled_1 : Cfg UU := C_ref03_lineIn.add 59 m_flat_settled_1
theorem s_flat_settled_1 : SumOK C_flat_settled_1 := by
  refine s_ref03_lineIn.addD mixed (fn := Try.f59) (c := bo Try.f59) Try.func59 (by kernel_rfl) (by kernel_rfl) ?_
  intro xs cs r h hc
  unfold m_flat_settled_1 at h
  split at h
  · rename_i a0_X a0_Y a0_W a0_H b_X b_Y b_W b_H
    cases h
    obtain ⟨F, hF⟩ := ok_flat_settled_1 a0_X a0_Y a0_W a0_H b_X b_Y b_W b_H
    refine ⟨by kernel_rfl, M_flat_settled_1, F, false, ⟨?_⟩⟩
    rw [exec_flat_settled_1]
    refine hF _ ?_
    rfl
  · cases h
set_option maxRecDepth 100000 in
theorem entry_flat_settled_2 (F : Nat) (Post : AVal UU → Prop) (a0_X1 : Int) (a0_Y1 : Int) (a0_X2 : Int) (a0_Y2 : Int) (b_X : Int) (b_Y : Int) (b_W : Int) (b_H : Int) : exec C_flat_settled_1 Try.f60.ntmps M_flat_settled_2 F 0 (bo Try.f60) (initSt [.agg [.int .i64 a0_X1, .int .i64 a0_Y1, .int .i64 a0_X2, .int .i64 a0_Y2], .ref [.int .i64 b_X, .int .i64 b_Y, .int .i64 b_W, .int .i64 b_H] 0]) (AEnds C_flat_settled_1 false Try.f60 Post) = g_flat_settled_2_e a0_X1 a0_Y1 a0_X2 a0_Y2 b_X b_Y b_W b_H (fun r0_X1 r0_Y1 r0_X2 r0_Y2 => Post (.agg [.int .i64 r0_X1, .int .i64 r0_Y1, .int .i64 r0_X2, .int .i64 r0_Y2])) := by kernel_rfl
theorem exec_flat_settled_2 (F : Nat) (Post : AVal UU → Prop) (a0_X1 : Int) (a0_Y1 : Int) (a0_X2 : Int) (a0_Y2 : Int) (b_X : Int) (b_Y : Int) (b_W : Int) (b_H : Int) : exec C_flat_settled_1 Try.f60.ntmps M_flat_settled_2 F 0 (bo Try.f60) (initSt [.agg [.int .i64 a0_X1, .int .i64 a0_Y1, .int .i64 a0_X2, .int .i64 a0_Y2], .ref [.int .i64 b_X, .int .i64 b_Y, .int .i64 b_W, .int .i64 b_H] 0]) (AEnds C_flat_settled_1 false Try.f60 Post) = w_flat_settled_2 F a0_X1 a0_Y1 a0_X2 a0_Y2 b_X b_Y b_W b_H (fun r0_X1 r0_Y1 r0_X2 r0_Y2 => Post (.agg [.int .i64 r0_X1, .int .i64 r0_Y1, .int .i64 r0_X2, .int .i64 r0_Y2])) := by
  rw [entry_flat_settled_2]
  rfl
def m_flat_settled_2 : Model UU
  | [.agg [.int .i64 a0_X1, .int .i64 a0_Y1, .int .i64 a0_X2, .int .i64 a0_Y2], .ref [.int .i64 b_X, .int .i64 b_Y, .int .i64 b_W, .int .i64 b_H] 0] => some ([], .agg [.int .i64 ((sp_flat_settled_2 a0_X1 a0_Y1 a0_X2 a0_Y2 b_X b_Y b_W b_H).1), .int .i64 ((sp_flat_settled_2 a0_X1 a0_Y1 a0_X2 a0_Y2 b_X b_Y b_W b_H).2.1), .int .i64 ((sp_flat_settled_2 a0_X1 a0_Y1 a0_X2 a0_Y2 b_X b_Y b_W b_H).2.2.1), .int .i64 ((sp_flat_settled_2 a0_X1 a0_Y1 a0_X2 a0_Y2 b_X b_Y b_W b_H).2.2.2)])
  | _ => none
def C_flat_settled_2 : Cfg UU := C_flat_settled_1.add 60 m_flat_settled_2
theorem s_flat_settled_2 : SumOK C_flat_settled_2 := by
  refine s_flat_settled_1.addD mixed (fn := Try.f60) (c := bo Try.f60) Try.func60 (by kernel_rfl) (by kernel_rfl) ?_
  intro xs cs r h hc
  unfold m_flat_settled_2 at h
  split at h
  · rename_i a0_X1 a0_Y1 a0_X2 a0_Y2 b_X b_Y b_W b_H
    cases h
    obtain ⟨F, hF⟩ := ok_flat_settled_2 a0_X1 a0_Y1 a0_X2 a0_Y2 b_X b_Y b_W b_H
    refine ⟨by kernel_rfl, M_flat_settled_2, F, false, ⟨?_⟩⟩
    rw [exec_flat_settled_2]
    refine hF _ ?_
    rfl
  · cases h
set_option maxRecDepth 100000 in
theorem entry_flat_quarter_1 (F : Nat) (Post : AVal UU → Prop) (a0_X : Int) (a0_Y : Int) (a0_W : Int) (a0_H : Int) : exec C_flat_settled_2 Try.f63.ntmps M_flat_quarter_1 F 0 (bo Try.f63) (initSt [.agg [.int .i64 a0_X, .int .i64 a0_Y, .int .i64 a0_W, .int .i64 a0_H]]) (AEnds C_flat_settled_2 false Try.f63 Post) = g_flat_quarter_1_e a0_X a0_Y a0_W a0_H (fun r0_X r0_Y r0_W r0_H => Post (.agg [.int .i64 r0_X, .int .i64 r0_Y, .int .i64 r0_W, .int .i64 r0_H])) := by kernel_rfl
theorem exec_flat_quarter_1 (F : Nat) (Post : AVal UU → Prop) (a0_X : Int) (a0_Y : Int) (a0_W : Int) (a0_H : Int) : exec C_flat_settled_2 Try.f63.ntmps M_flat_quarter_1 F 0 (bo Try.f63) (initSt [.agg [.int .i64 a0_X, .int .i64 a0_Y, .int .i64 a0_W, .int .i64 a0_H]]) (AEnds C_flat_settled_2 false Try.f63 Post) = w_flat_quarter_1 F a0_X a0_Y a0_W a0_H (fun r0_X r0_Y r0_W r0_H => Post (.agg [.int .i64 r0_X, .int .i64 r0_Y, .int .i64 r0_W, .int .i64 r0_H])) := by
  rw [entry_flat_quarter_1]
  rfl
def m_flat_quarter_1 : Model UU
  | [.agg [.int .i64 a0_X, .int .i64 a0_Y, .int .i64 a0_W, .int .i64 a0_H]] => some ([], .agg [.int .i64 ((sp_flat_quarter_1 a0_X a0_Y a0_W a0_H).1), .int .i64 ((sp_flat_quarter_1 a0_X a0_Y a0_W a0_H).2.1), .int .i64 ((sp_flat_quarter_1 a0_X a0_Y a0_W a0_H).2.2.1), .int .i64 ((sp_flat_quarter_1 a0_X a0_Y a0_W a0_H).2.2.2)])
  | _ => none
def C_flat_quarter_1 : Cfg UU := C_flat_settled_2.add 63 m_flat_quarter_1
theorem s_flat_quarter_1 : SumOK C_flat_quarter_1 := by
  refine s_flat_settled_2.addD mixed (fn := Try.f63) (c := bo Try.f63) Try.func63 (by kernel_rfl) (by kernel_rfl) ?_
  intro xs cs r h hc
  unfold m_flat_quarter_1 at h
  split at h
  · rename_i a0_X a0_Y a0_W a0_H
    cases h
    obtain ⟨F, hF⟩ := ok_flat_quarter_1 a0_X a0_Y a0_W a0_H
    refine ⟨by kernel_rfl, M_flat_quarter_1, F, false, ⟨?_⟩⟩
    rw [exec_flat_quarter_1]
    refine hF _ ?_
    rfl
  · cases h
set_option maxRecDepth 100000 in
theorem entry_flat_quarter_2 (F : Nat) (Post : AVal UU → Prop) (a0_X1 : Int) (a0_Y1 : Int) (a0_X2 : Int) (a0_Y2 : Int) : exec C_flat_quarter_1 Try.f64.ntmps M_flat_quarter_2 F 0 (bo Try.f64) (initSt [.agg [.int .i64 a0_X1, .int .i64 a0_Y1, .int .i64 a0_X2, .int .i64 a0_Y2]]) (AEnds C_flat_quarter_1 false Try.f64 Post) = g_flat_quarter_2_e a0_X1 a0_Y1 a0_X2 a0_Y2 (fun r0_X1 r0_Y1 r0_X2 r0_Y2 => Post (.agg [.int .i64 r0_X1, .int .i64 r0_Y1, .int .i64 r0_X2, .int .i64 r0_Y2])) := by kernel_rfl
theorem exec_flat_quarter_2 (F : Nat) (Post : AVal UU → Prop) (a0_X1 : Int) (a0_Y1 : Int) (a0_X2 : Int) (a0_Y2 : Int) : exec C_flat_quarter_1 Try.f64.ntmps M_flat_quarter_2 F 0 (bo Try.f64) (initSt [.agg [.int .i64 a0_X1, .int .i64 a0_Y1, .int .i64 a0_X2, .int .i64 a0_Y2]]) (AEnds C_flat_quarter_1 false Try.f64 Post) = w_flat_quarter_2 F a0_X1 a0_Y1 a0_X2 a0_Y2 (fun r0_X1 r0_Y1 r0_X2 r0_Y2 => Post (.agg [.int .i64 r0_X1, .int .i64 r0_Y1, .int .i64 r0_X2, .int .i64 r0_Y2])) := by
  rw [entry_flat_quarter_2]
  rfl
def m_flat_quarter_2 : Model UU
  | [.agg [.int .i64 a0_X1, .int .i64 a0_Y1, .int .i64 a0_X2, .int .i64 a0_Y2]] => some ([], .agg [.int .i64 ((sp_flat_quarter_2 a0_X1 a0_Y1 a0_X2 a0_Y2).1), .int .i64 ((sp_flat_quarter_2 a0_X1 a0_Y1 a0_X2 a0_Y2).2.1), .int .i64 ((sp_flat_quarter_2 a0_X1 a0_Y1 a0_X2 a0_Y2).2.2.1), .int .i64 ((sp_flat_quarter_2 a0_X1 a0_Y1 a0_X2 a0_Y2).2.2.2)])
  | _ => none
def C_flat_quarter_2 : Cfg UU := C_flat_quarter_1.add 64 m_flat_quarter_2
theorem s_flat_quarter_2 : SumOK C_flat_quarter_2 := by
  refine s_flat_quarter_1.addD mixed (fn := Try.f64) (c := bo Try.f64) Try.func64 (by kernel_rfl) (by kernel_rfl) ?_
  intro xs cs r h hc
  unfold m_flat_quarter_2 at h
  split at h
  · rename_i a0_X1 a0_Y1 a0_X2 a0_Y2
    cases h
    obtain ⟨F, hF⟩ := ok_flat_quarter_2 a0_X1 a0_Y1 a0_X2 a0_Y2
    refine ⟨by kernel_rfl, M_flat_quarter_2, F, false, ⟨?_⟩⟩
    rw [exec_flat_quarter_2]
    refine hF _ ?_
    rfl
  · cases h
end
end Go.Proofs.Ytohecfbnmmgimaa

namespace Go.Proofs.Ytohecfbnmmgimaa
open Go.Vm Go.RowKit
set_option linter.unusedVariables false
noncomputable section
def k_flat_inRange_0 (F : Nat) (Post : AVal UU → Prop) : AEx → ASt UU → Prop := kBlock 0 (kSeq C_flat_quarter_2 Try.f55.ntmps M_flat_inRange F 0 (cS (cS (bo Try.f55))) (AEnds C_flat_quarter_2 false Try.f55 Post))
set_option maxRecDepth 100000 in
theorem step_flat_inRange_0 (F n r : Nat) (K : AEx → ASt UU → Prop) (t2 : Bool) (t14 : Int) (t15 : Int) (l26 : List Int) : iter (exec C_flat_quarter_2 Try.f55.ntmps M_flat_inRange F 0 (cL (cB (cS (cF (cS (bo Try.f55))))))) (M_flat_inRange 0) (n + 1) r (st_flat_inRange_0 t2 t14 t15 l26) K = g_flat_inRange_s0 (fun t2 t14 t15 l26 => iter (exec C_flat_quarter_2 Try.f55.ntmps M_flat_inRange F 0 (cL (cB (cS (cF (cS (bo Try.f55))))))) (M_flat_inRange 0) n (r + 1) (st_flat_inRange_0 t2 t14 t15 l26) K) (fun t2 t14 t15 l26 => K .ret (st_flat_inRange_0 t2 t14 t15 l26)) (fun t2 t14 t15 l26 => K (.exit 0) (st_flat_inRange_0 t2 t14 t15 l26)) t2 t14 t15 l26 := by kernel_rfl
set_option maxRecDepth 100000 in
theorem cont_flat_inRange_0_0 (F : Nat) (Post : AVal UU → Prop) (t2 : Bool) (t14 : Int) (t15 : Int) (l26 : List Int) : k_flat_inRange_0 F Post .ret (st_flat_inRange_0 t2 t14 t15 l26) = g_flat_inRange_c0_0 (fun r0 => Post (.bool r0)) t2 t14 t15 l26 := by kernel_rfl
set_option maxRecDepth 100000 in
theorem cont_flat_inRange_0_1 (F : Nat) (Post : AVal UU → Prop) (t2 : Bool) (t14 : Int) (t15 : Int) (l26 : List Int) : k_flat_inRange_0 F Post (.exit 0) (st_flat_inRange_0 t2 t14 t15 l26) = g_flat_inRange_c0_1 (fun r0 => Post (.bool r0)) t2 t14 t15 l26 := by kernel_rfl
set_option maxRecDepth 100000 in
theorem entry_flat_inRange (F : Nat) (Post : AVal UU → Prop) (a0_X1 : Int) (a0_Y1 : Int) (a0_X2 : Int) (a0_Y2 : Int) : exec C_flat_quarter_2 Try.f55.ntmps M_flat_inRange F 0 (bo Try.f55) (initSt [.agg [.int .i64 a0_X1, .int .i64 a0_Y1, .int .i64 a0_X2, .int .i64 a0_Y2]]) (AEnds C_flat_quarter_2 false Try.f55 Post) = g_flat_inRange_e a0_X1 a0_Y1 a0_X2 a0_Y2 (fun r0 => Post (.bool r0)) (fun t2 t14 t15 l26 => iter (exec C_flat_quarter_2 Try.f55.ntmps M_flat_inRange F 0 (cL (cB (cS (cF (cS (bo Try.f55))))))) (M_flat_inRange 0) F 0 (st_flat_inRange_0 t2 t14 t15 l26) (k_flat_inRange_0 F Post)) := by kernel_rfl
theorem loop_flat_inRange_0 (F : Nat) (K : AEx → ASt UU → Prop) : ∀ (n r : Nat) (t2 : Bool) (t14 : Int) (t15 : Int) (l26 : List Int), iter (exec C_flat_quarter_2 Try.f55.ntmps M_flat_inRange F 0 (cL (cB (cS (cF (cS (bo Try.f55))))))) (M_flat_inRange 0) n r (st_flat_inRange_0 t2 t14 t15 l26) K = w_flat_inRange_0 F  (fun t2 t14 t15 l26 => K .ret (st_flat_inRange_0 t2 t14 t15 l26)) (fun t2 t14 t15 l26 => K (.exit 0) (st_flat_inRange_0 t2 t14 t15 l26)) n t2 t14 t15 l26 := by
  intro n
  induction n with
  | zero => intros; rfl
  | succ n ih =>
    intro r t2 t14 t15 l26
    have e : (fun t2 t14 t15 l26 => iter (exec C_flat_quarter_2 Try.f55.ntmps M_flat_inRange F 0 (cL (cB (cS (cF (cS (bo Try.f55))))))) (M_flat_inRange 0) n (r + 1) (st_flat_inRange_0 t2 t14 t15 l26) K) = w_flat_inRange_0 F  (fun t2 t14 t15 l26 => K .ret (st_flat_inRange_0 t2 t14 t15 l26)) (fun t2 t14 t15 l26 => K (.exit 0) (st_flat_inRange_0 t2 t14 t15 l26)) n := by
      funext t2 t14 t15 l26
      exact ih (r + 1) t2 t14 t15 l26
    rw [step_flat_inRange_0, e]
    rfl
theorem nl_flat_inRange_0 (F : Nat) (Post : AVal UU → Prop) (t2 : Bool) (t14 : Int) (t15 : Int) (l26 : List Int) : iter (exec C_flat_quarter_2 Try.f55.ntmps M_flat_inRange F 0 (cL (cB (cS (cF (cS (bo Try.f55))))))) (M_flat_inRange 0) F 0 (st_flat_inRange_0 t2 t14 t15 l26) (k_flat_inRange_0 F Post) = n_flat_inRange_0 F (fun r0 => Post (.bool r0)) t2 t14 t15 l26 := by
  rw [loop_flat_inRange_0]
  have h0 : (fun t2 t14 t15 l26 => k_flat_inRange_0 F Post .ret (st_flat_inRange_0 t2 t14 t15 l26)) = (fun t2 t14 t15 l26 => g_flat_inRange_c0_0 (fun r0 => Post (.bool r0)) t2 t14 t15 l26) := by
    funext t2 t14 t15 l26
    rw [cont_flat_inRange_0_0]
  have h1 : (fun t2 t14 t15 l26 => k_flat_inRange_0 F Post (.exit 0) (st_flat_inRange_0 t2 t14 t15 l26)) = (fun t2 t14 t15 l26 => g_flat_inRange_c0_1 (fun r0 => Post (.bool r0)) t2 t14 t15 l26) := by
    funext t2 t14 t15 l26
    rw [cont_flat_inRange_0_1]
  rw [h0, h1]
  rfl
theorem exec_flat_inRange (F : Nat) (Post : AVal UU → Prop) (a0_X1 : Int) (a0_Y1 : Int) (a0_X2 : Int) (a0_Y2 : Int) : exec C_flat_quarter_2 Try.f55.ntmps M_flat_inRange F 0 (bo Try.f55) (initSt [.agg [.int .i64 a0_X1, .int .i64 a0_Y1, .int .i64 a0_X2, .int .i64 a0_Y2]]) (AEnds C_flat_quarter_2 false Try.f55 Post) = w_flat_inRange F a0_X1 a0_Y1 a0_X2 a0_Y2 (fun r0 => Post (.bool r0)) := by
  rw [entry_flat_inRange]
  have e0 : (fun t2 t14 t15 l26 => iter (exec C_flat_quarter_2 Try.f55.ntmps M_flat_inRange F 0 (cL (cB (cS (cF (cS (bo Try.f55))))))) (M_flat_inRange 0) F 0 (st_flat_inRange_0 t2 t14 t15 l26) (k_flat_inRange_0 F Post)) = (n_flat_inRange_0 F (fun r0 => Post (.bool r0))) := by
    funext t2 t14 t15 l26
    exact nl_flat_inRange_0 F Post t2 t14 t15 l26
  rw [e0]
  rfl
def m_flat_inRange : Model UU
  | [.agg [.int .i64 a0_X1, .int .i64 a0_Y1, .int .i64 a0_X2, .int .i64 a0_Y2]] => some ([], .bool (sp_flat_inRange a0_X1 a0_Y1 a0_X2 a0_Y2))
  | _ => none
def C_flat_inRange : Cfg UU := C_flat_quarter_2.add 55 m_flat_inRange
theorem s_flat_inRange : SumOK C_flat_inRange := by
  refine s_flat_quarter_2.addD mixed (fn := Try.f55) (c := bo Try.f55) Try.func55 (by kernel_rfl) (by kernel_rfl) ?_
  intro xs cs r h hc
  unfold m_flat_inRange at h
  split at h
  · rename_i a0_X1 a0_Y1 a0_X2 a0_Y2
    cases h
    obtain ⟨F, hF⟩ := ok_flat_inRange a0_X1 a0_Y1 a0_X2 a0_Y2
    refine ⟨by kernel_rfl, M_flat_inRange, F, false, ⟨?_⟩⟩
    rw [exec_flat_inRange]
    refine hF _ ?_
    rfl
  · cases h
def k_ref01_CheckRects_0 (F : Nat) (Post : AVal UU → Prop) : AEx → ASt UU → Prop := kBlock 0 (kSeq C_flat_inRange Try.f80.ntmps M_ref01_CheckRects F 0 (cS (cS (cS (bo Try.f80)))) (AEnds C_flat_inRange false Try.f80 Post))
set_option maxRecDepth 100000 in
theorem step_ref01_CheckRects_0 (F n r : Nat) (K : AEx → ASt UU → Prop) (t0 : List Rect) (t2 : Int) (t3 : Int) : iter (exec C_flat_inRange Try.f80.ntmps M_ref01_CheckRects F 0 (cL (cB (cS (cF (cS (cS (bo Try.f80)))))))) (M_ref01_CheckRects 0) (n + 1) r (st_ref01_CheckRects_0 t0 t2 t3) K = g_ref01_CheckRects_s0 (fun t0 t2 t3 => iter (exec C_flat_inRange Try.f80.ntmps M_ref01_CheckRects F 0 (cL (cB (cS (cF (cS (cS (bo Try.f80)))))))) (M_ref01_CheckRects 0) n (r + 1) (st_ref01_CheckRects_0 t0 t2 t3) K) (fun t0 t2 t3 => K .ret (st_ref01_CheckRects_0 t0 t2 t3)) (fun t0 t2 t3 => K (.exit 0) (st_ref01_CheckRects_0 t0 t2 t3)) t0 t2 t3 := by kernel_rfl
set_option maxRecDepth 100000 in
theorem cont_ref01_CheckRects_0_0 (F : Nat) (Post : AVal UU → Prop) (t0 : List Rect) (t2 : Int) (t3 : Int) : k_ref01_CheckRects_0 F Post .ret (st_ref01_CheckRects_0 t0 t2 t3) = g_ref01_CheckRects_c0_0 (fun r0 => Post (.int .i64 r0)) t0 t2 t3 := by kernel_rfl
set_option maxRecDepth 100000 in
theorem cont_ref01_CheckRects_0_1 (F : Nat) (Post : AVal UU → Prop) (t0 : List Rect) (t2 : Int) (t3 : Int) : k_ref01_CheckRects_0 F Post (.exit 0) (st_ref01_CheckRects_0 t0 t2 t3) = g_ref01_CheckRects_c0_1 (fun r0 => Post (.int .i64 r0)) t0 t2 t3 := by kernel_rfl
set_option maxRecDepth 100000 in
theorem entry_ref01_CheckRects (F : Nat) (Post : AVal UU → Prop) (a0 : List Rect) : exec C_flat_inRange Try.f80.ntmps M_ref01_CheckRects F 0 (bo Try.f80) (initSt [.sl .rect a0]) (AEnds C_flat_inRange false Try.f80 Post) = g_ref01_CheckRects_e a0 (fun r0 => Post (.int .i64 r0)) (fun t0 t2 t3 => iter (exec C_flat_inRange Try.f80.ntmps M_ref01_CheckRects F 0 (cL (cB (cS (cF (cS (cS (bo Try.f80)))))))) (M_ref01_CheckRects 0) F 0 (st_ref01_CheckRects_0 t0 t2 t3) (k_ref01_CheckRects_0 F Post)) := by kernel_rfl
theorem loop_ref01_CheckRects_0 (F : Nat) (K : AEx → ASt UU → Prop) : ∀ (n r : Nat) (t0 : List Rect) (t2 : Int) (t3 : Int), iter (exec C_flat_inRange Try.f80.ntmps M_ref01_CheckRects F 0 (cL (cB (cS (cF (cS (cS (bo Try.f80)))))))) (M_ref01_CheckRects 0) n r (st_ref01_CheckRects_0 t0 t2 t3) K = w_ref01_CheckRects_0 F  (fun t0 t2 t3 => K .ret (st_ref01_CheckRects_0 t0 t2 t3)) (fun t0 t2 t3 => K (.exit 0) (st_ref01_CheckRects_0 t0 t2 t3)) n t0 t2 t3 := by
  intro n
  induction n with
  | zero => intros; rfl
  | succ n ih =>
    intro r t0 t2 t3
    have e : (fun t0 t2 t3 => iter (exec C_flat_inRange Try.f80.ntmps M_ref01_CheckRects F 0 (cL (cB (cS (cF (cS (cS (bo Try.f80)))))))) (M_ref01_CheckRects 0) n (r + 1) (st_ref01_CheckRects_0 t0 t2 t3) K) = w_ref01_CheckRects_0 F  (fun t0 t2 t3 => K .ret (st_ref01_CheckRects_0 t0 t2 t3)) (fun t0 t2 t3 => K (.exit 0) (st_ref01_CheckRects_0 t0 t2 t3)) n := by
      funext t0 t2 t3
      exact ih (r + 1) t0 t2 t3
    rw [step_ref01_CheckRects_0, e]
    rfl
theorem nl_ref01_CheckRects_0 (F : Nat) (Post : AVal UU → Prop) (t0 : List Rect) (t2 : Int) (t3 : Int) : iter (exec C_flat_inRange Try.f80.ntmps M_ref01_CheckRects F 0 (cL (cB (cS (cF (cS (cS (bo Try.f80)))))))) (M_ref01_CheckRects 0) F 0 (st_ref01_CheckRects_0 t0 t2 t3) (k_ref01_CheckRects_0 F Post) = n_ref01_CheckRects_0 F (fun r0 => Post (.int .i64 r0)) t0 t2 t3 := by
  rw [loop_ref01_CheckRects_0]
  have h0 : (fun t0 t2 t3 => k_ref01_CheckRects_0 F Post .ret (st_ref01_CheckRects_0 t0 t2 t3)) = (fun t0 t2 t3 => g_ref01_CheckRects_c0_0 (fun r0 => Post (.int .i64 r0)) t0 t2 t3) := by
    funext t0 t2 t3
    rw [cont_ref01_CheckRects_0_0]
  have h1 : (fun t0 t2 t3 => k_ref01_CheckRects_0 F Post (.exit 0) (st_ref01_CheckRects_0 t0 t2 t3)) = (fun t0 t2 t3 => g_ref01_CheckRects_c0_1 (fun r0 => Post (.int .i64 r0)) t0 t2 t3) := by
    funext t0 t2 t3
    rw [cont_ref01_CheckRects_0_1]
  rw [h0, h1]
  rfl
theorem exec_ref01_CheckRects (F : Nat) (Post : AVal UU → Prop) (a0 : List Rect) : exec C_flat_inRange Try.f80.ntmps M_ref01_CheckRects F 0 (bo Try.f80) (initSt [.sl .rect a0]) (AEnds C_flat_inRange false Try.f80 Post) = w_ref01_CheckRects F a0 (fun r0 => Post (.int .i64 r0)) := by
  rw [entry_ref01_CheckRects]
  have e0 : (fun t0 t2 t3 => iter (exec C_flat_inRange Try.f80.ntmps M_ref01_CheckRects F 0 (cL (cB (cS (cF (cS (cS (bo Try.f80)))))))) (M_ref01_CheckRects 0) F 0 (st_ref01_CheckRects_0 t0 t2 t3) (k_ref01_CheckRects_0 F Post)) = (n_ref01_CheckRects_0 F (fun r0 => Post (.int .i64 r0))) := by
    funext t0 t2 t3
    exact nl_ref01_CheckRects_0 F Post t0 t2 t3
  rw [e0]
  rfl
def m_ref01_CheckRects : Model UU
  | [.sl .rect a0] => some ([], .int .i64 (sp_ref01_CheckRects a0))
  | _ => none
def C_ref01_CheckRects : Cfg UU := C_flat_inRange.add 80 m_ref01_CheckRects
theorem s_ref01_CheckRects : SumOK C_ref01_CheckRects := by
  refine s_flat_inRange.addD mixed (fn := Try.f80) (c := bo Try.f80) Try.func80 (by kernel_rfl) (by kernel_rfl) ?_
  intro xs cs r h hc
  unfold m_ref01_CheckRects at h
  split at h
  · rename_i a0
    cases h
    obtain ⟨F, hF⟩ := ok_ref01_CheckRects a0
    refine ⟨by kernel_rfl, M_ref01_CheckRects, F, false, ⟨?_⟩⟩
    rw [exec_ref01_CheckRects]
    refine hF _ ?_
    rfl
  · cases h
def k_flat_bounds_0 (F : Nat) (Post : AVal UU → Prop) : AEx → ASt UU → Prop := kBlock 0 (kSeq C_ref01_CheckRects Try.f29.ntmps M_flat_bounds F 0 (cS (cS (cS (bo Try.f29)))) (AEnds C_ref01_CheckRects false Try.f29 Post))
set_option maxRecDepth 100000 in
theorem step_flat_bounds_0 (F n r : Nat) (K : AEx → ASt UU → Prop) (t12 : List Rect) (t13 : Int) (t14 : Int) (c2_0 : Int) (c2_1 : Int) (c2_2 : Int) (c2_3 : Int) (c3_0 : Int) (c3_1 : Int) (c3_2 : Int) (c3_3 : Int) : iter (exec C_ref01_CheckRects Try.f29.ntmps M_flat_bounds F 0 (cL (cB (cS (cF (cS (cS (bo Try.f29)))))))) (M_flat_bounds 0) (n + 1) r (st_flat_bounds_0 t12 t13 t14 c2_0 c2_1 c2_2 c2_3 c3_0 c3_1 c3_2 c3_3) K = g_flat_bounds_s0 (fun t12 t13 t14 c2_0 c2_1 c2_2 c2_3 c3_0 c3_1 c3_2 c3_3 => iter (exec C_ref01_CheckRects Try.f29.ntmps M_flat_bounds F 0 (cL (cB (cS (cF (cS (cS (bo Try.f29)))))))) (M_flat_bounds 0) n (r + 1) (st_flat_bounds_0 t12 t13 t14 c2_0 c2_1 c2_2 c2_3 c3_0 c3_1 c3_2 c3_3) K) (fun t12 t13 t14 c2_0 c2_1 c2_2 c2_3 c3_0 c3_1 c3_2 c3_3 => K (.exit 0) (st_flat_bounds_0 t12 t13 t14 c2_0 c2_1 c2_2 c2_3 c3_0 c3_1 c3_2 c3_3)) t12 t13 t14 c2_0 c2_1 c2_2 c2_3 c3_0 c3_1 c3_2 c3_3 := by kernel_rfl
set_option maxRecDepth 100000 in
theorem cont_flat_bounds_0_0 (F : Nat) (Post : AVal UU → Prop) (t12 : List Rect) (t13 : Int) (t14 : Int) (c2_0 : Int) (c2_1 : Int) (c2_2 : Int) (c2_3 : Int) (c3_0 : Int) (c3_1 : Int) (c3_2 : Int) (c3_3 : Int) : k_flat_bounds_0 F Post (.exit 0) (st_flat_bounds_0 t12 t13 t14 c2_0 c2_1 c2_2 c2_3 c3_0 c3_1 c3_2 c3_3) = g_flat_bounds_c0_0 (fun r0_X r0_Y r0_W r0_H => Post (.agg [.int .i64 r0_X, .int .i64 r0_Y, .int .i64 r0_W, .int .i64 r0_H])) t12 t13 t14 c2_0 c2_1 c2_2 c2_3 c3_0 c3_1 c3_2 c3_3 := by kernel_rfl
set_option maxRecDepth 100000 in
theorem entry_flat_bounds (F : Nat) (Post : AVal UU → Prop) (a0 : List Rect) : exec C_ref01_CheckRects Try.f29.ntmps M_flat_bounds F 0 (bo Try.f29) (initSt [.sl .rect a0]) (AEnds C_ref01_CheckRects false Try.f29 Post) = g_flat_bounds_e a0 (fun r0_X r0_Y r0_W r0_H => Post (.agg [.int .i64 r0_X, .int .i64 r0_Y, .int .i64 r0_W, .int .i64 r0_H])) (fun t12 t13 t14 c2_0 c2_1 c2_2 c2_3 c3_0 c3_1 c3_2 c3_3 => iter (exec C_ref01_CheckRects Try.f29.ntmps M_flat_bounds F 0 (cL (cB (cS (cF (cS (cS (bo Try.f29)))))))) (M_flat_bounds 0) F 0 (st_flat_bounds_0 t12 t13 t14 c2_0 c2_1 c2_2 c2_3 c3_0 c3_1 c3_2 c3_3) (k_flat_bounds_0 F Post)) := by kernel_rfl
theorem loop_flat_bounds_0 (F : Nat) (K : AEx → ASt UU → Prop) : ∀ (n r : Nat) (t12 : List Rect) (t13 : Int) (t14 : Int) (c2_0 : Int) (c2_1 : Int) (c2_2 : Int) (c2_3 : Int) (c3_0 : Int) (c3_1 : Int) (c3_2 : Int) (c3_3 : Int), iter (exec C_ref01_CheckRects Try.f29.ntmps M_flat_bounds F 0 (cL (cB (cS (cF (cS (cS (bo Try.f29)))))))) (M_flat_bounds 0) n r (st_flat_bounds_0 t12 t13 t14 c2_0 c2_1 c2_2 c2_3 c3_0 c3_1 c3_2 c3_3) K = w_flat_bounds_0 F  (fun t12 t13 t14 c2_0 c2_1 c2_2 c2_3 c3_0 c3_1 c3_2 c3_3 => K (.exit 0) (st_flat_bounds_0 t12 t13 t14 c2_0 c2_1 c2_2 c2_3 c3_0 c3_1 c3_2 c3_3)) n t12 t13 t14 c2_0 c2_1 c2_2 c2_3 c3_0 c3_1 c3_2 c3_3 := by
  intro n
  induction n with
  | zero => intros; rfl
  | succ n ih =>
    intro r t12 t13 t14 c2_0 c2_1 c2_2 c2_3 c3_0 c3_1 c3_2 c3_3
    have e : (fun t12 t13 t14 c2_0 c2_1 c2_2 c2_3 c3_0 c3_1 c3_2 c3_3 => iter (exec C_ref01_CheckRects Try.f29.ntmps M_flat_bounds F 0 (cL (cB (cS (cF (cS (cS (bo Try.f29)))))))) (M_flat_bounds 0) n (r + 1) (st_flat_bounds_0 t12 t13 t14 c2_0 c2_1 c2_2 c2_3 c3_0 c3_1 c3_2 c3_3) K) = w_flat_bounds_0 F  (fun t12 t13 t14 c2_0 c2_1 c2_2 c2_3 c3_0 c3_1 c3_2 c3_3 => K (.exit 0) (st_flat_bounds_0 t12 t13 t14 c2_0 c2_1 c2_2 c2_3 c3_0 c3_1 c3_2 c3_3)) n := by
      funext t12 t13 t14 c2_0 c2_1 c2_2 c2_3 c3_0 c3_1 c3_2 c3_3
      exact ih (r + 1) t12 t13 t14 c2_0 c2_1 c2_2 c2_3 c3_0 c3_1 c3_2 c3_3
    rw [step_flat_bounds_0, e]
    rfl
theorem nl_flat_bounds_0 (F : Nat) (Post : AVal UU → Prop) (t12 : List Rect) (t13 : Int) (t14 : Int) (c2_0 : Int) (c2_1 : Int) (c2_2 : Int) (c2_3 : Int) (c3_0 : Int) (c3_1 : Int) (c3_2 : Int) (c3_3 : Int) : iter (exec C_ref01_CheckRects Try.f29.ntmps M_flat_bounds F 0 (cL (cB (cS (cF (cS (cS (bo Try.f29)))))))) (M_flat_bounds 0) F 0 (st_flat_bounds_0 t12 t13 t14 c2_0 c2_1 c2_2 c2_3 c3_0 c3_1 c3_2 c3_3) (k_flat_bounds_0 F Post) = n_flat_bounds_0 F (fun r0_X r0_Y r0_W r0_H => Post (.agg [.int .i64 r0_X, .int .i64 r0_Y, .int .i64 r0_W, .int .i64 r0_H])) t12 t13 t14 c2_0 c2_1 c2_2 c2_3 c3_0 c3_1 c3_2 c3_3 := by
  rw [loop_flat_bounds_0]
  have h0 : (fun t12 t13 t14 c2_0 c2_1 c2_2 c2_3 c3_0 c3_1 c3_2 c3_3 => k_flat_bounds_0 F Post (.exit 0) (st_flat_bounds_0 t12 t13 t14 c2_0 c2_1 c2_2 c2_3 c3_0 c3_1 c3_2 c3_3)) = (fun t12 t13 t14 c2_0 c2_1 c2_2 c2_3 c3_0 c3_1 c3_2 c3_3 => g_flat_bounds_c0_0 (fun r0_X r0_Y r0_W r0_H => Post (.agg [.int .i64 r0_X, .int .i64 r0_Y, .int .i64 r0_W, .int .i64 r0_H])) t12 t13 t14 c2_0 c2_1 c2_2 c2_3 c3_0 c3_1 c3_2 c3_3) := by
    funext t12 t13 t14 c2_0 c2_1 c2_2 c2_3 c3_0 c3_1 c3_2 c3_3
    rw [cont_flat_bounds_0_0]
  rw [h0]
  rfl
theorem exec_flat_bounds (F : Nat) (Post : AVal UU → Prop) (a0 : List Rect) : exec C_ref01_CheckRects Try.f29.ntmps M_flat_bounds F 0 (bo Try.f29) (initSt [.sl .rect a0]) (AEnds C_ref01_CheckRects false Try.f29 Post) = w_flat_bounds F a0 (fun r0_X r0_Y r0_W r0_H => Post (.agg [.int .i64 r0_X, .int .i64 r0_Y, .int .i64 r0_W, .int .i64 r0_H])) := by
  rw [entry_flat_bounds]
  have e0 : (fun t12 t13 t14 c2_0 c2_1 c2_2 c2_3 c3_0 c3_1 c3_2 c3_3 => iter (exec C_ref01_CheckRects Try.f29.ntmps M_flat_bounds F 0 (cL (cB (cS (cF (cS (cS (bo Try.f29)))))))) (M_flat_bounds 0) F 0 (st_flat_bounds_0 t12 t13 t14 c2_0 c2_1 c2_2 c2_3 c3_0 c3_1 c3_2 c3_3) (k_flat_bounds_0 F Post)) = (n_flat_bounds_0 F (fun r0_X r0_Y r0_W r0_H => Post (.agg [.int .i64 r0_X, .int .i64 r0_Y, .int .i64 r0_W, .int .i64 r0_H]))) := by
    funext t12 t13 t14 c2_0 c2_1 c2_2 c2_3 c3_0 c3_1 c3_2 c3_3
    exact nl_flat_bounds_0 F Post t12 t13 t14 c2_0 c2_1 c2_2 c2_3 c3_0 c3_1 c3_2 c3_3
  rw [e0]
  rfl
def m_flat_bounds : Model UU
  | [.sl .rect a0] => some ([pre_flat_bounds a0], .agg [.int .i64 ((sp_flat_bounds a0).1), .int .i64 ((sp_flat_bounds a0).2.1), .int .i64 ((sp_flat_bounds a0).2.2.1), .int .i64 ((sp_flat_bounds a0).2.2.2)])
  | _ => none
def C_flat_bounds : Cfg UU := C_ref01_CheckRects.add 29 m_flat_bounds
theorem s_flat_bounds : SumOK C_flat_bounds := by
  refine s_ref01_CheckRects.addD mixed (fn := Try.f29) (c := bo Try.f29) Try.func29 (by kernel_rfl) (by kernel_rfl) ?_
  intro xs cs r h hc
  unfold m_flat_bounds at h
  split at h
  · rename_i a0
    cases h
    obtain ⟨F, hF⟩ := ok_flat_bounds a0 hc
    refine ⟨by kernel_rfl, M_flat_bounds, F, false, ⟨?_⟩⟩
    rw [exec_flat_bounds]
    refine hF _ ?_
    rfl
  · cases h
def k_ref03_bounds_0 (F : Nat) (Post : AVal UU → Prop) : AEx → ASt UU → Prop := kBlock 0 (kSeq C_flat_bounds Try.f31.ntmps M_ref03_bounds F 0 (cS (cS (cS (bo Try.f31)))) (AEnds C_flat_bounds false Try.f31 Post))
set_option maxRecDepth 100000 in
theorem step_ref03_bounds_0 (F n r : Nat) (K : AEx → ASt UU → Prop) (t0 : List Rect) (t3 : Int) (t4 : Int) (t5 : Int) (t6 : Int) (t7 : Int) (c2_0 : Int) (c2_1 : Int) (c2_2 : Int) (c2_3 : Int) : iter (exec C_flat_bounds Try.f31.ntmps M_ref03_bounds F 0 (cL (cB (cS (cF (cS (cS (bo Try.f31)))))))) (M_ref03_bounds 0) (n + 1) r (st_ref03_bounds_0 t0 t3 t4 t5 t6 t7 c2_0 c2_1 c2_2 c2_3) K = g_ref03_bounds_s0 (fun t0 t3 t4 t5 t6 t7 c2_0 c2_1 c2_2 c2_3 => iter (exec C_flat_bounds Try.f31.ntmps M_ref03_bounds F 0 (cL (cB (cS (cF (cS (cS (bo Try.f31)))))))) (M_ref03_bounds 0) n (r + 1) (st_ref03_bounds_0 t0 t3 t4 t5 t6 t7 c2_0 c2_1 c2_2 c2_3) K) (fun t0 t3 t4 t5 t6 t7 c2_0 c2_1 c2_2 c2_3 => K (.exit 0) (st_ref03_bounds_0 t0 t3 t4 t5 t6 t7 c2_0 c2_1 c2_2 c2_3)) t0 t3 t4 t5 t6 t7 c2_0 c2_1 c2_2 c2_3 := by kernel_rfl
set_option maxRecDepth 100000 in
theorem cont_ref03_bounds_0_0 (F : Nat) (Post : AVal UU → Prop) (t0 : List Rect) (t3 : Int) (t4 : Int) (t5 : Int) (t6 : Int) (t7 : Int) (c2_0 : Int) (c2_1 : Int) (c2_2 : Int) (c2_3 : Int) : k_ref03_bounds_0 F Post (.exit 0) (st_ref03_bounds_0 t0 t3 t4 t5 t6 t7 c2_0 c2_1 c2_2 c2_3) = g_ref03_bounds_c0_0 (fun r0_X r0_Y r0_W r0_H => Post (.agg [.int .i64 r0_X, .int .i64 r0_Y, .int .i64 r0_W, .int .i64 r0_H])) t0 t3 t4 t5 t6 t7 c2_0 c2_1 c2_2 c2_3 := by kernel_rfl
set_option maxRecDepth 100000 in
theorem entry_ref03_bounds (F : Nat) (Post : AVal UU → Prop) (a0 : List Rect) : exec C_flat_bounds Try.f31.ntmps M_ref03_bounds F 0 (bo Try.f31) (initSt [.sl .rect a0]) (AEnds C_flat_bounds false Try.f31 Post) = g_ref03_bounds_e a0 (fun r0_X r0_Y r0_W r0_H => Post (.agg [.int .i64 r0_X, .int .i64 r0_Y, .int .i64 r0_W, .int .i64 r0_H])) (fun t0 t3 t4 t5 t6 t7 c2_0 c2_1 c2_2 c2_3 => iter (exec C_flat_bounds Try.f31.ntmps M_ref03_bounds F 0 (cL (cB (cS (cF (cS (cS (bo Try.f31)))))))) (M_ref03_bounds 0) F 0 (st_ref03_bounds_0 t0 t3 t4 t5 t6 t7 c2_0 c2_1 c2_2 c2_3) (k_ref03_bounds_0 F Post)) := by kernel_rfl
theorem loop_ref03_bounds_0 (F : Nat) (K : AEx → ASt UU → Prop) : ∀ (n r : Nat) (t0 : List Rect) (t3 : Int) (t4 : Int) (t5 : Int) (t6 : Int) (t7 : Int) (c2_0 : Int) (c2_1 : Int) (c2_2 : Int) (c2_3 : Int), iter (exec C_flat_bounds Try.f31.ntmps M_ref03_bounds F 0 (cL (cB (cS (cF (cS (cS (bo Try.f31)))))))) (M_ref03_bounds 0) n r (st_ref03_bounds_0 t0 t3 t4 t5 t6 t7 c2_0 c2_1 c2_2 c2_3) K = w_ref03_bounds_0 F  (fun t0 t3 t4 t5 t6 t7 c2_0 c2_1 c2_2 c2_3 => K (.exit 0) (st_ref03_bounds_0 t0 t3 t4 t5 t6 t7 c2_0 c2_1 c2_2 c2_3)) n t0 t3 t4 t5 t6 t7 c2_0 c2_1 c2_2 c2_3 := by
  intro n
  induction n with
  | zero => intros; rfl
  | succ n ih =>
    intro r t0 t3 t4 t5 t6 t7 c2_0 c2_1 c2_2 c2_3
    have e : (fun t0 t3 t4 t5 t6 t7 c2_0 c2_1 c2_2 c2_3 => iter (exec C_flat_bounds Try.f31.ntmps M_ref03_bounds F 0 (cL (cB (cS (cF (cS (cS (bo Try.f31)))))))) (M_ref03_bounds 0) n (r + 1) (st_ref03_bounds_0 t0 t3 t4 t5 t6 t7 c2_0 c2_1 c2_2 c2_3) K) = w_ref03_bounds_0 F  (fun t0 t3 t4 t5 t6 t7 c2_0 c2_1 c2_2 c2_3 => K (.exit 0) (st_ref03_bounds_0 t0 t3 t4 t5 t6 t7 c2_0 c2_1 c2_2 c2_3)) n := by
      funext t0 t3 t4 t5 t6 t7 c2_0 c2_1 c2_2 c2_3
      exact ih (r + 1) t0 t3 t4 t5 t6 t7 c2_0 c2_1 c2_2 c2_3
    rw [step_ref03_bounds_0, e]
    rfl
theorem nl_ref03_bounds_0 (F : Nat) (Post : AVal UU → Prop) (t0 : List Rect) (t3 : Int) (t4 : Int) (t5 : Int) (t6 : Int) (t7 : Int) (c2_0 : Int) (c2_1 : Int) (c2_2 : Int) (c2_3 : Int) : iter (exec C_flat_bounds Try.f31.ntmps M_ref03_bounds F 0 (cL (cB (cS (cF (cS (cS (bo Try.f31)))))))) (M_ref03_bounds 0) F 0 (st_ref03_bounds_0 t0 t3 t4 t5 t6 t7 c2_0 c2_1 c2_2 c2_3) (k_ref03_bounds_0 F Post) = n_ref03_bounds_0 F (fun r0_X r0_Y r0_W r0_H => Post (.agg [.int .i64 r0_X, .int .i64 r0_Y, .int .i64 r0_W, .int .i64 r0_H])) t0 t3 t4 t5 t6 t7 c2_0 c2_1 c2_2 c2_3 := by
  rw [loop_ref03_bounds_0]
  have h0 : (fun t0 t3 t4 t5 t6 t7 c2_0 c2_1 c2_2 c2_3 => k_ref03_bounds_0 F Post (.exit 0) (st_ref03_bounds_0 t0 t3 t4 t5 t6 t7 c2_0 c2_1 c2_2 c2_3)) = (fun t0 t3 t4 t5 t6 t7 c2_0 c2_1 c2_2 c2_3 => g_ref03_bounds_c0_0 (fun r0_X r0_Y r0_W r0_H => Post (.agg [.int .i64 r0_X, .int .i64 r0_Y, .int .i64 r0_W, .int .i64 r0_H])) t0 t3 t4 t5 t6 t7 c2_0 c2_1 c2_2 c2_3) := by
    funext t0 t3 t4 t5 t6 t7 c2_0 c2_1 c2_2 c2_3
    rw [cont_ref03_bounds_0_0]
  rw [h0]
  rfl
theorem exec_ref03_bounds (F : Nat) (Post : AVal UU → Prop) (a0 : List Rect) : exec C_flat_bounds Try.f31.ntmps M_ref03_bounds F 0 (bo Try.f31) (initSt [.sl .rect a0]) (AEnds C_flat_bounds false Try.f31 Post) = w_ref03_bounds F a0 (fun r0_X r0_Y r0_W r0_H => Post (.agg [.int .i64 r0_X, .int .i64 r0_Y, .int .i64 r0_W, .int .i64 r0_H])) := by
  rw [entry_ref03_bounds]
  have e0 : (fun t0 t3 t4 t5 t6 t7 c2_0 c2_1 c2_2 c2_3 => iter (exec C_flat_bounds Try.f31.ntmps M_ref03_bounds F 0 (cL (cB (cS (cF (cS (cS (bo Try.f31)))))))) (M_ref03_bounds 0) F 0 (st_ref03_bounds_0 t0 t3 t4 t5 t6 t7 c2_0 c2_1 c2_2 c2_3) (k_ref03_bounds_0 F Post)) = (n_ref03_bounds_0 F (fun r0_X r0_Y r0_W r0_H => Post (.agg [.int .i64 r0_X, .int .i64 r0_Y, .int .i64 r0_W, .int .i64 r0_H]))) := by
    funext t0 t3 t4 t5 t6 t7 c2_0 c2_1 c2_2 c2_3
    exact nl_ref03_bounds_0 F Post t0 t3 t4 t5 t6 t7 c2_0 c2_1 c2_2 c2_3
  rw [e0]
  rfl
def m_ref03_bounds : Model UU
  | [.sl .rect a0] => some ([pre_ref03_bounds a0], .agg [.int .i64 ((sp_ref03_bounds a0).1), .int .i64 ((sp_ref03_bounds a0).2.1), .int .i64 ((sp_ref03_bounds a0).2.2.1), .int .i64 ((sp_ref03_bounds a0).2.2.2)])
  | _ => none
def C_ref03_bounds : Cfg UU := C_flat_bounds.add 31 m_ref03_bounds
theorem s_ref03_bounds : SumOK C_ref03_bounds := by
  refine s_flat_bounds.addD mixed (fn := Try.f31) (c := bo Try.f31) Try.func31 (by kernel_rfl) (by kernel_rfl) ?_
  intro xs cs r h hc
  unfold m_ref03_bounds at h
  split at h
  · rename_i a0
    cases h
    obtain ⟨F, hF⟩ := ok_ref03_bounds a0 hc
    refine ⟨by kernel_rfl, M_ref03_bounds, F, false, ⟨?_⟩⟩
    rw [exec_ref03_bounds]
    refine hF _ ?_
    rfl
  · cases h
def k_ref01_CopyRects_0 (F : Nat) (Post : AVal UU → Prop) : AEx → ASt UU → Prop := kBlock 0 (kSeq C_ref03_bounds Try.f27.ntmps M_ref01_CopyRects F 0 (cS (cS (cS (bo Try.f27)))) (AEnds C_ref03_bounds true Try.f27 Post))
set_option maxRecDepth 100000 in
theorem step_ref01_CopyRects_0 (F n r : Nat) (K : AEx → ASt UU → Prop) (t0 : List Rect) (t4 : Int) (l19 : List Rect) : iter (exec C_ref03_bounds Try.f27.ntmps M_ref01_CopyRects F 0 (cL (cB (cS (cF (cS (cS (bo Try.f27)))))))) (M_ref01_CopyRects 0) (n + 1) r (st_ref01_CopyRects_0 t0 t4 l19) K = g_ref01_CopyRects_s0 (fun t0 t4 l19 => iter (exec C_ref03_bounds Try.f27.ntmps M_ref01_CopyRects F 0 (cL (cB (cS (cF (cS (cS (bo Try.f27)))))))) (M_ref01_CopyRects 0) n (r + 1) (st_ref01_CopyRects_0 t0 t4 l19) K) (fun t0 t4 l19 => K (.exit 0) (st_ref01_CopyRects_0 t0 t4 l19)) t0 t4 l19 := by kernel_rfl
set_option maxRecDepth 100000 in
theorem cont_ref01_CopyRects_0_0 (F : Nat) (Post : AVal UU → Prop) (t0 : List Rect) (t4 : Int) (l19 : List Rect) : k_ref01_CopyRects_0 F Post (.exit 0) (st_ref01_CopyRects_0 t0 t4 l19) = g_ref01_CopyRects_c0_0 (fun r0 => Post (.new .rect r0)) t0 t4 l19 := by kernel_rfl
set_option maxRecDepth 100000 in
theorem entry_ref01_CopyRects (F : Nat) (Post : AVal UU → Prop) (a0 : List Rect) : exec C_ref03_bounds Try.f27.ntmps M_ref01_CopyRects F 0 (bo Try.f27) (initSt [.sl .rect a0]) (AEnds C_ref03_bounds true Try.f27 Post) = g_ref01_CopyRects_e a0 (fun r0 => Post (.new .rect r0)) (fun t0 t4 l19 => iter (exec C_ref03_bounds Try.f27.ntmps M_ref01_CopyRects F 0 (cL (cB (cS (cF (cS (cS (bo Try.f27)))))))) (M_ref01_CopyRects 0) F 0 (st_ref01_CopyRects_0 t0 t4 l19) (k_ref01_CopyRects_0 F Post)) := by kernel_rfl
theorem loop_ref01_CopyRects_0 (F : Nat) (K : AEx → ASt UU → Prop) : ∀ (n r : Nat) (t0 : List Rect) (t4 : Int) (l19 : List Rect), iter (exec C_ref03_bounds Try.f27.ntmps M_ref01_CopyRects F 0 (cL (cB (cS (cF (cS (cS (bo Try.f27)))))))) (M_ref01_CopyRects 0) n r (st_ref01_CopyRects_0 t0 t4 l19) K = w_ref01_CopyRects_0 F  (fun t0 t4 l19 => K (.exit 0) (st_ref01_CopyRects_0 t0 t4 l19)) n t0 t4 l19 := by
  intro n
  induction n with
  | zero => intros; rfl
  | succ n ih =>
    intro r t0 t4 l19
    have e : (fun t0 t4 l19 => iter (exec C_ref03_bounds Try.f27.ntmps M_ref01_CopyRects F 0 (cL (cB (cS (cF (cS (cS (bo Try.f27)))))))) (M_ref01_CopyRects 0) n (r + 1) (st_ref01_CopyRects_0 t0 t4 l19) K) = w_ref01_CopyRects_0 F  (fun t0 t4 l19 => K (.exit 0) (st_ref01_CopyRects_0 t0 t4 l19)) n := by
      funext t0 t4 l19
      exact ih (r + 1) t0 t4 l19
    rw [step_ref01_CopyRects_0, e]
    rfl
theorem nl_ref01_CopyRects_0 (F : Nat) (Post : AVal UU → Prop) (t0 : List Rect) (t4 : Int) (l19 : List Rect) : iter (exec C_ref03_bounds Try.f27.ntmps M_ref01_CopyRects F 0 (cL (cB (cS (cF (cS (cS (bo Try.f27)))))))) (M_ref01_CopyRects 0) F 0 (st_ref01_CopyRects_0 t0 t4 l19) (k_ref01_CopyRects_0 F Post) = n_ref01_CopyRects_0 F (fun r0 => Post (.new .rect r0)) t0 t4 l19 := by
  rw [loop_ref01_CopyRects_0]
  have h0 : (fun t0 t4 l19 => k_ref01_CopyRects_0 F Post (.exit 0) (st_ref01_CopyRects_0 t0 t4 l19)) = (fun t0 t4 l19 => g_ref01_CopyRects_c0_0 (fun r0 => Post (.new .rect r0)) t0 t4 l19) := by
    funext t0 t4 l19
    rw [cont_ref01_CopyRects_0_0]
  rw [h0]
  rfl
theorem exec_ref01_CopyRects (F : Nat) (Post : AVal UU → Prop) (a0 : List Rect) : exec C_ref03_bounds Try.f27.ntmps M_ref01_CopyRects F 0 (bo Try.f27) (initSt [.sl .rect a0]) (AEnds C_ref03_bounds true Try.f27 Post) = w_ref01_CopyRects F a0 (fun r0 => Post (.new .rect r0)) := by
  rw [entry_ref01_CopyRects]
  have e0 : (fun t0 t4 l19 => iter (exec C_ref03_bounds Try.f27.ntmps M_ref01_CopyRects F 0 (cL (cB (cS (cF (cS (cS (bo Try.f27)))))))) (M_ref01_CopyRects 0) F 0 (st_ref01_CopyRects_0 t0 t4 l19) (k_ref01_CopyRects_0 F Post)) = (n_ref01_CopyRects_0 F (fun r0 => Post (.new .rect r0))) := by
    funext t0 t4 l19
    exact nl_ref01_CopyRects_0 F Post t0 t4 l19
  rw [e0]
  rfl
def m_ref01_CopyRects : Model UU
  | [.sl .rect a0] => some ([pre_ref01_CopyRects a0], .new .rect (sp_ref01_CopyRects a0))
  | _ => none
def C_ref01_CopyRects : Cfg UU := C_ref03_bounds.add 27 m_ref01_CopyRects
theorem s_ref01_CopyRects : SumOK C_ref01_CopyRects := by
  refine s_ref03_bounds.addD mixed (fn := Try.f27) (c := bo Try.f27) Try.func27 (by kernel_rfl) (by kernel_rfl) ?_
  intro xs cs r h hc
  unfold m_ref01_CopyRects at h
  split at h
  · rename_i a0
    cases h
    obtain ⟨F, hF⟩ := ok_ref01_CopyRects a0 hc
    refine ⟨by kernel_rfl, M_ref01_CopyRects, F, true, ⟨?_⟩⟩
    rw [exec_ref01_CopyRects]
    refine hF _ ?_
    rfl
  · cases h
def k_ref01_SameRects_0 (F : Nat) (Post : AVal UU → Prop) : AEx → ASt UU → Prop := kBlock 0 (kSeq C_ref01_CopyRects Try.f37.ntmps M_ref01_SameRects F 0 (cS (cS (cS (bo Try.f37)))) (AEnds C_ref01_CopyRects false Try.f37 Post))
set_option maxRecDepth 100000 in
theorem step_ref01_SameRects_0 (F n r : Nat) (K : AEx → ASt UU → Prop) (t0 : List Rect) (t1 : List Rect) (t4 : Bool) (t5 : Int) : iter (exec C_ref01_CopyRects Try.f37.ntmps M_ref01_SameRects F 0 (cL (cB (cS (cF (cS (cS (bo Try.f37)))))))) (M_ref01_SameRects 0) (n + 1) r (st_ref01_SameRects_0 t0 t1 t4 t5) K = g_ref01_SameRects_s0 (fun t0 t1 t4 t5 => iter (exec C_ref01_CopyRects Try.f37.ntmps M_ref01_SameRects F 0 (cL (cB (cS (cF (cS (cS (bo Try.f37)))))))) (M_ref01_SameRects 0) n (r + 1) (st_ref01_SameRects_0 t0 t1 t4 t5) K) (fun t0 t1 t4 t5 => K .ret (st_ref01_SameRects_0 t0 t1 t4 t5)) (fun t0 t1 t4 t5 => K (.exit 0) (st_ref01_SameRects_0 t0 t1 t4 t5)) t0 t1 t4 t5 := by kernel_rfl
set_option maxRecDepth 100000 in
theorem cont_ref01_SameRects_0_0 (F : Nat) (Post : AVal UU → Prop) (t0 : List Rect) (t1 : List Rect) (t4 : Bool) (t5 : Int) : k_ref01_SameRects_0 F Post .ret (st_ref01_SameRects_0 t0 t1 t4 t5) = g_ref01_SameRects_c0_0 (fun r0 => Post (.bool r0)) t0 t1 t4 t5 := by kernel_rfl
set_option maxRecDepth 100000 in
theorem cont_ref01_SameRects_0_1 (F : Nat) (Post : AVal UU → Prop) (t0 : List Rect) (t1 : List Rect) (t4 : Bool) (t5 : Int) : k_ref01_SameRects_0 F Post (.exit 0) (st_ref01_SameRects_0 t0 t1 t4 t5) = g_ref01_SameRects_c0_1 (fun r0 => Post (.bool r0)) t0 t1 t4 t5 := by kernel_rfl
set_option maxRecDepth 100000 in
theorem entry_ref01_SameRects (F : Nat) (Post : AVal UU → Prop) (a0 : List Rect) (a1 : List Rect) : exec C_ref01_CopyRects Try.f37.ntmps M_ref01_SameRects F 0 (bo Try.f37) (initSt [.sl .rect a0, .sl .rect a1]) (AEnds C_ref01_CopyRects false Try.f37 Post) = g_ref01_SameRects_e a0 a1 (fun r0 => Post (.bool r0)) (fun t0 t1 t4 t5 => iter (exec C_ref01_CopyRects Try.f37.ntmps M_ref01_SameRects F 0 (cL (cB (cS (cF (cS (cS (bo Try.f37)))))))) (M_ref01_SameRects 0) F 0 (st_ref01_SameRects_0 t0 t1 t4 t5) (k_ref01_SameRects_0 F Post)) := by kernel_rfl
theorem loop_ref01_SameRects_0 (F : Nat) (K : AEx → ASt UU → Prop) : ∀ (n r : Nat) (t0 : List Rect) (t1 : List Rect) (t4 : Bool) (t5 : Int), iter (exec C_ref01_CopyRects Try.f37.ntmps M_ref01_SameRects F 0 (cL (cB (cS (cF (cS (cS (bo Try.f37)))))))) (M_ref01_SameRects 0) n r (st_ref01_SameRects_0 t0 t1 t4 t5) K = w_ref01_SameRects_0 F  (fun t0 t1 t4 t5 => K .ret (st_ref01_SameRects_0 t0 t1 t4 t5)) (fun t0 t1 t4 t5 => K (.exit 0) (st_ref01_SameRects_0 t0 t1 t4 t5)) n t0 t1 t4 t5 := by
  intro n
  induction n with
  | zero => intros; rfl
  | succ n ih =>
    intro r t0 t1 t4 t5
    have e : (fun t0 t1 t4 t5 => iter (exec C_ref01_CopyRects Try.f37.ntmps M_ref01_SameRects F 0 (cL (cB (cS (cF (cS (cS (bo Try.f37)))))))) (M_ref01_SameRects 0) n (r + 1) (st_ref01_SameRects_0 t0 t1 t4 t5) K) = w_ref01_SameRects_0 F  (fun t0 t1 t4 t5 => K .ret (st_ref01_SameRects_0 t0 t1 t4 t5)) (fun t0 t1 t4 t5 => K (.exit 0) (st_ref01_SameRects_0 t0 t1 t4 t5)) n := by
      funext t0 t1 t4 t5
      exact ih (r + 1) t0 t1 t4 t5
    rw [step_ref01_SameRects_0, e]
    rfl
theorem nl_ref01_SameRects_0 (F : Nat) (Post : AVal UU → Prop) (t0 : List Rect) (t1 : List Rect) (t4 : Bool) (t5 : Int) : iter (exec C_ref01_CopyRects Try.f37.ntmps M_ref01_SameRects F 0 (cL (cB (cS (cF (cS (cS (bo Try.f37)))))))) (M_ref01_SameRects 0) F 0 (st_ref01_SameRects_0 t0 t1 t4 t5) (k_ref01_SameRects_0 F Post) = n_ref01_SameRects_0 F (fun r0 => Post (.bool r0)) t0 t1 t4 t5 := by
  rw [loop_ref01_SameRects_0]
  have h0 : (fun t0 t1 t4 t5 => k_ref01_SameRects_0 F Post .ret (st_ref01_SameRects_0 t0 t1 t4 t5)) = (fun t0 t1 t4 t5 => g_ref01_SameRects_c0_0 (fun r0 => Post (.bool r0)) t0 t1 t4 t5) := by
    funext t0 t1 t4 t5
    rw [cont_ref01_SameRects_0_0]
  have h1 : (fun t0 t1 t4 t5 => k_ref01_SameRects_0 F Post (.exit 0) (st_ref01_SameRects_0 t0 t1 t4 t5)) = (fun t0 t1 t4 t5 => g_ref01_SameRects_c0_1 (fun r0 => Post (.bool r0)) t0 t1 t4 t5) := by
    funext t0 t1 t4 t5
    rw [cont_ref01_SameRects_0_1]
  rw [h0, h1]
  rfl
theorem exec_ref01_SameRects (F : Nat) (Post : AVal UU → Prop) (a0 : List Rect) (a1 : List Rect) : exec C_ref01_CopyRects Try.f37.ntmps M_ref01_SameRects F 0 (bo Try.f37) (initSt [.sl .rect a0, .sl .rect a1]) (AEnds C_ref01_CopyRects false Try.f37 Post) = w_ref01_SameRects F a0 a1 (fun r0 => Post (.bool r0)) := by
  rw [entry_ref01_SameRects]
  have e0 : (fun t0 t1 t4 t5 => iter (exec C_ref01_CopyRects Try.f37.ntmps M_ref01_SameRects F 0 (cL (cB (cS (cF (cS (cS (bo Try.f37)))))))) (M_ref01_SameRects 0) F 0 (st_ref01_SameRects_0 t0 t1 t4 t5) (k_ref01_SameRects_0 F Post)) = (n_ref01_SameRects_0 F (fun r0 => Post (.bool r0))) := by
    funext t0 t1 t4 t5
    exact nl_ref01_SameRects_0 F Post t0 t1 t4 t5
  rw [e0]
  rfl
def m_ref01_SameRects : Model UU
  | [.sl .rect a0, .sl .rect a1] => some ([pre_ref01_SameRects a0 a1], .bool (sp_ref01_SameRects a0 a1))
  | _ => none
def C_ref01_SameRects : Cfg UU := C_ref01_CopyRects.add 37 m_ref01_SameRects
theorem s_ref01_SameRects : SumOK C_ref01_SameRects := by
  refine s_ref01_CopyRects.addD mixed (fn := Try.f37) (c := bo Try.f37) Try.func37 (by kernel_rfl) (by kernel_rfl) ?_
  intro xs cs r h hc
  unfold m_ref01_SameRects at h
  split at h
  · rename_i a0 a1
    cases h
    obtain ⟨F, hF⟩ := ok_ref01_SameRects a0 a1 hc
    refine ⟨by kernel_rfl, M_ref01_SameRects, F, false, ⟨?_⟩⟩
    rw [exec_ref01_SameRects]
    refine hF _ ?_
    rfl
  · cases h
end
end Go.Proofs.Ytohecfbnmmgimaa

namespace Go.Proofs.Ytohecfbnmmgimaa
open Go.Vm Go.RowKit
set_option linter.unusedVariables false
noncomputable section
def k_allS_0 (F : Nat) (Post : AVal UU → Prop) : AEx → ASt UU → Prop := kBlock 0 (kSeq C_ref01_SameRects Try.f81.ntmps M_allS F 0 (cS (cS (cS (bo Try.f81)))) (AEnds C_ref01_SameRects true Try.f81 Post))
set_option maxRecDepth 100000 in
theorem step_allS_0 (F n r : Nat) (K : AEx → ASt UU → Prop) (t1_0_0_0 : Int) (t1_0_0_1 : Int) (t1_0_0_2 : Int) (t1_0_0_3 : Int) (t7 : List Rect) (t8 : Int) (t9 : Int) (l21 : List Rect) : iter (exec C_ref01_SameRects Try.f81.ntmps M_allS F 0 (cL (cB (cS (cF (cS (cS (bo Try.f81)))))))) (M_allS 0) (n + 1) r (st_allS_0 t1_0_0_0 t1_0_0_1 t1_0_0_2 t1_0_0_3 t7 t8 t9 l21) K = g_allS_s0 (fun t1_0_0_0 t1_0_0_1 t1_0_0_2 t1_0_0_3 t7 t8 t9 l21 => iter (exec C_ref01_SameRects Try.f81.ntmps M_allS F 0 (cL (cB (cS (cF (cS (cS (bo Try.f81)))))))) (M_allS 0) n (r + 1) (st_allS_0 t1_0_0_0 t1_0_0_1 t1_0_0_2 t1_0_0_3 t7 t8 t9 l21) K) (fun t1_0_0_0 t1_0_0_1 t1_0_0_2 t1_0_0_3 t7 t8 t9 l21 => K (.exit 0) (st_allS_0 t1_0_0_0 t1_0_0_1 t1_0_0_2 t1_0_0_3 t7 t8 t9 l21)) t1_0_0_0 t1_0_0_1 t1_0_0_2 t1_0_0_3 t7 t8 t9 l21 := by kernel_rfl
set_option maxRecDepth 100000 in
theorem cont_allS_0_0 (F : Nat) (Post : AVal UU → Prop) (t1_0_0_0 : Int) (t1_0_0_1 : Int) (t1_0_0_2 : Int) (t1_0_0_3 : Int) (t7 : List Rect) (t8 : Int) (t9 : Int) (l21 : List Rect) : k_allS_0 F Post (.exit 0) (st_allS_0 t1_0_0_0 t1_0_0_1 t1_0_0_2 t1_0_0_3 t7 t8 t9 l21) = g_allS_c0_0 (fun r0 => Post (.new .rect r0)) t1_0_0_0 t1_0_0_1 t1_0_0_2 t1_0_0_3 t7 t8 t9 l21 := by kernel_rfl
set_option maxRecDepth 100000 in
theorem entry_allS (F : Nat) (Post : AVal UU → Prop) (a0 : List Rect) (b_X : Int) (b_Y : Int) (b_W : Int) (b_H : Int) : exec C_ref01_SameRects Try.f81.ntmps M_allS F 0 (bo Try.f81) (initSt [.sl .rect a0, .ref [.fn 59 [.ref [.int .i64 b_X, .int .i64 b_Y, .int .i64 b_W, .int .i64 b_H] 0]] 0]) (AEnds C_ref01_SameRects true Try.f81 Post) = g_allS_e a0 b_X b_Y b_W b_H (fun r0 => Post (.new .rect r0)) (fun t1_0_0_0 t1_0_0_1 t1_0_0_2 t1_0_0_3 t7 t8 t9 l21 => iter (exec C_ref01_SameRects Try.f81.ntmps M_allS F 0 (cL (cB (cS (cF (cS (cS (bo Try.f81)))))))) (M_allS 0) F 0 (st_allS_0 t1_0_0_0 t1_0_0_1 t1_0_0_2 t1_0_0_3 t7 t8 t9 l21) (k_allS_0 F Post)) := by kernel_rfl
theorem loop_allS_0 (F : Nat) (K : AEx → ASt UU → Prop) : ∀ (n r : Nat) (t1_0_0_0 : Int) (t1_0_0_1 : Int) (t1_0_0_2 : Int) (t1_0_0_3 : Int) (t7 : List Rect) (t8 : Int) (t9 : Int) (l21 : List Rect), iter (exec C_ref01_SameRects Try.f81.ntmps M_allS F 0 (cL (cB (cS (cF (cS (cS (bo Try.f81)))))))) (M_allS 0) n r (st_allS_0 t1_0_0_0 t1_0_0_1 t1_0_0_2 t1_0_0_3 t7 t8 t9 l21) K = w_allS_0 F  (fun t1_0_0_0 t1_0_0_1 t1_0_0_2 t1_0_0_3 t7 t8 t9 l21 => K (.exit 0) (st_allS_0 t1_0_0_0 t1_0_0_1 t1_0_0_2 t1_0_0_3 t7 t8 t9 l21)) n t1_0_0_0 t1_0_0_1 t1_0_0_2 t1_0_0_3 t7 t8 t9 l21 := by
  intro n
  induction n with
  | zero => intros; rfl
  | succ n ih =>
    intro r t1_0_0_0 t1_0_0_1 t1_0_0_2 t1_0_0_3 t7 t8 t9 l21
    have e : (fun t1_0_0_0 t1_0_0_1 t1_0_0_2 t1_0_0_3 t7 t8 t9 l21 => iter (exec C_ref01_SameRects Try.f81.ntmps M_allS F 0 (cL (cB (cS (cF (cS (cS (bo Try.f81)))))))) (M_allS 0) n (r + 1) (st_allS_0 t1_0_0_0 t1_0_0_1 t1_0_0_2 t1_0_0_3 t7 t8 t9 l21) K) = w_allS_0 F  (fun t1_0_0_0 t1_0_0_1 t1_0_0_2 t1_0_0_3 t7 t8 t9 l21 => K (.exit 0) (st_allS_0 t1_0_0_0 t1_0_0_1 t1_0_0_2 t1_0_0_3 t7 t8 t9 l21)) n := by
      funext t1_0_0_0 t1_0_0_1 t1_0_0_2 t1_0_0_3 t7 t8 t9 l21
      exact ih (r + 1) t1_0_0_0 t1_0_0_1 t1_0_0_2 t1_0_0_3 t7 t8 t9 l21
    rw [step_allS_0, e]
    rfl
theorem nl_allS_0 (F : Nat) (Post : AVal UU → Prop) (t1_0_0_0 : Int) (t1_0_0_1 : Int) (t1_0_0_2 : Int) (t1_0_0_3 : Int) (t7 : List Rect) (t8 : Int) (t9 : Int) (l21 : List Rect) : iter (exec C_ref01_SameRects Try.f81.ntmps M_allS F 0 (cL (cB (cS (cF (cS (cS (bo Try.f81)))))))) (M_allS 0) F 0 (st_allS_0 t1_0_0_0 t1_0_0_1 t1_0_0_2 t1_0_0_3 t7 t8 t9 l21) (k_allS_0 F Post) = n_allS_0 F (fun r0 => Post (.new .rect r0)) t1_0_0_0 t1_0_0_1 t1_0_0_2 t1_0_0_3 t7 t8 t9 l21 := by
  rw [loop_allS_0]
  have h0 : (fun t1_0_0_0 t1_0_0_1 t1_0_0_2 t1_0_0_3 t7 t8 t9 l21 => k_allS_0 F Post (.exit 0) (st_allS_0 t1_0_0_0 t1_0_0_1 t1_0_0_2 t1_0_0_3 t7 t8 t9 l21)) = (fun t1_0_0_0 t1_0_0_1 t1_0_0_2 t1_0_0_3 t7 t8 t9 l21 => g_allS_c0_0 (fun r0 => Post (.new .rect r0)) t1_0_0_0 t1_0_0_1 t1_0_0_2 t1_0_0_3 t7 t8 t9 l21) := by
    funext t1_0_0_0 t1_0_0_1 t1_0_0_2 t1_0_0_3 t7 t8 t9 l21
    rw [cont_allS_0_0]
  rw [h0]
  rfl
theorem exec_allS (F : Nat) (Post : AVal UU → Prop) (a0 : List Rect) (b_X : Int) (b_Y : Int) (b_W : Int) (b_H : Int) : exec C_ref01_SameRects Try.f81.ntmps M_allS F 0 (bo Try.f81) (initSt [.sl .rect a0, .ref [.fn 59 [.ref [.int .i64 b_X, .int .i64 b_Y, .int .i64 b_W, .int .i64 b_H] 0]] 0]) (AEnds C_ref01_SameRects true Try.f81 Post) = w_allS F a0 b_X b_Y b_W b_H (fun r0 => Post (.new .rect r0)) := by
  rw [entry_allS]
  have e0 : (fun t1_0_0_0 t1_0_0_1 t1_0_0_2 t1_0_0_3 t7 t8 t9 l21 => iter (exec C_ref01_SameRects Try.f81.ntmps M_allS F 0 (cL (cB (cS (cF (cS (cS (bo Try.f81)))))))) (M_allS 0) F 0 (st_allS_0 t1_0_0_0 t1_0_0_1 t1_0_0_2 t1_0_0_3 t7 t8 t9 l21) (k_allS_0 F Post)) = (n_allS_0 F (fun r0 => Post (.new .rect r0))) := by
    funext t1_0_0_0 t1_0_0_1 t1_0_0_2 t1_0_0_3 t7 t8 t9 l21
    exact nl_allS_0 F Post t1_0_0_0 t1_0_0_1 t1_0_0_2 t1_0_0_3 t7 t8 t9 l21
  rw [e0]
  rfl
def k_allQ_0 (F : Nat) (Post : AVal UU → Prop) : AEx → ASt UU → Prop := kBlock 0 (kSeq C_ref01_SameRects Try.f81.ntmps M_allQ F 0 (cS (cS (cS (bo Try.f81)))) (AEnds C_ref01_SameRects true Try.f81 Post))
set_option maxRecDepth 100000 in
theorem step_allQ_0 (F n r : Nat) (K : AEx → ASt UU → Prop) (t7 : List Rect) (t8 : Int) (t9 : Int) (l21 : List Rect) : iter (exec C_ref01_SameRects Try.f81.ntmps M_allQ F 0 (cL (cB (cS (cF (cS (cS (bo Try.f81)))))))) (M_allQ 0) (n + 1) r (st_allQ_0 t7 t8 t9 l21) K = g_allQ_s0 (fun t7 t8 t9 l21 => iter (exec C_ref01_SameRects Try.f81.ntmps M_allQ F 0 (cL (cB (cS (cF (cS (cS (bo Try.f81)))))))) (M_allQ 0) n (r + 1) (st_allQ_0 t7 t8 t9 l21) K) (fun t7 t8 t9 l21 => K (.exit 0) (st_allQ_0 t7 t8 t9 l21)) t7 t8 t9 l21 := by kernel_rfl
set_option maxRecDepth 100000 in
theorem cont_allQ_0_0 (F : Nat) (Post : AVal UU → Prop) (t7 : List Rect) (t8 : Int) (t9 : Int) (l21 : List Rect) : k_allQ_0 F Post (.exit 0) (st_allQ_0 t7 t8 t9 l21) = g_allQ_c0_0 (fun r0 => Post (.new .rect r0)) t7 t8 t9 l21 := by kernel_rfl
set_option maxRecDepth 100000 in
theorem entry_allQ (F : Nat) (Post : AVal UU → Prop) (a0 : List Rect) : exec C_ref01_SameRects Try.f81.ntmps M_allQ F 0 (bo Try.f81) (initSt [.sl .rect a0, .ref [.fn 63 []] 0]) (AEnds C_ref01_SameRects true Try.f81 Post) = g_allQ_e a0 (fun r0 => Post (.new .rect r0)) (fun t7 t8 t9 l21 => iter (exec C_ref01_SameRects Try.f81.ntmps M_allQ F 0 (cL (cB (cS (cF (cS (cS (bo Try.f81)))))))) (M_allQ 0) F 0 (st_allQ_0 t7 t8 t9 l21) (k_allQ_0 F Post)) := by kernel_rfl
theorem loop_allQ_0 (F : Nat) (K : AEx → ASt UU → Prop) : ∀ (n r : Nat) (t7 : List Rect) (t8 : Int) (t9 : Int) (l21 : List Rect), iter (exec C_ref01_SameRects Try.f81.ntmps M_allQ F 0 (cL (cB (cS (cF (cS (cS (bo Try.f81)))))))) (M_allQ 0) n r (st_allQ_0 t7 t8 t9 l21) K = w_allQ_0 F  (fun t7 t8 t9 l21 => K (.exit 0) (st_allQ_0 t7 t8 t9 l21)) n t7 t8 t9 l21 := by
  intro n
  induction n with
  | zero => intros; rfl
  | succ n ih =>
    intro r t7 t8 t9 l21
    have e : (fun t7 t8 t9 l21 => iter (exec C_ref01_SameRects Try.f81.ntmps M_allQ F 0 (cL (cB (cS (cF (cS (cS (bo Try.f81)))))))) (M_allQ 0) n (r + 1) (st_allQ_0 t7 t8 t9 l21) K) = w_allQ_0 F  (fun t7 t8 t9 l21 => K (.exit 0) (st_allQ_0 t7 t8 t9 l21)) n := by
      funext t7 t8 t9 l21
      exact ih (r + 1) t7 t8 t9 l21
    rw [step_allQ_0, e]
    rfl
theorem nl_allQ_0 (F : Nat) (Post : AVal UU → Prop) (t7 : List Rect) (t8 : Int) (t9 : Int) (l21 : List Rect) : iter (exec C_ref01_SameRects Try.f81.ntmps M_allQ F 0 (cL (cB (cS (cF (cS (cS (bo Try.f81)))))))) (M_allQ 0) F 0 (st_allQ_0 t7 t8 t9 l21) (k_allQ_0 F Post) = n_allQ_0 F (fun r0 => Post (.new .rect r0)) t7 t8 t9 l21 := by
  rw [loop_allQ_0]
  have h0 : (fun t7 t8 t9 l21 => k_allQ_0 F Post (.exit 0) (st_allQ_0 t7 t8 t9 l21)) = (fun t7 t8 t9 l21 => g_allQ_c0_0 (fun r0 => Post (.new .rect r0)) t7 t8 t9 l21) := by
    funext t7 t8 t9 l21
    rw [cont_allQ_0_0]
  rw [h0]
  rfl
theorem exec_allQ (F : Nat) (Post : AVal UU → Prop) (a0 : List Rect) : exec C_ref01_SameRects Try.f81.ntmps M_allQ F 0 (bo Try.f81) (initSt [.sl .rect a0, .ref [.fn 63 []] 0]) (AEnds C_ref01_SameRects true Try.f81 Post) = w_allQ F a0 (fun r0 => Post (.new .rect r0)) := by
  rw [entry_allQ]
  have e0 : (fun t7 t8 t9 l21 => iter (exec C_ref01_SameRects Try.f81.ntmps M_allQ F 0 (cL (cB (cS (cF (cS (cS (bo Try.f81)))))))) (M_allQ 0) F 0 (st_allQ_0 t7 t8 t9 l21) (k_allQ_0 F Post)) = (n_allQ_0 F (fun r0 => Post (.new .rect r0))) := by
    funext t7 t8 t9 l21
    exact nl_allQ_0 F Post t7 t8 t9 l21
  rw [e0]
  rfl
def m_allS : Model UU
  | [.sl .rect a0, .ref [.fn 59 [.ref [.int .i64 b_X, .int .i64 b_Y, .int .i64 b_W, .int .i64 b_H] 0]] 0] => some ([pre_allS a0 b_X b_Y b_W b_H], .new .rect (sp_allS a0 b_X b_Y b_W b_H))
  | [.sl .rect a0, .ref [.fn 63 []] 0] => some ([pre_allQ a0], .new .rect (sp_allQ a0))
  | _ => none
def C_allS : Cfg UU := C_ref01_SameRects.add 81 m_allS
theorem s_allS : SumOK C_allS := by
  refine s_ref01_SameRects.addD mixed (fn := Try.f81) (c := bo Try.f81) Try.func81 (by kernel_rfl) (by kernel_rfl) ?_
  intro xs cs r h hc
  unfold m_allS at h
  split at h
  · rename_i a0 b_X b_Y b_W b_H
    cases h
    obtain ⟨F, hF⟩ := ok_allS a0 b_X b_Y b_W b_H hc
    refine ⟨by kernel_rfl, M_allS, F, true, ⟨?_⟩⟩
    rw [exec_allS]
    refine hF _ ?_
    rfl
  · rename_i a0
    cases h
    obtain ⟨F, hF⟩ := ok_allQ a0 hc
    refine ⟨by kernel_rfl, M_allQ, F, true, ⟨?_⟩⟩
    rw [exec_allQ]
    refine hF _ ?_
    rfl
  · cases h
def k_ref03_move_point_0 (F : Nat) (Post : AVal UU → Prop) : AEx → ASt UU → Prop := kBlock 0 (kSeq C_allS Try.f82.ntmps M_ref03_move_point F 0 (cS (cS (bo Try.f82))) (AEnds C_allS false Try.f82 Post))
set_option maxRecDepth 100000 in
theorem step_ref03_move_point_0 (F n r : Nat) (K : AEx → ASt UU → Prop) (t1 : Int) (t2 : Int) (t8 : Int) (c3_0 : Int) (c3_1 : Int) (c3_2 : Int) : iter (exec C_allS Try.f82.ntmps M_ref03_move_point F 0 (cL (cB (cS (cF (cS (bo Try.f82))))))) (M_ref03_move_point 0) (n + 1) r (st_ref03_move_point_0 t1 t2 t8 c3_0 c3_1 c3_2) K = g_ref03_move_point_s0 (fun t1 t2 t8 c3_0 c3_1 c3_2 => iter (exec C_allS Try.f82.ntmps M_ref03_move_point F 0 (cL (cB (cS (cF (cS (bo Try.f82))))))) (M_ref03_move_point 0) n (r + 1) (st_ref03_move_point_0 t1 t2 t8 c3_0 c3_1 c3_2) K) (fun t1 t2 t8 c3_0 c3_1 c3_2 => K (.exit 0) (st_ref03_move_point_0 t1 t2 t8 c3_0 c3_1 c3_2)) t1 t2 t8 c3_0 c3_1 c3_2 := by kernel_rfl
set_option maxRecDepth 100000 in
theorem cont_ref03_move_point_0_0 (F : Nat) (Post : AVal UU → Prop) (t1 : Int) (t2 : Int) (t8 : Int) (c3_0 : Int) (c3_1 : Int) (c3_2 : Int) : k_ref03_move_point_0 F Post (.exit 0) (st_ref03_move_point_0 t1 t2 t8 c3_0 c3_1 c3_2) = g_ref03_move_point_c0_0 (fun r0 r1 => Post (.tup [.int .i64 r0, .int .i64 r1])) t1 t2 t8 c3_0 c3_1 c3_2 := by kernel_rfl
set_option maxRecDepth 100000 in
theorem entry_ref03_move_point (F : Nat) (Post : AVal UU → Prop) (a0_turns : Int) (a0_x : Int) (a0_y : Int) (a1 : Int) (a2 : Int) : exec C_allS Try.f82.ntmps M_ref03_move_point F 0 (bo Try.f82) (initSt [.agg [.int .i64 a0_turns, .int .i64 a0_x, .int .i64 a0_y], .int .i64 a1, .int .i64 a2]) (AEnds C_allS false Try.f82 Post) = g_ref03_move_point_e a0_turns a0_x a0_y a1 a2 (fun r0 r1 => Post (.tup [.int .i64 r0, .int .i64 r1])) (fun t1 t2 t8 c3_0 c3_1 c3_2 => iter (exec C_allS Try.f82.ntmps M_ref03_move_point F 0 (cL (cB (cS (cF (cS (bo Try.f82))))))) (M_ref03_move_point 0) F 0 (st_ref03_move_point_0 t1 t2 t8 c3_0 c3_1 c3_2) (k_ref03_move_point_0 F Post)) := by kernel_rfl
theorem loop_ref03_move_point_0 (F : Nat) (K : AEx → ASt UU → Prop) : ∀ (n r : Nat) (t1 : Int) (t2 : Int) (t8 : Int) (c3_0 : Int) (c3_1 : Int) (c3_2 : Int), iter (exec C_allS Try.f82.ntmps M_ref03_move_point F 0 (cL (cB (cS (cF (cS (bo Try.f82))))))) (M_ref03_move_point 0) n r (st_ref03_move_point_0 t1 t2 t8 c3_0 c3_1 c3_2) K = w_ref03_move_point_0 F  (fun t1 t2 t8 c3_0 c3_1 c3_2 => K (.exit 0) (st_ref03_move_point_0 t1 t2 t8 c3_0 c3_1 c3_2)) n t1 t2 t8 c3_0 c3_1 c3_2 := by
  intro n
  induction n with
  | zero => intros; rfl
  | succ n ih =>
    intro r t1 t2 t8 c3_0 c3_1 c3_2
    have e : (fun t1 t2 t8 c3_0 c3_1 c3_2 => iter (exec C_allS Try.f82.ntmps M_ref03_move_point F 0 (cL (cB (cS (cF (cS (bo Try.f82))))))) (M_ref03_move_point 0) n (r + 1) (st_ref03_move_point_0 t1 t2 t8 c3_0 c3_1 c3_2) K) = w_ref03_move_point_0 F  (fun t1 t2 t8 c3_0 c3_1 c3_2 => K (.exit 0) (st_ref03_move_point_0 t1 t2 t8 c3_0 c3_1 c3_2)) n := by
      funext t1 t2 t8 c3_0 c3_1 c3_2
      exact ih (r + 1) t1 t2 t8 c3_0 c3_1 c3_2
    rw [step_ref03_move_point_0, e]
    rfl
theorem nl_ref03_move_point_0 (F : Nat) (Post : AVal UU → Prop) (t1 : Int) (t2 : Int) (t8 : Int) (c3_0 : Int) (c3_1 : Int) (c3_2 : Int) : iter (exec C_allS Try.f82.ntmps M_ref03_move_point F 0 (cL (cB (cS (cF (cS (bo Try.f82))))))) (M_ref03_move_point 0) F 0 (st_ref03_move_point_0 t1 t2 t8 c3_0 c3_1 c3_2) (k_ref03_move_point_0 F Post) = n_ref03_move_point_0 F (fun r0 r1 => Post (.tup [.int .i64 r0, .int .i64 r1])) t1 t2 t8 c3_0 c3_1 c3_2 := by
  rw [loop_ref03_move_point_0]
  have h0 : (fun t1 t2 t8 c3_0 c3_1 c3_2 => k_ref03_move_point_0 F Post (.exit 0) (st_ref03_move_point_0 t1 t2 t8 c3_0 c3_1 c3_2)) = (fun t1 t2 t8 c3_0 c3_1 c3_2 => g_ref03_move_point_c0_0 (fun r0 r1 => Post (.tup [.int .i64 r0, .int .i64 r1])) t1 t2 t8 c3_0 c3_1 c3_2) := by
    funext t1 t2 t8 c3_0 c3_1 c3_2
    rw [cont_ref03_move_point_0_0]
  rw [h0]
  rfl
theorem exec_ref03_move_point (F : Nat) (Post : AVal UU → Prop) (a0_turns : Int) (a0_x : Int) (a0_y : Int) (a1 : Int) (a2 : Int) : exec C_allS Try.f82.ntmps M_ref03_move_point F 0 (bo Try.f82) (initSt [.agg [.int .i64 a0_turns, .int .i64 a0_x, .int .i64 a0_y], .int .i64 a1, .int .i64 a2]) (AEnds C_allS false Try.f82 Post) = w_ref03_move_point F a0_turns a0_x a0_y a1 a2 (fun r0 r1 => Post (.tup [.int .i64 r0, .int .i64 r1])) := by
  rw [entry_ref03_move_point]
  have e0 : (fun t1 t2 t8 c3_0 c3_1 c3_2 => iter (exec C_allS Try.f82.ntmps M_ref03_move_point F 0 (cL (cB (cS (cF (cS (bo Try.f82))))))) (M_ref03_move_point 0) F 0 (st_ref03_move_point_0 t1 t2 t8 c3_0 c3_1 c3_2) (k_ref03_move_point_0 F Post)) = (n_ref03_move_point_0 F (fun r0 r1 => Post (.tup [.int .i64 r0, .int .i64 r1]))) := by
    funext t1 t2 t8 c3_0 c3_1 c3_2
    exact nl_ref03_move_point_0 F Post t1 t2 t8 c3_0 c3_1 c3_2
  rw [e0]
  rfl
def m_ref03_move_point : Model UU
  | [.agg [.int .i64 a0_turns, .int .i64 a0_x, .int .i64 a0_y], .int .i64 a1, .int .i64 a2] => some ([pre_ref03_move_point a0_turns a0_x a0_y a1 a2], .tup [.int .i64 ((sp_ref03_move_point a0_turns a0_x a0_y a1 a2).1), .int .i64 ((sp_ref03_move_point a0_turns a0_x a0_y a1 a2).2)])
  | _ => none
def C_ref03_move_point : Cfg UU := C_allS.add 82 m_ref03_move_point
theorem s_ref03_move_point : SumOK C_ref03_move_point := by
  refine s_allS.addD mixed (fn := Try.f82) (c := bo Try.f82) Try.func82 (by kernel_rfl) (by kernel_rfl) ?_
  intro xs cs r h hc
  unfold m_ref03_move_point at h
  split at h
  · rename_i a0_turns a0_x a0_y a1 a2
    cases h
    obtain ⟨F, hF⟩ := ok_ref03_move_point a0_turns a0_x a0_y a1 a2 hc
    refine ⟨by kernel_rfl, M_ref03_move_point, F, false, ⟨?_⟩⟩
    rw [exec_ref03_move_point]
    refine hF _ ?_
    rfl
  · cases h
end
end Go.Proofs.Ytohecfbnmmgimaa

namespace Go.Proofs.Ytohecfbnmmgimaa
open Go.Vm Go.RowKit
set_option linter.unusedVariables false
noncomputable section
set_option maxRecDepth 100000 in
theorem entry_ref03_rectsIn (F : Nat) (Post : AVal UU → Prop) (a0 : List Rect) : exec C_ref03_move_point Try.f56.ntmps M_ref03_rectsIn F 0 (bo Try.f56) (initSt [.sl .rect a0]) (AEnds C_ref03_move_point false Try.f56 Post) = g_ref03_rectsIn_e a0 (fun r0 => Post (.bool r0)) := by kernel_rfl
theorem exec_ref03_rectsIn (F : Nat) (Post : AVal UU → Prop) (a0 : List Rect) : exec C_ref03_move_point Try.f56.ntmps M_ref03_rectsIn F 0 (bo Try.f56) (initSt [.sl .rect a0]) (AEnds C_ref03_move_point false Try.f56 Post) = w_ref03_rectsIn F a0 (fun r0 => Post (.bool r0)) := by
  rw [entry_ref03_rectsIn]
  rfl
def m_ref03_rectsIn : Model UU
  | [.sl .rect a0] => some ([], .bool (sp_ref03_rectsIn a0))
  | _ => none
def C_ref03_rectsIn : Cfg UU := C_ref03_move_point.add 56 m_ref03_rectsIn
theorem s_ref03_rectsIn : SumOK C_ref03_rectsIn := by
  refine s_ref03_move_point.addD mixed (fn := Try.f56) (c := bo Try.f56) Try.func56 (by kernel_rfl) (by kernel_rfl) ?_
  intro xs cs r h hc
  unfold m_ref03_rectsIn at h
  split at h
  · rename_i a0
    cases h
    obtain ⟨F, hF⟩ := ok_ref03_rectsIn a0
    refine ⟨by kernel_rfl, M_ref03_rectsIn, F, false, ⟨?_⟩⟩
    rw [exec_ref03_rectsIn]
    refine hF _ ?_
    rfl
  · cases h
set_option maxRecDepth 100000 in
theorem entry_ref03_move_rect (F : Nat) (Post : AVal UU → Prop) (a0_turns : Int) (a0_x : Int) (a0_y : Int) (a1_X : Int) (a1_Y : Int) (a1_W : Int) (a1_H : Int) : exec C_ref03_rectsIn Try.f61.ntmps M_ref03_move_rect F 0 (bo Try.f61) (initSt [.agg [.int .i64 a0_turns, .int .i64 a0_x, .int .i64 a0_y], .agg [.int .i64 a1_X, .int .i64 a1_Y, .int .i64 a1_W, .int .i64 a1_H]]) (AEnds C_ref03_rectsIn false Try.f61 Post) = g_ref03_move_rect_e a0_turns a0_x a0_y a1_X a1_Y a1_W a1_H (fun r0_X r0_Y r0_W r0_H => Post (.agg [.int .i64 r0_X, .int .i64 r0_Y, .int .i64 r0_W, .int .i64 r0_H])) := by kernel_rfl
theorem exec_ref03_move_rect (F : Nat) (Post : AVal UU → Prop) (a0_turns : Int) (a0_x : Int) (a0_y : Int) (a1_X : Int) (a1_Y : Int) (a1_W : Int) (a1_H : Int) : exec C_ref03_rectsIn Try.f61.ntmps M_ref03_move_rect F 0 (bo Try.f61) (initSt [.agg [.int .i64 a0_turns, .int .i64 a0_x, .int .i64 a0_y], .agg [.int .i64 a1_X, .int .i64 a1_Y, .int .i64 a1_W, .int .i64 a1_H]]) (AEnds C_ref03_rectsIn false Try.f61 Post) = w_ref03_move_rect F a0_turns a0_x a0_y a1_X a1_Y a1_W a1_H (fun r0_X r0_Y r0_W r0_H => Post (.agg [.int .i64 r0_X, .int .i64 r0_Y, .int .i64 r0_W, .int .i64 r0_H])) := by
  rw [entry_ref03_move_rect]
  rfl
def m_ref03_move_rect : Model UU
  | [.agg [.int .i64 a0_turns, .int .i64 a0_x, .int .i64 a0_y], .agg [.int .i64 a1_X, .int .i64 a1_Y, .int .i64 a1_W, .int .i64 a1_H]] => some ([pre_ref03_move_rect a0_turns a0_x a0_y a1_X a1_Y a1_W a1_H], .agg [.int .i64 ((sp_ref03_move_rect a0_turns a0_x a0_y a1_X a1_Y a1_W a1_H).1), .int .i64 ((sp_ref03_move_rect a0_turns a0_x a0_y a1_X a1_Y a1_W a1_H).2.1), .int .i64 ((sp_ref03_move_rect a0_turns a0_x a0_y a1_X a1_Y a1_W a1_H).2.2.1), .int .i64 ((sp_ref03_move_rect a0_turns a0_x a0_y a1_X a1_Y a1_W a1_H).2.2.2)])
  | _ => none
def C_ref03_move_rect : Cfg UU := C_ref03_rectsIn.add 61 m_ref03_move_rect
theorem s_ref03_move_rect : SumOK C_ref03_move_rect := by
  refine s_ref03_rectsIn.addD mixed (fn := Try.f61) (c := bo Try.f61) Try.func61 (by kernel_rfl) (by kernel_rfl) ?_
  intro xs cs r h hc
  unfold m_ref03_move_rect at h
  split at h
  · rename_i a0_turns a0_x a0_y a1_X a1_Y a1_W a1_H
    cases h
    obtain ⟨F, hF⟩ := ok_ref03_move_rect a0_turns a0_x a0_y a1_X a1_Y a1_W a1_H hc
    refine ⟨by kernel_rfl, M_ref03_move_rect, F, false, ⟨?_⟩⟩
    rw [exec_ref03_move_rect]
    refine hF _ ?_
    rfl
  · cases h
set_option maxRecDepth 100000 in
theorem entry_ref03_move_line (F : Nat) (Post : AVal UU → Prop) (a0_turns : Int) (a0_x : Int) (a0_y : Int) (a1_X1 : Int) (a1_Y1 : Int) (a1_X2 : Int) (a1_Y2 : Int) : exec C_ref03_move_rect Try.f62.ntmps M_ref03_move_line F 0 (bo Try.f62) (initSt [.agg [.int .i64 a0_turns, .int .i64 a0_x, .int .i64 a0_y], .agg [.int .i64 a1_X1, .int .i64 a1_Y1, .int .i64 a1_X2, .int .i64 a1_Y2]]) (AEnds C_ref03_move_rect false Try.f62 Post) = g_ref03_move_line_e a0_turns a0_x a0_y a1_X1 a1_Y1 a1_X2 a1_Y2 (fun r0_X1 r0_Y1 r0_X2 r0_Y2 => Post (.agg [.int .i64 r0_X1, .int .i64 r0_Y1, .int .i64 r0_X2, .int .i64 r0_Y2])) := by kernel_rfl
theorem exec_ref03_move_line (F : Nat) (Post : AVal UU → Prop) (a0_turns : Int) (a0_x : Int) (a0_y : Int) (a1_X1 : Int) (a1_Y1 : Int) (a1_X2 : Int) (a1_Y2 : Int) : exec C_ref03_move_rect Try.f62.ntmps M_ref03_move_line F 0 (bo Try.f62) (initSt [.agg [.int .i64 a0_turns, .int .i64 a0_x, .int .i64 a0_y], .agg [.int .i64 a1_X1, .int .i64 a1_Y1, .int .i64 a1_X2, .int .i64 a1_Y2]]) (AEnds C_ref03_move_rect false Try.f62 Post) = w_ref03_move_line F a0_turns a0_x a0_y a1_X1 a1_Y1 a1_X2 a1_Y2 (fun r0_X1 r0_Y1 r0_X2 r0_Y2 => Post (.agg [.int .i64 r0_X1, .int .i64 r0_Y1, .int .i64 r0_X2, .int .i64 r0_Y2])) := by
  rw [entry_ref03_move_line]
  rfl
def m_ref03_move_line : Model UU
  | [.agg [.int .i64 a0_turns, .int .i64 a0_x, .int .i64 a0_y], .agg [.int .i64 a1_X1, .int .i64 a1_Y1, .int .i64 a1_X2, .int .i64 a1_Y2]] => some ([pre_ref03_move_line a0_turns a0_x a0_y a1_X1 a1_Y1 a1_X2 a1_Y2], .agg [.int .i64 ((sp_ref03_move_line a0_turns a0_x a0_y a1_X1 a1_Y1 a1_X2 a1_Y2).1), .int .i64 ((sp_ref03_move_line a0_turns a0_x a0_y a1_X1 a1_Y1 a1_X2 a1_Y2).2.1), .int .i64 ((sp_ref03_move_line a0_turns a0_x a0_y a1_X1 a1_Y1 a1_X2 a1_Y2).2.2.1), .int .i64 ((sp_ref03_move_line a0_turns a0_x a0_y a1_X1 a1_Y1 a1_X2 a1_Y2).2.2.2)])
  | _ => none
def C_ref03_move_line : Cfg UU := C_ref03_move_rect.add 62 m_ref03_move_line
theorem s_ref03_move_line : SumOK C_ref03_move_line := by
  refine s_ref03_move_rect.addD mixed (fn := Try.f62) (c := bo Try.f62) Try.func62 (by kernel_rfl) (by kernel_rfl) ?_
  intro xs cs r h hc
  unfold m_ref03_move_line at h
  split at h
  · rename_i a0_turns a0_x a0_y a1_X1 a1_Y1 a1_X2 a1_Y2
    cases h
    obtain ⟨F, hF⟩ := ok_ref03_move_line a0_turns a0_x a0_y a1_X1 a1_Y1 a1_X2 a1_Y2 hc
    refine ⟨by kernel_rfl, M_ref03_move_line, F, false, ⟨?_⟩⟩
    rw [exec_ref03_move_line]
    refine hF _ ?_
    rfl
  · cases h
end
end Go.Proofs.Ytohecfbnmmgimaa
