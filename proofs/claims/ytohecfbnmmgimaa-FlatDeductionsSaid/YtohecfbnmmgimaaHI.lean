/- Deductions: whole numbers of ticks, between those of the nearest entries: what the law's function must hold, holds. Conditions: none. -/
import Derived.Test.YtohecfbnmmgimaaHH
namespace Go.Proofs.Ytohecfbnmmgimaa
open Go.Vm Go.RowKit
set_option linter.unusedVariables false
noncomputable section

theorem ticks_val {n d v : Int} (h : sp_flat_valid n d = true) (e : n * 720 = v * d) : sp_flat_Ticks n d = (v, 0) := by
  obtain ⟨e1, e2, e3⟩ := times720 h
  obtain ⟨h1, _⟩ := valid_iff.1 h
  unfold sp_flat_Ticks sp_flat_rational_times sp_flat_of sp_flat_rational_reduced
  rw [h]
  simp only
  rw [e1, e2]
  obtain ⟨l1, l2⟩ := low_eq (n := n * 720) (d := d) (n' := v) (d' := 1) h1 (by omega) (by rw [e, Int.mul_one])
  have l3 : lowD v 1 = 1 := by
    have := low_le (n := v) (d := 1) (by omega)
    have := low_pos (n := v) (d := 1) (by omega)
    omega
  have l4 : lowN v 1 = v := by
    have := low_val (n := v) (d := 1) (by omega)
    rw [l3] at this
    omega
  rw [l1, l2, l3, l4]
  rfl

/-- The ticks of an entry. -/
def tickOf (x : Ent) : Int := 60 * (x.Num * Int.tdiv 12 x.Den)
theorem EntG.valid {x : Ent} (h : EntG x) : sp_flat_valid x.Num x.Den = true := by
  have h1 := h.n1
  have h2 := h.n2
  have h3 := h.den
  rw [valid_iff]
  omega
theorem EntG.tick {x : Ent} (h : EntG x) : sp_flat_Ticks x.Num x.Den = (tickOf x, 0) := by
  refine ticks_val h.valid ?_
  have := h.d12.1
  unfold tickOf
  generalize Int.tdiv 12 x.Den = c at *
  have e : 60 * (x.Num * c) * x.Den = 60 * (x.Num * (x.Den * c)) := by ac_rfl
  rw [e, this]
  omega

theorem ents_all : ∀ (l : List Ent) (last : Int), entsOK last l = true → ∀ j, j < l.length → EntG (l.getD j default) ∧ last < (l.getD j default).Angle := by
  intro l
  induction l with
  | nil => intro last _ j h; exact absurd h (by simp)
  | cons x l ih =>
    intro last h j hj
    obtain ⟨g, h1, h2⟩ := entsOK_cons h
    cases j with
    | zero => exact ⟨g, h1⟩
    | succ j =>
      obtain ⟨g', h3⟩ := ih x.Angle h2 j (by simpa using hj)
      exact ⟨by simpa using g', by simp at h3 ⊢; omega⟩
theorem ents_asc : ∀ (l : List Ent) (last : Int), entsOK last l = true → ∀ j k, j < k → k < l.length → (l.getD j default).Angle < (l.getD k default).Angle := by
  intro l
  induction l with
  | nil => intro last _ j k _ h; exact absurd h (by simp)
  | cons x l ih =>
    intro last h j k hjk hk
    obtain ⟨g, h1, h2⟩ := entsOK_cons h
    cases k with
    | zero => omega
    | succ k =>
      cases j with
      | zero => simpa using (ents_all l x.Angle h2 k (by simpa using hk)).2
      | succ j => simpa using ih x.Angle h2 j k (by omega) (by simpa using hk)

/-- Where the deduction comes from. -/
theorem ded_where (es : List Ent) (a : Int) (N D : Int) : ∀ (k i : Nat), es.length = k + i → entsOK (lastOf es i) (es.drop i) = true → ded (prevOf es i) (es.drop i) a = some (N, D) →
    (∃ j, j < es.length ∧ (es.getD j default).Angle = a ∧ N = lowN (es.getD j default).Num (es.getD j default).Den ∧ D = lowD (es.getD j default).Num (es.getD j default).Den) ∨
    (∃ j, 0 < j ∧ j < es.length ∧ a < (es.getD j default).Angle ∧ N = lowN (itpN (es.getD (j - 1) default) (es.getD j default) a) (itpD (es.getD (j - 1) default) (es.getD j default)) ∧ D = lowD (itpN (es.getD (j - 1) default) (es.getD j default) a) (itpD (es.getD (j - 1) default) (es.getD j default)) ∧
      (j = i ∨ (es.getD (j - 1) default).Angle < a)) := by
  intro k
  induction k with
  | zero =>
    intro i hk hok h
    rw [List.drop_of_length_le (by omega)] at h
    cases h
  | succ k ih =>
    intro i hk hok h
    have hi : i < es.length := by omega
    have hd := drop_getD es i hi
    rw [hd] at hok h
    generalize hx : es.getD i default = x at *
    obtain ⟨gx, hlx, hrest⟩ := entsOK_cons hok
    unfold ded at h
    by_cases h1 : x.Angle = a
    · rw [if_pos h1] at h
      cases h
      exact .inl ⟨i, hi, by rw [hx]; exact h1, by rw [hx], by rw [hx]⟩
    · rw [if_neg h1] at h
      by_cases h2 : a < x.Angle
      · rw [if_pos h2] at h
        by_cases h3 : i = 0
        · subst h3
          cases h
        · have e4 : prevOf es i = some (es.getD (i - 1) default) := by unfold prevOf; rw [if_neg h3]
          rw [e4] at h
          cases h
          exact .inr ⟨i, by omega, hi, by rw [hx]; exact h2, by rw [hx], by rw [hx], .inl rfl⟩
      · rw [if_neg h2] at h
        have e6 : prevOf es (i + 1) = some x := by unfold prevOf; rw [if_neg (by omega)]; simp only [Nat.add_sub_cancel]; rw [hx]
        have e7 : lastOf es (i + 1) = x.Angle := by unfold lastOf; rw [if_neg (by omega)]; simp only [Nat.add_sub_cancel]; rw [hx]
        rcases ih (i + 1) (by omega) (by rw [e7]; exact hrest) (by rw [e6]; exact h) with r | ⟨j, r1, r2, r3, r4, r5, r6⟩
        · exact .inl r
        · refine .inr ⟨j, r1, r2, r3, r4, r5, .inr ?_⟩
          rcases r6 with rfl | r6
          · simp only [Nat.add_sub_cancel]
            rw [hx]
            omega
          · exact r6

def nearB (es : List Ent) (a : Int) (j : Nat) : Bool :=
  ((decide (a ≤ (es.getD j default).Angle)) && (((j : Int) == 0) || (decide ((es.getD ((w64 ((j : Int) - 1)).toNat) default).Angle < a)))) || ((decide ((es.getD j default).Angle ≤ a)) && (((j : Int) == (w64 ((es.length : Int) - 1))) || (decide (a < (es.getD ((w64 ((j : Int) + 1)).toNat) default).Angle))))
theorem near_hi {es : List Ent} {a : Int} {j : Nat} (hl : es.length ≤ 1000) (hj : j < es.length) (h : a ≤ (es.getD j default).Angle) (h' : 0 < j → (es.getD (j - 1) default).Angle < a) : nearB es a j = true := by
  unfold nearB
  rw [dec_t h]
  by_cases h0 : j = 0
  · subst h0
    simp
  · rw [w64_of (n := (j : Int) - 1) (by omega) (by omega), show ((j : Int) - 1).toNat = j - 1 by omega, dec_t (h' (by omega))]
    simp
theorem near_lo {es : List Ent} {a : Int} {j : Nat} (hl : es.length ≤ 1000) (hj : j < es.length) (h : (es.getD j default).Angle ≤ a) (h' : j + 1 < es.length → a < (es.getD (j + 1) default).Angle) : nearB es a j = true := by
  unfold nearB
  rw [dec_t h]
  by_cases h0 : j + 1 = es.length
  · rw [w64_of (n := (es.length : Int) - 1) (by omega) (by omega), show ((j : Int) == (es.length : Int) - 1) = true by simp; omega]
    simp
  · rw [w64_of (n := (j : Int) + 1) (by omega) (by omega), show ((j : Int) + 1).toNat = j + 1 by omega, dec_t (h' (by omega))]
    simp

theorem div60 {p q D : Int} (hp : 1 ≤ p) (hq : 1 ≤ q) (hD : p + q = D) (h5 : D ≤ 5) : ∃ c, 60 = c * D ∧ 1 ≤ c := by
  have : D = 2 ∨ D = 3 ∨ D = 4 ∨ D = 5 := by omega
  rcases this with rfl | rfl | rfl | rfl
  · exact ⟨30, by decide, by decide⟩
  · exact ⟨20, by decide, by decide⟩
  · exact ⟨15, by decide, by decide⟩
  · exact ⟨12, by decide, by decide⟩

/-- A multiple of 30. -/
theorem EntG.m30 {last : Int} {x : Ent} (h : entOK last x = true) : ∃ c, x.Angle = 30 * c := by
  unfold entOK sp_flat_rightAngle at h
  simp only [Bool.and_eq_true, decide_eq_true_eq] at h
  obtain ⟨⟨⟨⟨⟨h1, h2⟩, h3⟩, h4⟩, h5⟩, h6⟩ := h
  have h7 : x.Angle.tmod 30 = 0 := by simpa using h2
  obtain ⟨c, hc⟩ := Int.dvd_of_tmod_eq_zero h7
  exact ⟨c, hc⟩
theorem ents_m30 : ∀ (l : List Ent) (last : Int), entsOK last l = true → ∀ j, j < l.length → ∃ c, (l.getD j default).Angle = 30 * c := by
  intro l
  induction l with
  | nil => intro last _ j h; exact absurd h (by simp)
  | cons x l ih =>
    intro last h j hj
    cases j with
    | zero =>
      unfold entsOK at h
      rw [Bool.and_eq_true] at h
      exact EntG.m30 h.1
    | succ j =>
      obtain ⟨g, h1, h2⟩ := entsOK_cons h
      simpa using ih x.Angle h2 j (by simpa using hj)

/-- The ticks between two entries. -/
theorem itp_tick {y x : Ent} (hy : EntG y) (hx : EntG x) {a cy cx ca : Int} (my : y.Angle = 30 * cy) (mx : x.Angle = 30 * cx) (ma : a = 30 * ca) (h1 : y.Angle < a) (h2 : a < x.Angle) :
    ∃ n, sp_flat_Ticks (lowN (itpN y x a) (itpD y x)) (lowD (itpN y x a) (itpD y x)) = (n, 0) ∧ 0 ≤ n ∧ ((tickOf y ≤ n ∧ n ≤ tickOf x) ∨ (tickOf x ≤ n ∧ n ≤ tickOf y)) := by
  obtain ⟨kx, kx1, kx2, dx1, dx2, nx, nkx⟩ := hx.d12
  obtain ⟨ky, ky1, ky2, dy1, dy2, ny, nky⟩ := hy.d12
  have nx0 := hx.n1
  have ny0 := hy.n1
  have ax2 := hx.a2
  have ay1 := hy.a1
  obtain ⟨c, hc, hc1⟩ := div60 (p := cx - ca) (q := ca - cy) (D := cx - cy) (by omega) (by omega) (by omega) (by omega)
  have X0 : 0 ≤ x.Num * Int.tdiv 12 x.Den := Int.mul_nonneg nx0 (by omega)
  have Y0 : 0 ≤ y.Num * Int.tdiv 12 y.Den := Int.mul_nonneg ny0 (by omega)
  unfold tickOf
  have eP : itpN y x a = 30 * ((y.Num * Int.tdiv 12 y.Den) * (cx - ca) + (x.Num * Int.tdiv 12 x.Den) * (ca - cy)) := by
    unfold itpN
    rw [mx, my, ma]
    generalize y.Num * Int.tdiv 12 y.Den = Y
    generalize x.Num * Int.tdiv 12 x.Den = X
    grind
  have eD : itpD y x = 360 * (cx - cy) := by
    unfold itpD
    omega
  generalize y.Num * Int.tdiv 12 y.Den = Y at *
  generalize x.Num * Int.tdiv 12 x.Den = X at *
  have b1 := mul_bd (a := Y) (b := cx - ca) (A := 240) (B := 6) (by omega) (by omega) (by omega) (by omega)
  have b2 := mul_bd (a := X) (b := ca - cy) (A := 240) (B := 6) (by omega) (by omega) (by omega) (by omega)
  have c1 : 0 ≤ Y * (cx - ca) := Int.mul_nonneg Y0 (by omega)
  have c2 : 0 ≤ X * (ca - cy) := Int.mul_nonneg X0 (by omega)
  generalize hS : Y * (cx - ca) + X * (ca - cy) = S at *
  have hd : 1 ≤ itpD y x := by omega
  have hv := low_val (n := itpN y x a) (d := itpD y x) hd
  have hp := low_pos (n := itpN y x a) (d := itpD y x) hd
  have hle := low_le (n := itpN y x a) (d := itpD y x) hd
  refine ⟨c * S, ?_, Int.mul_nonneg (by omega) (by omega), ?_⟩
  · refine ticks_val ?_ ?_
    · rw [valid_iff]
      generalize itpN y x a = P at *
      generalize itpD y x = Q at *
      omega
    · generalize lowN (itpN y x a) (itpD y x) = ln at *
      generalize lowD (itpN y x a) (itpD y x) = ld at *
      rw [eP, eD] at hv
      have hD0 : (cx - cy) ≠ 0 := by omega
      refine Int.eq_of_mul_eq_mul_left hD0 ?_
      have : 360 * ((cx - cy) * (ln * 720)) = 360 * ((cx - cy) * (c * S * ld)) := by
        calc 360 * ((cx - cy) * (ln * 720)) = ln * (360 * (cx - cy)) * 720 := by ac_rfl
          _ = 30 * S * ld * 720 := by rw [hv]
          _ = 360 * (60 * (S * ld)) := by grind
          _ = 360 * (c * (cx - cy) * (S * ld)) := by rw [← hc]
          _ = 360 * ((cx - cy) * (c * S * ld)) := by ac_rfl
      omega
  · have t1 : c * S = c * (Y * (cx - ca)) + c * (X * (ca - cy)) := by rw [← hS, Int.mul_add]
    have hY : 60 * Y = c * (Y * (cx - ca)) + c * (Y * (ca - cy)) := by
      rw [hc]
      have : cx - cy = (cx - ca) + (ca - cy) := by omega
      rw [this]
      grind
    have hX : 60 * X = c * (X * (cx - ca)) + c * (X * (ca - cy)) := by
      rw [hc]
      have : cx - cy = (cx - ca) + (ca - cy) := by omega
      rw [this]
      grind
    rcases Int.le_total Y X with h | h
    · left
      have m1 : Y * (ca - cy) ≤ X * (ca - cy) := Int.mul_le_mul_of_nonneg_right h (by omega)
      have m2 : Y * (cx - ca) ≤ X * (cx - ca) := Int.mul_le_mul_of_nonneg_right h (by omega)
      have m3 := Int.mul_le_mul_of_nonneg_left m1 (show 0 ≤ c by omega)
      have m4 := Int.mul_le_mul_of_nonneg_left m2 (show 0 ≤ c by omega)
      omega
    · right
      have m1 : X * (ca - cy) ≤ Y * (ca - cy) := Int.mul_le_mul_of_nonneg_right h (by omega)
      have m2 : X * (cx - ca) ≤ Y * (cx - ca) := Int.mul_le_mul_of_nonneg_right h (by omega)
      have m3 := Int.mul_le_mul_of_nonneg_left m1 (show 0 ≤ c by omega)
      have m4 := Int.mul_le_mul_of_nonneg_left m2 (show 0 ≤ c by omega)
      omega

/-- A deduction in ticks. -/
theorem ded_ticks {es : List Ent} {a ca : Int} (hl : es.length ≤ 1000) (hok : entsOK 0 es = true) (ma : a = 30 * ca) {N D : Int} (h : ded none es a = some (N, D)) :
    ∃ n, sp_flat_Ticks N D = (n, 0) ∧ 0 ≤ n ∧ (∀ j, j < es.length → (es.getD j default).Angle = a → tickOf (es.getD j default) = n) ∧
      ∃ j1 j2, j1 < es.length ∧ j2 < es.length ∧ nearB es a j1 = true ∧ nearB es a j2 = true ∧ tickOf (es.getD j1 default) ≤ n ∧ n ≤ tickOf (es.getD j2 default) := by
  have hall := ents_all es 0 hok
  have hasc := ents_asc es 0 hok
  rcases ded_where es a N D es.length 0 (by omega) hok h with ⟨j, h1, h2, rfl, rfl⟩ | ⟨j, h0, h1, h2, rfl, rfl, h3⟩
  · have hg := (hall j h1).1
    refine ⟨tickOf (es.getD j default), ?_, ?_, ?_, j, j, h1, h1, ?_, ?_, Int.le_refl _, Int.le_refl _⟩
    · have hb := hg.big
      have hd : 1 ≤ (es.getD j default).Den := hb.2.2.1
      have hv := low_val (n := (es.getD j default).Num) hd
      have hp := low_pos (n := (es.getD j default).Num) hd
      have hle := low_le (n := (es.getD j default).Num) hd
      have hvd := valid_iff.1 hg.valid
      refine ticks_val ?_ ?_
      · rw [valid_iff]
        omega
      · have hk := hg.d12.1
        unfold tickOf
        generalize (es.getD j default).Num = xn at *
        generalize (es.getD j default).Den = xd at *
        generalize Int.tdiv 12 xd = c at *
        generalize lowN xn xd = ln at *
        generalize lowD xn xd = ld at *
        refine Int.eq_of_mul_eq_mul_left (show xd ≠ 0 by omega) ?_
        calc xd * (ln * 720) = (ln * xd) * 720 := by ac_rfl
          _ = xn * ld * 720 := by rw [hv]
          _ = 60 * (xn * (12 * ld)) := by grind
          _ = 60 * (xn * ((xd * c) * ld)) := by rw [hk]
          _ = xd * (60 * (xn * c) * ld) := by ac_rfl
    · have := hg.n1
      have := hg.d12.2.1
      unfold tickOf
      have : 0 ≤ (es.getD j default).Num * Int.tdiv 12 (es.getD j default).Den := Int.mul_nonneg hg.n1 (by omega)
      omega
    · intro k hk hka
      have : k = j := by
        rcases Nat.lt_trichotomy k j with hlt | heq | hgt
        · have := hasc k j hlt h1
          omega
        · exact heq
        · have := hasc j k hgt hk
          omega
      rw [this]
    · exact near_hi hl h1 (by omega) (fun h0 => by have := hasc (j - 1) j (by omega) h1; omega)
    · exact near_hi hl h1 (by omega) (fun h0 => by have := hasc (j - 1) j (by omega) h1; omega)
  · have h3' : (es.getD (j - 1) default).Angle < a := by
      rcases h3 with rfl | h3
      · omega
      · exact h3
    obtain ⟨cy, my⟩ := ents_m30 es 0 hok (j - 1) (by omega)
    obtain ⟨cx, mx⟩ := ents_m30 es 0 hok j h1
    obtain ⟨n, e1, e2, e3⟩ := itp_tick (hall (j - 1) (by omega)).1 (hall j h1).1 my mx ma h3' h2
    have n1 := near_lo (es := es) (a := a) (j := j - 1) hl (by omega) (by omega) (fun _ => by rw [show j - 1 + 1 = j by omega]; exact h2)
    have n2 := near_hi (es := es) (a := a) (j := j) hl h1 (by omega) (fun _ => h3')
    refine ⟨n, e1, e2, fun k hk hka => ?_, ?_⟩
    · exfalso
      rcases Nat.lt_or_ge k j with hlt | hge
      · rcases Nat.lt_or_ge k (j - 1) with hlt2 | hge2
        · have := hasc k (j - 1) hlt2 (by omega)
          omega
        · have : k = j - 1 := by omega
          subst this
          omega
      · rcases Nat.lt_or_ge j k with hlt2 | hge2
        · have := hasc j k hlt2 hk
          omega
        · have : k = j := by omega
          subst this
          omega
    · rcases e3 with ⟨a1, a2⟩ | ⟨a1, a2⟩
      · exact ⟨j - 1, j, by omega, h1, n1, n2, a1, a2⟩
      · exact ⟨j, j - 1, h1, by omega, n2, n1, a1, a2⟩

theorem loop_fd (F : Nat) (Q : Bool → Prop) (a n : Int) (es : List Ent) (hl : es.length ≤ 1000) (hE : ∀ j, j < es.length → EntG (es.getD j default)) (H1 : ∀ j, j < es.length → (es.getD j default).Angle = a → tickOf (es.getD j default) = n) (m : ByteArray) (g d : Int)
    (hfin : ∀ least most : Int, (∀ j, j < es.length → nearB es a j = true → least ≤ tickOf (es.getD j default) ∧ tickOf (es.getD j default) ≤ most) → Q (((decide (least ≤ n)) && (decide (n ≤ most))) && sp_law03_known)) :
    ∀ (k i : Nat) (least most : Int), i ≤ es.length → es.length < k + i → (∀ j, j < i → nearB es a j = true → least ≤ tickOf (es.getD j default) ∧ tickOf (es.getD j default) ≤ most) →
    w_law03_FlatDeductions_0 F (fun t1 t4 t7 t9 t10 t11 c2_0 c2_1 c2_2 c2_3 => g_law03_FlatDeductions_c0_0 Q t1 t4 t7 t9 t10 t11 c2_0 c2_1 c2_2 c2_3) (fun t1 t4 t7 t9 t10 t11 c2_0 c2_1 c2_2 c2_3 => g_law03_FlatDeductions_c0_1 Q t1 t4 t7 t9 t10 t11 c2_0 c2_1 c2_2 c2_3) k a false n least most (i : Int) m g d es := by
  intro k
  induction k with
  | zero => intro i least most hi hk; omega
  | succ k ih =>
    intro i least most hi hk hinv
    unfold w_law03_FlatDeductions_0 g_law03_FlatDeductions_s0
    by_cases h : i < es.length
    · rw [dec_t (show (i : Int) < es.length by omega)]
      have hb : 0 ≤ (i : Int) ∧ (i : Int) < es.length := ⟨by omega, by omega⟩
      have hg := hE i h
      have ht := hg.tick
      have h1 := H1 i h
      refine ⟨hb, hb, pre_Ticks _ _, fun _ => hb, ?_⟩
      rw [Int.toNat_natCast]
      rw [ht]
      have e1 : (((tickOf (es.getD i default), (0 : Int)).2 != 0) || (((es.getD i default).Angle == a) && ((tickOf (es.getD i default), (0 : Int)).1 != n))) = false := by
        by_cases hA : (es.getD i default).Angle = a
        · rw [h1 hA]
          simp
        · have : ((es.getD i default).Angle == a) = false := by simpa using hA
          rw [this]
          rfl
      rw [e1]
      refine ⟨⟨hb, fun hc1 hc2 => ?_, fun hc1 => ⟨hb, fun hc2 hc3 => ?_⟩⟩, ?_⟩
      · have h0 : (i : Int) ≠ 0 := by simpa using hc2
        rw [w64_of (by omega) (by omega)]
        omega
      · rw [w64_of (n := (es.length : Int) - 1) (by omega) (by omega)] at hc3
        have h0 : (i : Int) ≠ es.length - 1 := by simpa using hc3
        rw [w64_of (by omega) (by omega)]
        omega
      · have hnear : (((decide (a ≤ (es.getD i default).Angle)) && (((i : Int) == 0) || (decide ((es.getD ((w64 ((i : Int) - 1)).toNat) default).Angle < a)))) || ((decide ((es.getD i default).Angle ≤ a)) && (((i : Int) == (w64 ((es.length : Int) - 1))) || (decide (a < (es.getD ((w64 ((i : Int) + 1)).toNat) default).Angle))))) = nearB es a i := rfl
        rw [hnear]
        generalize ht' : tickOf (es.getD i default) = t at *
        have next : ∀ l' m' : Int, l' ≤ least → most ≤ m' → (nearB es a i = true → l' ≤ t ∧ t ≤ m') →
            w_law03_FlatDeductions_0 F (fun t1 t4 t7 t9 t10 t11 c2_0 c2_1 c2_2 c2_3 => g_law03_FlatDeductions_c0_0 Q t1 t4 t7 t9 t10 t11 c2_0 c2_1 c2_2 c2_3) (fun t1 t4 t7 t9 t10 t11 c2_0 c2_1 c2_2 c2_3 => g_law03_FlatDeductions_c0_1 Q t1 t4 t7 t9 t10 t11 c2_0 c2_1 c2_2 c2_3) k a false n l' m' (w64 ((i : Int) + 1)) m g d es := fun l' m' hl' hm' hn' => by
          rw [w64_succ h (by omega)]
          refine ih (i + 1) l' m' (by omega) (by omega) (fun j hj hjn => ?_)
          by_cases hji : j < i
          · have := hinv j hji hjn
            omega
          · obtain rfl : j = i := by omega
            rw [ht']
            exact hn' hjn
        cases hB : nearB es a i
        · exact next least most (Int.le_refl _) (Int.le_refl _) (fun h => by rw [hB] at h; cases h)
        · by_cases c1 : t < least
          · rw [dec_t c1]
            by_cases c2 : most < t
            · rw [dec_t c2]
              exact next t t (by omega) (by omega) (fun _ => ⟨by omega, by omega⟩)
            · rw [dec_f c2]
              exact next t most (by omega) (by omega) (fun _ => ⟨by omega, by omega⟩)
          · rw [dec_f c1]
            by_cases c2 : most < t
            · rw [dec_t c2]
              exact next least t (by omega) (by omega) (fun _ => ⟨by omega, by omega⟩)
            · rw [dec_f c2]
              exact next least most (by omega) (by omega) (fun _ => ⟨by omega, by omega⟩)
    · rw [dec_f (show ¬ (i : Int) < es.length by omega)]
      have : i = es.length := by omega
      subst this
      exact ⟨fun _ => known_pre, hfin least most hinv⟩

theorem law_deductions (m : ByteArray) (g d : Int) (es : List Ent) (a : Int) : w_law03_FlatDeductions (es.length + 1) m g d es a (fun r => r = true) := by
  unfold w_law03_FlatDeductions g_law03_FlatDeductions_e
  intro r0
  cases h : r0
  · refine ⟨pre_Ded a h, ?_⟩
    have hl := (tab_pre h).2
    unfold sp_flat_Deduction
    cases h2 : (sp_flat_Validate m g d es != 0)
    · have hok := val_zero h2
      cases h3 : sp_flat_rightAngle a
      · exact ⟨fun _ => known_pre, known_true⟩
      · unfold sp_flat_deduction
        cases h4 : ded none es a with
        | none => exact ⟨fun _ => known_pre, known_true⟩
        | some p =>
          obtain ⟨N, D⟩ := p
          have hm : ∃ ca, a = 30 * ca := by
            unfold sp_flat_rightAngle at h3
            simp only [Bool.and_eq_true] at h3
            obtain ⟨c, hc⟩ := Int.dvd_of_tmod_eq_zero (show a.tmod 30 = 0 by simpa using h3.2)
            exact ⟨c, hc⟩
          obtain ⟨ca, ma⟩ := hm
          obtain ⟨n, t1, t2, t3, j1, j2, l1, l2, n1, n2, le1, le2⟩ := ded_ticks hl hok ma h4
          refine ⟨pre_Ticks _ _, ?_⟩
          show cond (((sp_flat_Ticks N D).2 != 0) || decide ((sp_flat_Ticks N D).1 < 0)) (false = true) (n_law03_FlatDeductions_0 (es.length + 1) (fun r => r = true) a false (sp_flat_Ticks N D).1 1099511627776 (-1) 0 m g d es)
          rw [t1]
          have e : (((n, (0 : Int)).2 != 0) || decide ((n, (0 : Int)).1 < 0)) = false := by
            simp
            omega
          rw [e]
          have hE := fun j hj => (ents_all es 0 hok j hj).1
          refine loop_fd _ (fun r => r = true) a n es hl hE t3 m g d (fun least most hlm => ?_) (es.length + 1) 0 _ _ (by omega) (by omega) (fun j hj => by omega)
          have q1 := hlm j1 l1 n1
          have q2 := hlm j2 l2 n2
          rw [dec_t (show least ≤ n by omega), dec_t (show n ≤ most by omega), known_true]
          rfl
    · simp only [cond_true]
      rw [h2]
      exact ⟨fun _ => known_pre, known_true⟩
  · exact ⟨known_pre, known_true⟩
end
end Go.Proofs.Ytohecfbnmmgimaa
