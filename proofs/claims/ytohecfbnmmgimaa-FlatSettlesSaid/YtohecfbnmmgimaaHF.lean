/- Deductions: both inner functions, one Lean function. Conditions: none. -/
import Derived.Test.YtohecfbnmmgimaaGF
namespace Go.Proofs.Ytohecfbnmmgimaa
open Go.Vm Go.RowKit
set_option linter.unusedVariables false
noncomputable section

theorem mul_bd {a b A B : Int} (ha : -A ≤ a) (ha' : a ≤ A) (hb : -B ≤ b) (hb' : b ≤ B) : -(A * B) ≤ a * b ∧ a * b ≤ A * B := by
  have h1 : a.natAbs ≤ A.natAbs := by omega
  have h2 : b.natAbs ≤ B.natAbs := by omega
  have h3 : (a * b).natAbs ≤ (A * B).natAbs := by
    rw [Int.natAbs_mul, Int.natAbs_mul]
    exact Nat.mul_le_mul h1 h2
  have h4 : 0 ≤ A * B := Int.mul_nonneg (by omega) (by omega)
  omega

/-- The value between two entries, in lowest form. -/
def itpN (y x : Ent) (a : Int) : Int := y.Num * Int.tdiv 12 y.Den * (x.Angle - a) + x.Num * Int.tdiv 12 x.Den * (a - y.Angle)
def itpD (y x : Ent) : Int := 12 * (x.Angle - y.Angle)
def ded : Option Ent → List Ent → Int → Option (Int × Int)
  | _, [], _ => none
  | p, x :: l, a => if x.Angle = a then some (lowN x.Num x.Den, lowD x.Num x.Den) else if a < x.Angle then (match p with
    | none => none
    | some y => some (lowN (itpN y x a) (itpD y x), lowD (itpN y x a) (itpD y x))) else ded (some x) l a
def dedPre (es : List Ent) (a : Int) : Prop := entsOK 0 es = true ∧ es.length ≤ 1000 ∧ 30 ≤ a ∧ a ≤ 180
def pre_flat_deduction (m : ByteArray) (g d : Int) (es : List Ent) (a : Int) : Prop := dedPre es a
def sp_flat_deduction (m : ByteArray) (g d : Int) (es : List Ent) (a : Int) : Int × Int × Bool := match ded none es a with
  | some (n, d) => (n, d, true)
  | none => (0, 0, false)
def pre_ref03_deduction (m : ByteArray) (g d : Int) (es : List Ent) (a : Int) : Prop := dedPre es a
def sp_ref03_deduction (m : ByteArray) (g d : Int) (es : List Ent) (a : Int) : Int × Int × Int := match ded none es a with
  | some (n, d) => (n, d, 0)
  | none => (0, 0, 5)

structure EntG (x : Ent) : Prop where
  a1 : 30 ≤ x.Angle
  a2 : x.Angle ≤ 180
  den : x.Den = 1 ∨ x.Den = 2 ∨ x.Den = 3 ∨ x.Den = 4 ∨ x.Den = 6 ∨ x.Den = 12
  n1 : 0 ≤ x.Num
  n2 : x.Num ≤ 20 * x.Den
theorem entOK_spec {last : Int} {x : Ent} (h : entOK last x = true) : EntG x ∧ last < x.Angle := by
  unfold entOK sp_flat_rightAngle at h
  simp only [Bool.and_eq_true, decide_eq_true_eq] at h
  obtain ⟨⟨⟨⟨⟨⟨h1, h2⟩, h3⟩, h4⟩, h5⟩, h6⟩, h7⟩ := h
  exact ⟨⟨h1, h2, (rightDen_iff _).1 h5, h6, h7⟩, h4⟩
theorem entsOK_cons {last : Int} {x : Ent} {l : List Ent} (h : entsOK last (x :: l) = true) : EntG x ∧ last < x.Angle ∧ entsOK x.Angle l = true := by
  unfold entsOK at h
  rw [Bool.and_eq_true] at h
  obtain ⟨h1, h2⟩ := entOK_spec h.1
  exact ⟨h1, h2, h.2⟩
theorem EntG.big {x : Ent} (h : EntG x) : bigOK x.Num x.Den := by
  have := h.n1; have := h.n2; have := h.den
  exact ⟨by omega, by omega, by omega, by omega⟩
theorem EntG.d12 {x : Ent} (h : EntG x) : x.Den * Int.tdiv 12 x.Den = 12 ∧ 1 ≤ Int.tdiv 12 x.Den ∧ Int.tdiv 12 x.Den ≤ 12 ∧ 1 ≤ x.Den ∧ x.Den ≤ 12 ∧ x.Num ≤ 240 ∧ x.Num * Int.tdiv 12 x.Den ≤ 240 := by
  have h1 := h.n1
  have h2 := h.n2
  rcases h.den with e | e | e | e | e | e <;> rw [e] at h2 ⊢ <;> refine ⟨by decide, by decide, by decide, by decide, by decide, by omega, ?_⟩
  · show x.Num * 12 ≤ 240; omega
  · show x.Num * 6 ≤ 240; omega
  · show x.Num * 4 ≤ 240; omega
  · show x.Num * 3 ≤ 240; omega
  · show x.Num * 2 ≤ 240; omega
  · show x.Num * 1 ≤ 240; omega

/-- The program's way: a + (b - a) * (angle - y) / (x - y). -/
theorem itp_ok {y x : Ent} (hy : EntG y) (hx : EntG x) (hyx : y.Angle < x.Angle) {a : Int} (ha : y.Angle < a) (hax : a < x.Angle) (R : Int → Int → Prop) (hR : R (lowN (itpN y x a) (itpD y x)) (lowD (itpN y x a) (itpD y x))) :
    (let r3 := (sp_flat_rational_plus x.Num x.Den (w64 (0 - y.Num)) y.Den); ((pre_flat_rational_plus x.Num x.Den (w64 (0 - y.Num)) y.Den) ∧ (let r4 := (sp_flat_rational_times r3.1 r3.2 (w64 (a - y.Angle)) (w64 (x.Angle - y.Angle))); ((pre_flat_rational_times r3.1 r3.2 (w64 (a - y.Angle)) (w64 (x.Angle - y.Angle))) ∧ (let r5 := (sp_flat_rational_plus y.Num y.Den r4.1 r4.2); ((pre_flat_rational_plus y.Num y.Den r4.1 r4.2) ∧ R r5.1 r5.2)))))) := by
  obtain ⟨kx, kx1, kx2, dx1, dx2, nx, nkx⟩ := hx.d12
  obtain ⟨ky, ky1, ky2, dy1, dy2, ny, nky⟩ := hy.d12
  have nx0 := hx.n1
  have ny0 := hy.n1
  have ax1 := hx.a1
  have ax2 := hx.a2
  have ay1 := hy.a1
  have ay2 := hy.a2
  unfold itpN itpD at hR
  unfold sp_flat_rational_plus pre_flat_rational_plus sp_flat_rational_times pre_flat_rational_times pre_flat_rational_reduced sp_flat_rational_reduced
  simp only
  rw [w64_of (n := 0 - y.Num) (by omega) (by omega), w64_of (n := a - y.Angle) (by omega) (by omega), w64_of (n := x.Angle - y.Angle) (by omega) (by omega)]
  generalize hkx : Int.tdiv 12 x.Den = cx at *
  generalize hky : Int.tdiv 12 y.Den = cy at *
  generalize hxn : x.Num = xn at *
  generalize hxd : x.Den = xd at *
  generalize hyn : y.Num = yn at *
  generalize hyd : y.Den = yd at *
  generalize hxa : x.Angle = xa at *
  generalize hya : y.Angle = ya at *
  have b1 := mul_bd (a := xn) (b := yd) (A := 240) (B := 12) (by omega) (by omega) (by omega) (by omega)
  have b2 := mul_bd (a := 0 - yn) (b := xd) (A := 240) (B := 12) (by omega) (by omega) (by omega) (by omega)
  have b3 := mul_bd (a := xd) (b := yd) (A := 12) (B := 12) (by omega) (by omega) (by omega) (by omega)
  have b4 : 1 ≤ xd * yd := Int.mul_pos (by omega) (by omega)
  rw [w64_of (n := xn * yd) (by omega) (by omega), w64_of (n := (0 - yn) * xd) (by omega) (by omega), w64_of (n := xd * yd) (by omega) (by omega), w64_of (n := xn * yd + (0 - yn) * xd) (by omega) (by omega)]
  refine ⟨⟨by omega, by omega, by omega, by omega⟩, ?_⟩
  have v1 := low_val (n := xn * yd + (0 - yn) * xd) (d := xd * yd) b4
  have p1 := low_pos (n := xn * yd + (0 - yn) * xd) (d := xd * yd) b4
  have l1 := low_le (n := xn * yd + (0 - yn) * xd) (d := xd * yd) b4
  have hv : xn * yd + (0 - yn) * xd = xn * yd - yn * xd := by rw [Int.sub_mul, Int.zero_mul]; omega
  generalize lowN (xn * yd + (0 - yn) * xd) (xd * yd) = r31 at *
  generalize lowD (xn * yd + (0 - yn) * xd) (xd * yd) = r32 at *
  have b5 := mul_bd (a := r31) (b := a - ya) (A := 5760) (B := 180) (by omega) (by omega) (by omega) (by omega)
  have b6 := mul_bd (a := r32) (b := xa - ya) (A := 144) (B := 180) (by omega) (by omega) (by omega) (by omega)
  have b7 : 1 ≤ r32 * (xa - ya) := Int.mul_pos (by omega) (by omega)
  rw [w64_of (n := r31 * (a - ya)) (by omega) (by omega), w64_of (n := r32 * (xa - ya)) (by omega) (by omega)]
  refine ⟨⟨by omega, by omega, by omega, by omega⟩, ?_⟩
  have v2 := low_val (n := r31 * (a - ya)) (d := r32 * (xa - ya)) b7
  have p2 := low_pos (n := r31 * (a - ya)) (d := r32 * (xa - ya)) b7
  have l2 := low_le (n := r31 * (a - ya)) (d := r32 * (xa - ya)) b7
  generalize lowN (r31 * (a - ya)) (r32 * (xa - ya)) = r41 at *
  generalize lowD (r31 * (a - ya)) (r32 * (xa - ya)) = r42 at *
  have b8 := mul_bd (a := yn) (b := r42) (A := 240) (B := 25920) (by omega) (by omega) (by omega) (by omega)
  have b9 := mul_bd (a := r41) (b := yd) (A := 1036800) (B := 12) (by omega) (by omega) (by omega) (by omega)
  have b10 := mul_bd (a := yd) (b := r42) (A := 12) (B := 25920) (by omega) (by omega) (by omega) (by omega)
  have b11 : 1 ≤ yd * r42 := Int.mul_pos (by omega) (by omega)
  rw [w64_of (n := yn * r42) (by omega) (by omega), w64_of (n := r41 * yd) (by omega) (by omega), w64_of (n := yd * r42) (by omega) (by omega), w64_of (n := yn * r42 + r41 * yd) (by omega) (by omega)]
  refine ⟨⟨by omega, by omega, by omega, by omega⟩, ?_⟩
  rw [hv] at v1
  have key : (yn * r42 + r41 * yd) * (12 * (xa - ya)) = (yn * cy * (xa - a) + xn * cx * (a - ya)) * (yd * r42) := by
    have hr32 : r32 ≠ 0 := by omega
    have h3 : r32 * (r41 * (xa - ya) * (xd * yd)) = r32 * ((xn * yd - yn * xd) * (a - ya) * r42) := by
      grind
    have h4 := Int.eq_of_mul_eq_mul_left hr32 h3
    grind
  obtain ⟨e1, e2⟩ := low_eq (n := yn * r42 + r41 * yd) (d := yd * r42) (n' := yn * cy * (xa - a) + xn * cx * (a - ya)) (d' := 12 * (xa - ya)) b11 (by omega) key
  rw [e1, e2]
  exact hR

def prevOf (es : List Ent) (i : Nat) : Option Ent := if i = 0 then none else some (es.getD (i - 1) default)

theorem loop_ded (F : Nat) (Q : Int → Int → Bool → Prop) (a : Int) (es : List Ent) (hl : es.length ≤ 1000) (m : ByteArray) (g d : Int) :
    ∀ (n i : Nat), i ≤ es.length → es.length < n + i → entsOK (lastOf es i) (es.drop i) = true → (∀ y, prevOf es i = some y → EntG y ∧ y.Angle < a) →
    (∀ r : Int × Int × Bool, r = (match ded (prevOf es i) (es.drop i) a with | some (n, d) => (n, d, true) | none => (0, 0, false)) → Q r.1 r.2.1 r.2.2) →
    w_flat_deduction_0 F (fun t1 t5 t13 t14 t15 c2_0 c2_1 c2_2 c2_3 c4_0 c4_1 => g_flat_deduction_c0_0 Q t1 t5 t13 t14 t15 c2_0 c2_1 c2_2 c2_3 c4_0 c4_1) (fun t1 t5 t13 t14 t15 c2_0 c2_1 c2_2 c2_3 c4_0 c4_1 => g_flat_deduction_c0_1 Q t1 t5 t13 t14 t15 c2_0 c2_1 c2_2 c2_3 c4_0 c4_1) n a false es (es.length : Int) (i : Int) m g d es 0 0 := by
  intro n
  induction n with
  | zero => intro i hi hn; omega
  | succ n ih =>
    intro i hi hn hok hp hQ
    unfold w_flat_deduction_0 g_flat_deduction_s0
    by_cases h : i < es.length
    · rw [dec_t (show (i : Int) < es.length by omega)]
      refine ⟨⟨by omega, by omega⟩, ?_⟩
      rw [drop_getD es i h] at hok hQ
      rw [Int.toNat_natCast]
      generalize hx : es.getD i default = x at hok hQ ⊢
      obtain ⟨gx, hlx, hrest⟩ := entsOK_cons hok
      unfold ded at hQ
      by_cases h1 : x.Angle = a
      · rw [show (x.Angle == a) = true by simpa using h1]
        rw [if_pos h1] at hQ
        exact ⟨gx.big, hQ _ rfl⟩
      · rw [show (x.Angle == a) = false by simpa using h1]
        rw [if_neg h1] at hQ
        by_cases h2 : a < x.Angle
        · rw [if_pos h2] at hQ
          rw [dec_t h2]
          by_cases h3 : i = 0
          · subst h3
            exact hQ _ rfl
          · rw [dec_t (show 0 < (i : Int) by omega), w64_of (n := (i : Int) - 1) (by omega) (by omega)]
            have e3 : ((i : Int) - 1).toNat = i - 1 := by omega
            rw [e3]
            have e4 : prevOf es i = some (es.getD (i - 1) default) := by unfold prevOf; rw [if_neg h3]
            obtain ⟨gy, hya⟩ := hp _ e4
            rw [e4] at hQ
            refine ⟨⟨by omega, by omega⟩, ?_⟩
            have e5 : lastOf es i = (es.getD (i - 1) default).Angle := by unfold lastOf; rw [if_neg h3]
            generalize es.getD (i - 1) default = y at *
            refine itp_ok gy gx (by omega) hya h2 (fun p q => Q p q true) (hQ _ rfl)
        · rw [if_neg h2] at hQ
          rw [dec_f h2]
          show w_flat_deduction_0 F _ _ n a false es _ (w64 ((i : Int) + 1)) m g d es 0 0
          rw [w64_succ h (by omega)]
          have e6 : prevOf es (i + 1) = some x := by unfold prevOf; rw [if_neg (by omega)]; simp only [Nat.add_sub_cancel]; rw [hx]
          have e7 : lastOf es (i + 1) = x.Angle := by unfold lastOf; rw [if_neg (by omega)]; simp only [Nat.add_sub_cancel]; rw [hx]
          refine ih (i + 1) (by omega) (by omega) (by rw [e7]; exact hrest) (fun y hy => ?_) (fun r hr => hQ r (by rw [e6] at hr; exact hr))
          rw [e6] at hy
          cases hy
          exact ⟨gx, by omega⟩
    · rw [dec_f (show ¬ (i : Int) < es.length by omega)]
      rw [List.drop_of_length_le (by omega)] at hQ
      exact hQ _ rfl
theorem ok_flat_deduction (a0_Material : ByteArray) (a0_Gauge : Int) (a0_Die : Int) (a0_Entries : List Ent) (a1 : Int) (h : pre_flat_deduction a0_Material a0_Gauge a0_Die a0_Entries a1) : ∃ F, ∀ Q : Int → Int → Bool → Prop, Q ((sp_flat_deduction a0_Material a0_Gauge a0_Die a0_Entries a1).1) ((sp_flat_deduction a0_Material a0_Gauge a0_Die a0_Entries a1).2.1) ((sp_flat_deduction a0_Material a0_Gauge a0_Die a0_Entries a1).2.2) → w_flat_deduction F a0_Material a0_Gauge a0_Die a0_Entries a1 Q := by
  refine ⟨a0_Entries.length + 1, fun Q hQ => ?_⟩
  obtain ⟨h1, h2, h3, h4⟩ := h
  refine loop_ded _ Q a1 a0_Entries h2 _ _ _ (a0_Entries.length + 1) 0 (by omega) (by omega) h1 (fun y hy => by cases hy) (fun r hr => ?_)
  subst hr
  exact hQ

/-! ### The reference's -/
/-- The last entry at or below the angle, the first at or above it: where they are. -/
def loOf (a : Int) : List Ent → Int → Int → Int
  | [], _, lo => lo
  | x :: l, i, lo => loOf a l (i + 1) (if x.Angle ≤ a then i else lo)
def hiOf (a : Int) : List Ent → Int → Int → Int
  | [], _, hi => hi
  | x :: l, i, hi => hiOf a l (i + 1) (if a ≤ x.Angle ∧ hi < 0 then i else hi)

theorem loop_rded (F : Nat) (x0 : Int → Int → Int → Int → ByteArray → Int → Int → List Ent → Int → Int → Prop) (a : Int) (es : List Ent) (hl : es.length ≤ 1000) (m : ByteArray) (g d : Int) (p q : Int) :
    ∀ (n i : Nat) (lo hi : Int), i ≤ es.length → es.length < n + i → x0 a (loOf a (es.drop i) i lo) (hiOf a (es.drop i) i hi) es.length m g d es p q →
    w_ref03_deduction_0 F x0 n a lo hi (i : Int) m g d es p q := by
  intro n
  induction n with
  | zero => intro i lo hi h1 h2; omega
  | succ n ih =>
    intro i lo hi h1 h2 hx
    unfold w_ref03_deduction_0 g_ref03_deduction_s0
    by_cases h : i < es.length
    · rw [dec_t (show (i : Int) < es.length by omega)]
      refine ⟨⟨by omega, by omega⟩, ?_⟩
      rw [drop_getD es i h] at hx
      rw [Int.toNat_natCast]
      generalize hxe : es.getD i default = x at hx ⊢
      unfold loOf hiOf at hx
      rw [w64_succ h (by omega)]
      have e : ((i : Int) + 1) = ((i + 1 : Nat) : Int) := rfl
      rw [e] at hx
      by_cases c1 : x.Angle ≤ a
      · rw [if_pos c1] at hx
        rw [dec_t c1]
        refine ⟨⟨by omega, by omega⟩, ?_⟩
        by_cases c2 : a ≤ x.Angle
        · rw [dec_t c2]
          by_cases c3 : hi < 0
          · rw [if_pos ⟨c2, c3⟩] at hx
            rw [dec_t c3]
            exact ih (i + 1) _ _ (by omega) (by omega) hx
          · rw [if_neg (fun q => c3 q.2)] at hx
            rw [dec_f c3]
            exact ih (i + 1) _ _ (by omega) (by omega) hx
        · rw [if_neg (fun q => c2 q.1)] at hx
          rw [dec_f c2]
          exact ih (i + 1) _ _ (by omega) (by omega) hx
      · rw [if_neg c1] at hx
        rw [dec_f c1]
        refine ⟨⟨by omega, by omega⟩, ?_⟩
        by_cases c2 : a ≤ x.Angle
        · rw [dec_t c2]
          by_cases c3 : hi < 0
          · rw [if_pos ⟨c2, c3⟩] at hx
            rw [dec_t c3]
            exact ih (i + 1) _ _ (by omega) (by omega) hx
          · rw [if_neg (fun q => c3 q.2)] at hx
            rw [dec_f c3]
            exact ih (i + 1) _ _ (by omega) (by omega) hx
        · rw [if_neg (fun q => c2 q.1)] at hx
          rw [dec_f c2]
          exact ih (i + 1) _ _ (by omega) (by omega) hx
    · rw [dec_f (show ¬ (i : Int) < es.length by omega)]
      rw [List.drop_of_length_le (by omega)] at hx
      have : (i : Int) = es.length := by omega
      rw [this]
      exact hx

/-- Behind the angle nothing more is found. -/
theorem lo_above (a : Int) : ∀ (l : List Ent) (last i lo : Int), entsOK last l = true → a ≤ last → loOf a l i lo = lo := by
  intro l
  induction l with
  | nil => intro last i lo _ _; rfl
  | cons x l ih =>
    intro last i lo h ha
    obtain ⟨gx, h1, h2⟩ := entsOK_cons h
    unfold loOf
    rw [if_neg (by omega)]
    exact ih x.Angle _ _ h2 (by omega)
theorem hi_done (a : Int) : ∀ (l : List Ent) (i hi : Int), 0 ≤ hi → hiOf a l i hi = hi := by
  intro l
  induction l with
  | nil => intro i hi _; rfl
  | cons x l ih =>
    intro i hi h
    unfold hiOf
    rw [if_neg (by omega)]
    exact ih _ _ h

/-- What the two places say of the deduction. -/
theorem rded_ok (Q : Int → Int → Int → Prop) (a : Int) (es : List Ent) (hl : es.length ≤ 1000) (m : ByteArray) (g d : Int) (t8 : Int) (p q : Int) (ha1 : 30 ≤ a) (ha2 : a ≤ 180) : ∀ (k i : Nat), es.length = k + i → entsOK (lastOf es i) (es.drop i) = true → (∀ y, prevOf es i = some y → EntG y ∧ y.Angle < a) →
    (∀ r : Int × Int × Int, r = (match ded (prevOf es i) (es.drop i) a with | some (n, d) => (n, d, 0) | none => (0, 0, 5)) → Q r.1 r.2.1 r.2.2) →
    g_ref03_deduction_c0_0 Q a (loOf a (es.drop i) i (i - 1)) (hiOf a (es.drop i) i (-1)) t8 m g d es p q := by
  intro k
  induction k with
  | zero =>
    intro i hk hok hp hQ
    rw [List.drop_of_length_le (by omega)] at hQ ⊢
    unfold g_ref03_deduction_c0_0 loOf hiOf
    have e : (decide ((i : Int) - 1 < 0) || decide ((-1 : Int) < 0)) = true := by simp
    rw [e]
    exact hQ _ rfl
  | succ k ih =>
    intro i hk hok hp hQ
    have h : i < es.length := by omega
    have hd := drop_getD es i h
    rw [hd] at hok hQ ⊢
    generalize hx : es.getD i default = x at hok hQ hd ⊢
    obtain ⟨gx, hlx, hrest⟩ := entsOK_cons hok
    unfold ded at hQ
    unfold loOf hiOf
    by_cases h1 : x.Angle = a
    · rw [if_pos h1] at hQ
      rw [if_pos (show x.Angle ≤ a by omega), if_pos (show a ≤ x.Angle ∧ (-1 : Int) < 0 by omega), lo_above a _ x.Angle _ _ hrest (by omega), hi_done a _ _ _ (by omega)]
      unfold g_ref03_deduction_c0_0
      have e : (decide ((i : Int) < 0) || decide ((i : Int) < 0)) = false := by simp
      rw [e]
      have e2 : ((i : Int) == (i : Int)) = true := by simp
      simp only [cond_false, e2, cond_true, Int.toNat_natCast, hx]
      exact ⟨⟨by omega, by omega⟩, ⟨by omega, by omega⟩, gx.big, hQ _ rfl⟩
    · rw [if_neg h1] at hQ
      by_cases h2 : a < x.Angle
      · rw [if_pos h2] at hQ
        rw [if_neg (show ¬ x.Angle ≤ a by omega), if_pos (show a ≤ x.Angle ∧ (-1 : Int) < 0 by omega), lo_above a _ x.Angle _ _ hrest (by omega), hi_done a _ _ _ (by omega)]
        unfold g_ref03_deduction_c0_0
        by_cases h3 : i = 0
        · subst h3
          have e : (decide (((0 : Nat) : Int) - 1 < 0) || decide (((0 : Nat) : Int) < 0)) = true := by decide
          rw [e]
          exact hQ _ rfl
        · have e : (decide ((i : Int) - 1 < 0) || decide ((i : Int) < 0)) = false := by simp; omega
          rw [e]
          have e2 : ((i : Int) - 1 == (i : Int)) = false := by simp; omega
          have e3 : ((i : Int) - 1).toNat = i - 1 := by omega
          simp only [cond_false, e2, Int.toNat_natCast, hx, e3]
          have e4 : prevOf es i = some (es.getD (i - 1) default) := by unfold prevOf; rw [if_neg h3]
          have e5 : lastOf es i = (es.getD (i - 1) default).Angle := by unfold lastOf; rw [if_neg h3]
          obtain ⟨gy, hya⟩ := hp _ e4
          rw [e4] at hQ
          generalize es.getD (i - 1) default = y at *
          obtain ⟨kx, kx1, kx2, dx1, dx2, nx, nkx⟩ := gx.d12
          obtain ⟨ky, ky1, ky2, dy1, dy2, ny, nky⟩ := gy.d12
          have nx0 := gx.n1
          have ny0 := gy.n1
          have ax2 := gx.a2
          have ay1 := gy.a1
          refine ⟨⟨by omega, by omega⟩, ⟨by omega, by omega⟩, by omega, by omega, ?_⟩
          have hQ2 := hQ _ rfl
          simp only at hQ2
          unfold itpN itpD at hQ2
          generalize Int.tdiv 12 x.Den = cx at *
          generalize Int.tdiv 12 y.Den = cy at *
          have b0 : 0 ≤ x.Num * cx := Int.mul_nonneg nx0 (by omega)
          have b0' : 0 ≤ y.Num * cy := Int.mul_nonneg ny0 (by omega)
          have b1 := mul_bd (a := y.Num * cy) (b := x.Angle - a) (A := 240) (B := 180) (by omega) (by omega) (by omega) (by omega)
          have b2 := mul_bd (a := x.Num * cx) (b := a - y.Angle) (A := 240) (B := 180) (by omega) (by omega) (by omega) (by omega)
          rw [w64_of (n := cx) (by omega) (by omega), w64_of (n := cy) (by omega) (by omega), w64_of (n := x.Num * cx) (by omega) (by omega), w64_of (n := y.Num * cy) (by omega) (by omega), w64_of (n := x.Angle - a) (by omega) (by omega), w64_of (n := a - y.Angle) (by omega) (by omega),
            w64_of (n := y.Num * cy * (x.Angle - a)) (by omega) (by omega), w64_of (n := x.Num * cx * (a - y.Angle)) (by omega) (by omega), w64_of (n := x.Angle - y.Angle) (by omega) (by omega), w64_of (n := 12 * (x.Angle - y.Angle)) (by omega) (by omega), w64_of (n := y.Num * cy * (x.Angle - a) + x.Num * cx * (a - y.Angle)) (by omega) (by omega)]
          exact ⟨⟨by omega, by omega, by omega, by omega⟩, hQ2⟩
      · rw [if_neg h2] at hQ
        rw [if_pos (show x.Angle ≤ a by omega), if_neg (show ¬ (a ≤ x.Angle ∧ (-1 : Int) < 0) by omega)]
        have e6 : prevOf es (i + 1) = some x := by unfold prevOf; rw [if_neg (by omega)]; simp only [Nat.add_sub_cancel]; rw [hx]
        have e7 : lastOf es (i + 1) = x.Angle := by unfold lastOf; rw [if_neg (by omega)]; simp only [Nat.add_sub_cancel]; rw [hx]
        have := ih (i + 1) (by omega) (by rw [e7]; exact hrest) (fun y hy => by
          rw [e6] at hy
          cases hy
          exact ⟨gx, by omega⟩) (fun r hr => hQ r (by rw [e6] at hr; exact hr))
        have e8 : (((i + 1 : Nat) : Int) - 1) = (i : Int) := by omega
        rw [e8] at this
        exact this
theorem ok_ref03_deduction (a0_Material : ByteArray) (a0_Gauge : Int) (a0_Die : Int) (a0_Entries : List Ent) (a1 : Int) (h : pre_ref03_deduction a0_Material a0_Gauge a0_Die a0_Entries a1) : ∃ F, ∀ Q : Int → Int → Int → Prop, Q ((sp_ref03_deduction a0_Material a0_Gauge a0_Die a0_Entries a1).1) ((sp_ref03_deduction a0_Material a0_Gauge a0_Die a0_Entries a1).2.1) ((sp_ref03_deduction a0_Material a0_Gauge a0_Die a0_Entries a1).2.2) → w_ref03_deduction F a0_Material a0_Gauge a0_Die a0_Entries a1 Q := by
  refine ⟨a0_Entries.length + 1, fun Q hQ => ?_⟩
  obtain ⟨h1, h2, h3, h4⟩ := h
  refine loop_rded _ _ a1 a0_Entries h2 _ _ _ _ _ (a0_Entries.length + 1) 0 _ _ (by omega) (by omega) ?_
  exact rded_ok Q a1 a0_Entries h2 _ _ _ _ _ _ h3 h4 a0_Entries.length 0 (by omega) h1 (fun y hy => by cases hy) (fun r hr => by subst hr; exact hQ)
end
end Go.Proofs.Ytohecfbnmmgimaa
