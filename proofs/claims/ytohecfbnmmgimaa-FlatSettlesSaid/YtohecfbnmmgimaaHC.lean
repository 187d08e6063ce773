/- Rationals: both reduced functions give num/gcd, den/gcd. Conditions: none. -/
import Derived.Test.YtohecfbnmmgimaaGC
namespace Go.Proofs.Ytohecfbnmmgimaa
open Go.Vm Go.RowKit
set_option linter.unusedVariables false
noncomputable section

def lowN (n d : Int) : Int := n.tdiv (Int.gcd n d)
def lowD (n d : Int) : Int := d.tdiv (Int.gcd n d)
def bigOK (n d : Int) : Prop := -4611686018427387904 ≤ n ∧ n ≤ 4611686018427387904 ∧ 1 ≤ d ∧ d ≤ 4611686018427387904
def pre_flat_rational_reduced (n d : Int) : Prop := bigOK n d
def sp_flat_rational_reduced (n d : Int) : Int × Int := (lowN n d, lowD n d)
def pre_ref03_lowest (n d : Int) : Prop := bigOK n d
def sp_ref03_lowest (n d : Int) : Int × Int := (lowN n d, lowD n d)

theorem gcd_step {a b : Int} (ha : 0 ≤ a) (hb : 0 ≤ b) : Int.gcd b (a.tmod b) = Int.gcd a b := by
  rw [Int.tmod_eq_emod_of_nonneg ha]
  obtain ⟨m, rfl⟩ := Int.eq_ofNat_of_zero_le ha
  obtain ⟨k, rfl⟩ := Int.eq_ofNat_of_zero_le hb
  show Nat.gcd k (m % k) = Nat.gcd m k
  rw [Nat.gcd_comm k, ← Nat.gcd_rec, Nat.gcd_comm]
theorem tdiv_bound {n g : Int} (hg : 1 ≤ g) (h1 : -4611686018427387904 ≤ n) (h2 : n ≤ 4611686018427387904) : -9223372036854775808 ≤ n.tdiv g ∧ n.tdiv g ≤ 9223372036854775807 := by
  have h3 : (n.tdiv g).natAbs ≤ n.natAbs := by
    rw [Int.natAbs_tdiv]
    exact Nat.div_le_self _ _
  omega
theorem gcd_pos {n d : Int} (hd : 1 ≤ d) : 1 ≤ (Int.gcd n d : Int) := by
  have := Int.gcd_pos_of_ne_zero_right n (show d ≠ 0 by omega)
  omega
theorem low_fin {n d g : Int} (h : bigOK n d) (hg : g = Int.gcd n d) (Q : Int → Int → Prop) (hQ : Q (lowN n d) (lowD n d)) : g ≠ 0 ∧ g ≠ 0 ∧ Q (w64 (Int.tdiv n g)) (w64 (Int.tdiv d g)) := by
  obtain ⟨h1, h2, h3, h4⟩ := h
  have hp := gcd_pos (n := n) h3
  subst hg
  refine ⟨by omega, by omega, ?_⟩
  rw [w64_of (tdiv_bound hp h1 h2).1 (tdiv_bound hp h1 h2).2, w64_of (tdiv_bound hp (by omega) h4).1 (tdiv_bound hp (by omega) h4).2]
  exact hQ

theorem loop_red (F : Nat) (x0 : Int → Int → Int → Int → Int → Int → Prop) (p q r s : Int) : ∀ (n : Nat) (a b : Int), 0 ≤ a → 0 ≤ b → a < n → x0 0 (Int.gcd a b) p q r s → w_flat_rational_reduced_0 F x0 n a b p q r s := by
  intro n
  induction n with
  | zero => intro a b ha hb hn; omega
  | succ n ih =>
    intro a b ha hb hn hx
    unfold w_flat_rational_reduced_0 g_flat_rational_reduced_s0
    by_cases h : a = 0
    · subst h
      have e : (Int.gcd 0 b : Int) = b := by rw [Int.gcd_zero_left]; omega
      rw [e] at hx
      exact hx
    · have e : (a != 0) = true := by simpa using h
      rw [e]
      refine ⟨h, ih _ _ (Int.tmod_nonneg _ hb) ha ?_ ?_⟩
      · have := Int.tmod_lt_of_pos b (show 0 < a by omega)
        omega
      · have e2 : Int.gcd (b.tmod a) a = Int.gcd a b := by rw [Int.gcd_comm, gcd_step hb ha, Int.gcd_comm]
        rw [e2]
        exact hx
theorem ok_flat_rational_reduced (a0_num : Int) (a0_den : Int) (h : pre_flat_rational_reduced a0_num a0_den) : ∃ F, ∀ Q : Int → Int → Prop, Q ((sp_flat_rational_reduced a0_num a0_den).1) ((sp_flat_rational_reduced a0_num a0_den).2) → w_flat_rational_reduced F a0_num a0_den Q := by
  refine ⟨a0_num.natAbs + 1, fun Q hQ => ?_⟩
  have hb : bigOK a0_num a0_den := h
  unfold w_flat_rational_reduced g_flat_rational_reduced_e n_flat_rational_reduced_0
  obtain ⟨h1, h2, h3, h4⟩ := hb
  by_cases hn : a0_num < 0
  · rw [dec_t hn]
    have e : w64 (0 - a0_num) = -a0_num := by rw [w64_of (by omega) (by omega)]; omega
    rw [e]
    refine loop_red _ _ _ _ _ _ _ _ _ (by omega) (by omega) (by omega) ?_
    exact low_fin h (by rw [Int.neg_gcd]) Q hQ
  · rw [dec_f hn]
    refine loop_red _ _ _ _ _ _ _ _ _ (by omega) (by omega) (by omega) ?_
    exact low_fin h rfl Q hQ

theorem loop_low (F : Nat) (x0 : Int → Int → Int → Int → Int → Int → Prop) (p q r s : Int) : ∀ (n : Nat) (a b : Int), 0 ≤ a → 0 ≤ b → b < n → x0 p q (Int.gcd a b) 0 r s → w_ref03_lowest_0 F x0 n p q a b r s := by
  intro n
  induction n with
  | zero => intro a b ha hb hn; omega
  | succ n ih =>
    intro a b ha hb hn hx
    unfold w_ref03_lowest_0 g_ref03_lowest_s0
    by_cases h : b = 0
    · subst h
      have e : (Int.gcd a 0 : Int) = a := by rw [Int.gcd_zero_right]; omega
      rw [e] at hx
      exact hx
    · have e : (b != 0) = true := by simpa using h
      rw [e]
      refine ⟨h, ih _ _ hb (Int.tmod_nonneg _ ha) ?_ ?_⟩
      · have := Int.tmod_lt_of_pos a (show 0 < b by omega)
        omega
      · rw [gcd_step ha hb]
        exact hx
theorem ok_ref03_lowest (a0 : Int) (a1 : Int) (h : pre_ref03_lowest a0 a1) : ∃ F, ∀ Q : Int → Int → Prop, Q ((sp_ref03_lowest a0 a1).1) ((sp_ref03_lowest a0 a1).2) → w_ref03_lowest F a0 a1 Q := by
  refine ⟨a1.natAbs + 1, fun Q hQ => ?_⟩
  have hb : bigOK a0 a1 := h
  unfold w_ref03_lowest g_ref03_lowest_e n_ref03_lowest_0
  obtain ⟨h1, h2, h3, h4⟩ := hb
  by_cases hn : a0 < 0
  · rw [dec_t hn]
    have e : w64 (0 - a0) = -a0 := by rw [w64_of (by omega) (by omega)]; omega
    rw [e]
    refine loop_low _ _ _ _ _ _ _ _ _ (by omega) (by omega) (by omega) ?_
    exact low_fin h (by rw [Int.neg_gcd]) Q hQ
  · rw [dec_f hn]
    refine loop_low _ _ _ _ _ _ _ _ _ (by omega) (by omega) (by omega) ?_
    exact low_fin h rfl Q hQ

/-! ### Plain facts -/
theorem low_spec {n d : Int} (hd : 1 ≤ d) : ∃ g, 1 ≤ g ∧ n = g * lowN n d ∧ d = g * lowD n d ∧ 1 ≤ lowD n d ∧ Int.gcd (lowN n d) (lowD n d) = 1 := by
  have hg := gcd_pos (n := n) hd
  have e1 : (Int.gcd n d : Int) * lowN n d = n := Int.mul_tdiv_cancel' (Int.gcd_dvd_left ..)
  have e2 : (Int.gcd n d : Int) * lowD n d = d := Int.mul_tdiv_cancel' (Int.gcd_dvd_right ..)
  have h1 : 1 ≤ lowD n d := by
    rcases Int.lt_or_le 0 (lowD n d) with h | h
    · omega
    · have : (Int.gcd n d : Int) * lowD n d ≤ 0 := Int.mul_nonpos_of_nonneg_of_nonpos (by omega) h
      omega
  refine ⟨_, hg, e1.symm, e2.symm, h1, ?_⟩
  have h3 : Int.gcd ((Int.gcd n d : Int) * lowN n d) ((Int.gcd n d : Int) * lowD n d) = (Int.gcd n d : Int).natAbs * Int.gcd (lowN n d) (lowD n d) := Int.gcd_mul_left ..
  rw [e1, e2] at h3
  have h4 : (Int.gcd n d : Int).natAbs = Int.gcd n d := by simp
  rw [h4] at h3
  have hgn : 0 < Int.gcd n d := by omega
  have h5 : Int.gcd n d * Int.gcd (lowN n d) (lowD n d) = Int.gcd n d * 1 := by omega
  exact Nat.eq_of_mul_eq_mul_left hgn h5
theorem dvd_of_coprime {a b c : Int} (h : Int.gcd a b = 1) (hd : b ∣ a * c) : b ∣ c := by
  have h1 : Nat.Coprime b.natAbs a.natAbs := by
    have : Nat.gcd a.natAbs b.natAbs = 1 := h
    rw [Nat.gcd_comm] at this
    exact this
  have h2 : b.natAbs ∣ a.natAbs * c.natAbs := by
    have := Int.natAbs_dvd_natAbs.2 hd
    rwa [Int.natAbs_mul] at this
  exact Int.natAbs_dvd_natAbs.1 (h1.dvd_of_dvd_mul_left h2)
/-- Two rationals of one value have one lowest form. -/
theorem low_eq {n d n' d' : Int} (hd : 1 ≤ d) (hd' : 1 ≤ d') (h : n * d' = n' * d) : lowN n d = lowN n' d' ∧ lowD n d = lowD n' d' := by
  obtain ⟨g, hg, e1, e2, p1, c1⟩ := low_spec (n := n) hd
  obtain ⟨g', hg', e1', e2', p1', c1'⟩ := low_spec (n := n') hd'
  generalize lowN n d = a at *
  generalize lowD n d = b at *
  generalize lowN n' d' = a' at *
  generalize lowD n' d' = b' at *
  have key : a * b' = a' * b := by
    have h1 : (g * g') * (a * b') = (g * g') * (a' * b) := by
      have : (g * a) * (g' * b') = (g' * a') * (g * b) := by rw [← e1, ← e2, ← e1', ← e2']; exact h
      calc (g * g') * (a * b') = (g * a) * (g' * b') := by ac_rfl
        _ = (g' * a') * (g * b) := this
        _ = (g * g') * (a' * b) := by ac_rfl
    have hgg : g * g' ≠ 0 := Int.mul_ne_zero (by omega) (by omega)
    exact Int.eq_of_mul_eq_mul_left hgg h1
  have d1 : b ∣ b' := dvd_of_coprime c1 ⟨a', by rw [key, Int.mul_comm]⟩
  have d2 : b' ∣ b := dvd_of_coprime c1' ⟨a, by rw [← key, Int.mul_comm]⟩
  have hb : b = b' := Int.dvd_antisymm (by omega) (by omega) d1 d2
  subst hb
  refine ⟨?_, rfl⟩
  exact Int.eq_of_mul_eq_mul_right (by omega) key
/-- The value of a lowest form. -/
theorem low_val {n d : Int} (hd : 1 ≤ d) : lowN n d * d = n * lowD n d := by
  obtain ⟨g, hg, e1, e2, p1, c1⟩ := low_spec (n := n) hd
  generalize lowN n d = a at *
  generalize lowD n d = b at *
  rw [e1, e2]
  ac_rfl
theorem low_pos {n d : Int} (hd : 1 ≤ d) : 1 ≤ lowD n d := (low_spec hd).choose_spec.2.2.2.1
theorem low_le {n d : Int} (hd : 1 ≤ d) : lowD n d ≤ d ∧ (lowN n d).natAbs ≤ n.natAbs := by
  refine ⟨?_, ?_⟩
  · have h := Int.natAbs_tdiv d (Int.gcd n d)
    have h2 : d.natAbs / (Int.gcd n d : Int).natAbs ≤ d.natAbs := Nat.div_le_self _ _
    have h3 : (lowD n d).natAbs ≤ d.natAbs := by unfold lowD; rw [h]; exact h2
    omega
  · unfold lowN
    rw [Int.natAbs_tdiv]
    exact Nat.div_le_self _ _
end
end Go.Proofs.Ytohecfbnmmgimaa
