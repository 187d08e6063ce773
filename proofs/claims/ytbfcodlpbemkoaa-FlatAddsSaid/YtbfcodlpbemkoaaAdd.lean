/- The plain laws of FlatAdds, and its walk. Conditions: none. -/
import Derived.Test.YtbfcodlpbemkoaaRat
namespace Go.Proofs.Ytbfcodlpbemkoaa
open Go.Vm
set_option linter.unusedVariables false

def sumN (a b c d : Int) : Int := at? (valid a b && valid c d && valid (lowN (a * d + c * b) (b * d)) (lowD (a * d + c * b) (b * d))) (lowN (a * d + c * b) (b * d))
def sumD (a b c d : Int) : Int := at? (valid a b && valid c d && valid (lowN (a * d + c * b) (b * d)) (lowD (a * d + c * b) (b * d))) (lowD (a * d + c * b) (b * d))
def sumE (a b c d : Int) : Int := bif valid a b && valid c d then at? (!valid (lowN (a * d + c * b) (b * d)) (lowD (a * d + c * b) (b * d))) 4 else 1
def cmpN (a b c d : Int) : Int := at? (valid a b && valid c d) (sgn (a * d) (c * b))
def cmpE (a b c d : Int) : Int := at? (!(valid a b && valid c d)) 1
def tickN (n d : Int) : Int := at? (valid n d && (n * 720).tmod d == 0) ((n * 720).tdiv d)
def tickE (n d : Int) : Int := bif valid n d then at? (!((n * 720).tmod d == 0)) 5 else 1

theorem sum_comm (a b c d : Int) : sumN a b c d = sumN c d a b ∧ sumD a b c d = sumD c d a b ∧ sumE a b c d = sumE c d a b := by
  unfold sumN sumD sumE
  rw [Int.add_comm (a * d), Int.mul_comm b d, Bool.and_comm (valid a b)]
  exact ⟨rfl, rfl, rfl⟩

theorem low_spec (S B : Int) (hB : 1 ≤ B) : 1 ≤ lowD S B ∧ lowN S B * B = S * lowD S B := by
  unfold lowN lowD
  have hg : 1 ≤ (Int.gcd S B : Int) := by
    have := Int.gcd_pos_of_ne_zero_right S (show B ≠ 0 by omega)
    omega
  have h1 : S.tdiv (Int.gcd S B) * (Int.gcd S B : Int) = S := Int.tdiv_mul_cancel (Int.gcd_dvd_left ..)
  have h2 : B.tdiv (Int.gcd S B) * (Int.gcd S B : Int) = B := Int.tdiv_mul_cancel (Int.gcd_dvd_right ..)
  generalize (Int.gcd S B : Int) = g at *
  generalize S.tdiv g = x at *
  generalize B.tdiv g = y at *
  subst h1 h2
  refine ⟨?_, by grind⟩
  by_cases h : 0 < y
  · omega
  · have := Int.mul_nonneg (show 0 ≤ -y by omega) (show 0 ≤ g by omega)
    rw [Int.neg_mul] at this
    omega

theorem sum_spec {a b c d : Int} (h : sumE a b c d = 0) : valid a b = true ∧ valid c d = true ∧ valid (sumN a b c d) (sumD a b c d) = true ∧ sumN a b c d * (b * d) = (a * d + c * b) * sumD a b c d := by
  unfold sumE at h
  unfold sumN sumD
  cases h1 : valid a b
  · rw [h1] at h
    cases h
  · cases h2 : valid c d
    · rw [h1, h2] at h
      cases h
    · cases h3 : valid (lowN (a * d + c * b) (b * d)) (lowD (a * d + c * b) (b * d))
      · rw [h1, h2, h3] at h
        cases h
      · refine ⟨rfl, rfl, h3, ?_⟩
        rw [valid_iff] at h1 h2
        have e4 : 1 ≤ b * d := Int.mul_pos (by omega) (by omega)
        exact (low_spec _ _ e4).2

theorem lt_scale {k x y : Int} (hk : 0 < k) : k * x < k * y ↔ x < y := ⟨fun h => Int.lt_of_mul_lt_mul_left h (by omega), fun h => Int.mul_lt_mul_of_pos_left h hk⟩

theorem sgn_eq {x y x' y' : Int} (h1 : x < y ↔ x' < y') (h2 : y < x ↔ y' < x') : sgn x y = sgn x' y' := by
  unfold sgn
  rw [decide_eq_decide.2 h1, decide_eq_decide.2 h2]

theorem order_law {a b c d e f : Int} (h1 : sumE a b c d = 0) (h2 : cmpE a b e f = 0) (h3 : sumE e f c d = 0) :
    cmpE (sumN a b c d) (sumD a b c d) (sumN e f c d) (sumD e f c d) = 0 ∧ cmpN (sumN a b c d) (sumD a b c d) (sumN e f c d) (sumD e f c d) = cmpN a b e f := by
  obtain ⟨v1, v2, v3, k1⟩ := sum_spec h1
  obtain ⟨v4, _, v5, k2⟩ := sum_spec h3
  unfold cmpE cmpN
  rw [v1, v3, v4, v5]
  refine ⟨rfl, ?_⟩
  rw [valid_iff] at v1 v2 v3 v4 v5
  generalize sumN a b c d = x at *
  generalize sumD a b c d = y at *
  generalize sumN e f c d = z at *
  generalize sumD e f c d = w at *
  have hb : 0 < b := by omega
  have hd : 0 < d := by omega
  have hf : 0 < f := by omega
  have hy : 0 < y := by omega
  have hw : 0 < w := by omega
  have p1 : 0 < b * d * (f * d) := Int.mul_pos (Int.mul_pos hb hd) (Int.mul_pos hf hd)
  have p2 : 0 < y * w * (d * d) := Int.mul_pos (Int.mul_pos hy hw) (Int.mul_pos hd hd)
  have e1 : b * d * (f * d) * (x * w) = y * w * (d * d) * (a * f) + y * w * (d * b * c * f) := by grind
  have e2 : b * d * (f * d) * (z * y) = y * w * (d * d) * (e * b) + y * w * (d * b * c * f) := by grind
  refine sgn_eq ?_ ?_
  · have := lt_scale (x := a * f) (y := e * b) p2
    rw [← lt_scale p1, e1, e2]
    omega
  · have := lt_scale (x := e * b) (y := a * f) p2
    rw [← lt_scale p1, e1, e2]
    omega

theorem tick_spec {n d : Int} (h : tickE n d = 0) : valid n d = true ∧ tickN n d * d = n * 720 := by
  unfold tickE at h
  unfold tickN
  cases h1 : valid n d
  · rw [h1] at h
    cases h
  · cases h2 : ((n * 720).tmod d == 0)
    · rw [h1, h2] at h
      cases h
    · have h3 : (n * 720).tmod d = 0 := by simpa using h2
      exact ⟨rfl, Int.tdiv_mul_cancel (Int.dvd_of_tmod_eq_zero h3)⟩

theorem tick_bound {n d : Int} (h : tickE n d = 0) : -2305843009213693952 ≤ tickN n d ∧ tickN n d ≤ 2305843009213693952 := by
  obtain ⟨h1, h2⟩ := tick_spec h
  unfold tickE at h
  unfold tickN
  rw [h1] at h ⊢
  rw [valid_iff] at h1
  cases h2 : ((n * 720).tmod d == 0)
  · rw [h2] at h
    cases h
  · show -2305843009213693952 ≤ (n * 720).tdiv d ∧ (n * 720).tdiv d ≤ 2305843009213693952
    have h3 : ((n * 720).tdiv d).natAbs ≤ (n * 720).natAbs := by
      rw [Int.natAbs_tdiv]
      exact Nat.div_le_self _ _
    omega

theorem ticks_law {a b c d : Int} (h1 : sumE a b c d = 0) (h2 : tickE a b = 0) (h3 : tickE c d = 0) :
    tickE (sumN a b c d) (sumD a b c d) = 0 ∧ tickN (sumN a b c d) (sumD a b c d) = IntKind.i64.wrap (tickN a b + tickN c d) := by
  obtain ⟨v1, v2, v3, k1⟩ := sum_spec h1
  obtain ⟨_, k2⟩ := tick_spec h2
  obtain ⟨_, k3⟩ := tick_spec h3
  have b2 := tick_bound h2
  have b3 := tick_bound h3
  rw [wrapped (by omega) (by omega)]
  unfold tickE
  show (bif valid (sumN a b c d) (sumD a b c d) then _ else _) = 0 ∧ at? (valid (sumN a b c d) (sumD a b c d) && (sumN a b c d * 720).tmod (sumD a b c d) == 0) ((sumN a b c d * 720).tdiv (sumD a b c d)) = _
  rw [v3]
  rw [valid_iff] at v1 v2 v3
  generalize sumN a b c d = x at *
  generalize sumD a b c d = y at *
  generalize tickN a b = m at *
  generalize tickN c d = n at *
  have hb : 0 < b := by omega
  have hd : 0 < d := by omega
  have hbd : b * d ≠ 0 := Int.ne_of_gt (Int.mul_pos hb hd)
  have key : x * 720 = (m + n) * y := by
    refine Int.eq_of_mul_eq_mul_left hbd ?_
    grind
  have hm : (x * 720).tmod y = 0 := by
    rw [key]
    exact Int.mul_tmod_left _ _
  have hq : (x * 720).tdiv y = m + n := by
    rw [key]
    exact Int.mul_tdiv_cancel _ (by omega)
  rw [hm, hq]
  exact ⟨rfl, rfl⟩

theorem x4 (a b c d e f : Int) : exec C13 116 M0 0 0 b4 (initSt [rt a b, rt c d, rt e f]) (AEnds C13 Try.f4 fun r => r = .bool true) := by
  obtain ⟨k1, k2, k3⟩ := sum_comm a b c d
  have hP : (!(sumN a b c d == sumN c d a b && (sumD a b c d == sumD c d a b && true)) || sumE a b c d != sumE c d a b) = false := by
    rw [← k1, ← k2, ← k3]
    simp
  let R := cond ((sumE a b c d != 0 || tickE a b != 0) || tickE c d != 0) (AVal.bool (U := U0) true = .bool true)
    (AVal.bool (U := U0) ((tickE (sumN a b c d) (sumD a b c d) == 0 && tickN (sumN a b c d) (sumD a b c d) == IntKind.i64.wrap (tickN a b + tickN c d)) && true) = .bool true)
  refine back (q := cond (!(sumN a b c d == sumN c d a b && (sumD a b c d == sumD c d a b && true)) || sumE a b c d != sumE c d a b) (AVal.bool (U := U0) false = .bool true)
    (cond ((sumE a b c d == 0 && cmpE a b e f == 0) && sumE e f c d == 0)
      (cond (cmpE (sumN a b c d) (sumD a b c d) (sumN e f c d) (sumD e f c d) != 0 || cmpN (sumN a b c d) (sumD a b c d) (sumN e f c d) (sumD e f c d) != cmpN a b e f) (AVal.bool (U := U0) false = .bool true) R) R)) (by kernel_rfl) ?_
  rw [hP]
  have hR : R := by
    show cond ((sumE a b c d != 0 || tickE a b != 0) || tickE c d != 0) _ _
    cases h1 : (sumE a b c d != 0 || tickE a b != 0) || tickE c d != 0
    · simp only [Bool.or_eq_false_iff, bne_eq_false_iff_eq] at h1
      obtain ⟨q1, q2⟩ := ticks_law h1.1.1 h1.1.2 h1.2
      show AVal.bool _ = AVal.bool true
      rw [q1, q2]
      simp
    · rfl
  show cond ((sumE a b c d == 0 && cmpE a b e f == 0) && sumE e f c d == 0) _ R
  cases h1 : (sumE a b c d == 0 && cmpE a b e f == 0) && sumE e f c d == 0
  · exact hR
  · simp only [Bool.and_eq_true, beq_iff_eq] at h1
    obtain ⟨q1, q2⟩ := order_law h1.1.1 h1.1.2 h1.2
    show cond _ _ R
    rw [q1, q2]
    simpa using hR
end Go.Proofs.Ytbfcodlpbemkoaa
