/- Patterns: what the law's function on settling must hold, holds. Conditions: none. -/
import Derived.Test.YtohecfbnmmgimaaHP
import Derived.Test.YtohecfbnmmgimaaHC
namespace Go.Proofs.Ytohecfbnmmgimaa
open Go.Vm Go.RowKit
set_option linter.unusedVariables false
noncomputable section

def inT (t : Int) : Bool := decide (0 ≤ t) && decide (t ≤ 3)
def ans (R C M : List Rect) (B : List Bend) (t : Int) : List Rect × List Rect × List Rect × List Bend × Int :=
  bif wholeB R C M B && inT t then answer (goal R C M B t) else ([], [], [], [], 1)
theorem goal_sh {R C M : List Rect} {B : List Bend} (hs : shF R C M B) (t : Int) : shF4 (goal R C M B t) := by
  obtain ⟨s1, s2, s3, s4⟩ := hs
  unfold sh at *
  unfold goal sp_ref03_move_flat
  refine ⟨?_, ?_, ?_, ?_⟩
  all_goals
    unfold sh
    simp only [List.length_map]
    assumption
theorem answer_sh {f : Flat4} (h : shF4 f) : shF (answer f).1 (answer f).2.1 (answer f).2.2.1 (answer f).2.2.2.1 := by
  unfold answer
  cases wholeB f.1 f.2.1 f.2.2.1 f.2.2.2
  · unfold shF sh
    refine ⟨?_, ?_, ?_, ?_⟩ <;> exact Nat.zero_le _
  · exact h
theorem ans_sh {R C M : List Rect} {B : List Bend} (hs : shF R C M B) (t : Int) : shF (ans R C M B t).1 (ans R C M B t).2.1 (ans R C M B t).2.2.1 (ans R C M B t).2.2.2.1 := by
  unfold ans
  cases wholeB R C M B && inT t
  · unfold shF sh
    refine ⟨?_, ?_, ?_, ?_⟩ <;> exact Nat.zero_le _
  · exact answer_sh (goal_sh hs t)
theorem inT_nat {t : Int} (h : inT t = true) : ∃ n : Nat, t = n ∧ n ≤ 3 := by
  unfold inT at h
  simp only [Bool.and_eq_true, decide_eq_true_eq] at h
  exact ⟨t.toNat, by omega, by omega⟩
theorem badQ_eq (R C M : List Rect) (B : List Bend) (t : Int) : badQ R C M B t = !(wholeB R C M B && inT t) := by
  unfold badQ inT
  rw [check0, Bool.not_and, Bool.not_and, Bool.or_assoc, ← decide_not, ← decide_not]
  congr 1
  congr 1
  · exact decide_eq_decide.2 (by omega)
  · exact decide_eq_decide.2 (by omega)
theorem flatQ {R C M : List Rect} {B : List Bend} (hs : shF R C M B) (t : Int) : pre_flat_Quarter R C M B t ∧ sp_flat_Quarter R C M B t = ans R C M B t := by
  unfold pre_flat_Quarter sp_flat_Quarter ans
  rw [badQ_eq]
  cases h : wholeB R C M B && inT t
  · exact ⟨⟨hs, fun e => by cases e⟩, rfl⟩
  · rw [Bool.and_eq_true] at h
    obtain ⟨n, rfl, hn⟩ := inT_nat h.2
    obtain ⟨h1, h2⟩ := settled_eq (good_of h.1) hs n hn
    exact ⟨⟨hs, fun _ => h1⟩, h2⟩
theorem refQ {R C M : List Rect} {B : List Bend} (hs : shF R C M B) (t : Int) : pre_ref03_Quarter R C M B t ∧ sp_ref03_Quarter R C M B t = ans R C M B t := by
  have hb : ((!(sp_ref03_Whole R C M B)) || (!(sp_ref03_within t 0 3))) = !(wholeB R C M B && inT t) := by
    rw [Bool.not_and]
    rfl
  unfold pre_ref03_Quarter sp_ref03_Quarter ans
  rw [hb]
  cases h : wholeB R C M B && inT t
  · exact ⟨⟨hs.2.2.2, trivial⟩, rfl⟩
  · rw [Bool.and_eq_true] at h
    obtain ⟨n, rfl, hn⟩ := inT_nat h.2
    have g := good_of h.1
    obtain ⟨s1, s2, s3, s4⟩ := hs
    have hn' : (0 : Int) ≤ (n : Int) ∧ (n : Int) ≤ 3 := by omega
    have hm := moved0 n hn g.r
    have hne : R.map (mR n 0 0) ≠ [] := fun e => g.ne (List.map_eq_nil_iff.1 e)
    have hv : ∀ r ∈ R.map (mR n 0 0), vR r = true := by rw [hm]; exact tR_all n g.r
    obtain ⟨ha, hbb⟩ := bndL_near hne hv
    have z0 : near 0 := by unfold near; omega
    have e1 : w64 (0 - (sp_ref03_bounds (sp_ref03_move_rects n 0 0 R)).1) = -(bndL (R.map (mR n 0 0))).1 := by
      unfold sp_ref03_bounds sp_ref03_move_rects
      unfold near at ha
      rw [w64_s (by omega) (by omega)]
      omega
    have e2 : w64 (0 - (sp_ref03_bounds (sp_ref03_move_rects n 0 0 R)).2.1) = -(bndL (R.map (mR n 0 0))).2.1 := by
      unfold sp_ref03_bounds sp_ref03_move_rects
      unfold near at hbb
      rw [w64_s (by omega) (by omega)]
      omega
    rw [e1, e2]
    have hk : shF4 (goal R C M B n) := goal_sh ⟨s1, s2, s3, s4⟩ n
    refine ⟨⟨s4, ⟨s1, fun r hr => preR_of hn' z0 z0 (g.r r hr)⟩, ⟨by unfold sp_ref03_move_rects sh at *; rw [List.length_map]; exact s1, hne, hv⟩, ⟨⟨s1, fun r hr => preR_of hn' (near_neg ha) (near_neg hbb) (g.r r hr)⟩, ⟨s2, fun r hr => preR_of hn' (near_neg ha) (near_neg hbb) (g.c r hr)⟩, ⟨s3, fun r hr => preR_of hn' (near_neg ha) (near_neg hbb) (g.m r hr)⟩, s4, fun b hb => preL_of hn' (near_neg ha) (near_neg hbb) (g.b b hb)⟩, hk.2.2.2⟩, ?_⟩
    show cond (!wholeB (goal R C M B n).1 (goal R C M B n).2.1 (goal R C M B n).2.2.1 (goal R C M B n).2.2.2) _ ((goal R C M B n).1, (goal R C M B n).2.1, (goal R C M B n).2.2.1, (goal R C M B n).2.2.2, 0) = cond true (answer (goal R C M B n)) _
    unfold answer
    generalize goal R C M B n = f
    cases wholeB f.1 f.2.1 f.2.2.1 f.2.2.2 <;> rfl
theorem turned0 {R C M : List Rect} {B : List Bend} : turned R C M B ((0 : Nat) : Int) = (R, C, M, B) := rfl
theorem settleQ {R C M : List Rect} {B : List Bend} (hs : shF R C M B) : pre_flat_Settle R C M B ∧ sp_flat_Settle R C M B = ans R C M B 0 := by
  unfold pre_flat_Settle sp_flat_Settle ans
  rw [check0, show inT 0 = true from rfl, Bool.and_true]
  cases h : wholeB R C M B
  · refine ⟨⟨hs.2.2.2, trivial⟩, ?_⟩
    show (_, _, _, _, sp_flat_check R C M B) = _
    unfold sp_flat_check
    rw [h]
    rfl
  · obtain ⟨h1, h2⟩ := settled_eq (good_of h) hs 0 (by omega)
    rw [turned0] at h1 h2
    exact ⟨⟨hs.2.2.2, h1⟩, h2⟩
theorem boundsQ {R C M : List Rect} {B : List Bend} (hs : shF R C M B) : pre_flat_Bounds R C M B ∧ pre_ref03_Bounds R C M B ∧ sp_flat_Bounds R C M B = sp_ref03_Bounds R C M B := by
  unfold pre_flat_Bounds sp_flat_Bounds pre_ref03_Bounds sp_ref03_Bounds sp_ref03_Whole
  rw [check0]
  cases h : wholeB R C M B
  · refine ⟨⟨hs.2.2.2, trivial⟩, ⟨hs.2.2.2, trivial⟩, ?_⟩
    show (_, _, _, _, sp_flat_check R C M B) = _
    unfold sp_flat_check
    rw [h]
    rfl
  · have g := good_of h
    exact ⟨⟨hs.2.2.2, hs.1, g.ne, g.r⟩, ⟨hs.2.2.2, hs.1, g.ne, g.r⟩, rfl⟩

theorem eqR_refl (x : Rect) : eqR x x = true := by unfold eqR; simp
theorem eqB_refl (x : Bend) : eqB x x = true := by unfold eqB; simp
theorem same_refl (R C M : List Rect) (B : List Bend) : sp_ref03_SameFlat R C M B R C M B = true := by
  unfold sp_ref03_SameFlat
  rw [zipAll_refl _ eqR_refl, zipAll_refl _ eqR_refl, zipAll_refl _ eqR_refl, zipAll_refl _ eqB_refl]
  rfl
theorem valid_iffQ {n d : Int} : sp_flat_valid n d = true ↔ (1 ≤ d ∧ d ≤ 4096 ∧ -16777216 ≤ n ∧ n ≤ 16777216) := by
  simp [sp_flat_valid, and_assoc]
theorem valid_bigQ {n d : Int} (h : sp_flat_valid n d = true) : bigOK n d := by
  obtain ⟨h1, h2, h3, h4⟩ := valid_iffQ.1 h
  exact ⟨by omega, by omega, by omega, by omega⟩
theorem pre_ReduceQ (n d : Int) : pre_flat_Reduce n d := by
  unfold pre_flat_Reduce
  cases h : sp_flat_valid n d
  · trivial
  · exact valid_bigQ h
theorem times720Q {n d : Int} (h : sp_flat_valid n d = true) : w64 (n * 720) = n * 720 ∧ w64 (d * 1) = d ∧ bigOK (n * 720) d := by
  obtain ⟨h1, h2, h3, h4⟩ := valid_iffQ.1 h
  exact ⟨w64_of (by omega) (by omega), by rw [w64_of (by omega) (by omega)]; omega, by omega, by omega, by omega, by omega⟩
theorem pre_TicksQ (n d : Int) : pre_flat_Ticks n d := by
  unfold pre_flat_Ticks
  cases h : sp_flat_valid n d
  · trivial
  · obtain ⟨e1, e2, e3⟩ := times720Q h
    show bigOK (w64 (n * 720)) (w64 (d * 1))
    rw [e1, e2]
    exact e3
theorem known_pre' : pre_law03_known := ⟨pre_ReduceQ _ _, pre_TicksQ _ _⟩
theorem known_true' : sp_law03_known = true := by decide +kernel

theorem lp_law (F : Nat) (x0 : Bool → Int → List Rect → List Rect → List Rect → List Bend → List Rect → List Rect → List Rect → List Bend → List Rect → List Rect → List Rect → List Bend → Prop) (k : Bool) (R C M : List Rect) (B : List Bend) (R' C' M' : List Rect) (B' : List Bend) (V W : List Rect) (Y : List Bend) (len : Nat) (hl : len ≤ 1000) : ∀ (n i : Nat) (U : List Rect), U.length = len → i ≤ len → len < i + n →
    (∀ U j, x0 k j R C M B R' C' M' B' U V W Y) → w_law03_FlatSettles_0 F x0 n k i R C M B R' C' M' B' U V W Y := by
  intro n
  induction n with
  | zero => intro i U h0 h1 h2; omega
  | succ n ih =>
    intro i U h0 h1 h2 e
    show g_law03_FlatSettles_s0 (w_law03_FlatSettles_0 F x0 n) x0 k i R C M B R' C' M' B' U V W Y
    unfold g_law03_FlatSettles_s0
    by_cases h : i < len
    · rw [dec_t (by omega), cond_true]
      refine ⟨by omega, ?_⟩
      rw [w64_succ h (by omega)]
      exact ih _ _ (by rw [List.length_set]; exact h0) (by omega) (by omega) e
    · rw [dec_f (by omega), cond_false]
      exact e _ _
theorem law_settles (R C M : List Rect) (B : List Bend) (t : Int) : w_law03_FlatSettles 1001 R C M B t (fun r => r = true) := by
  unfold w_law03_FlatSettles g_law03_FlatSettles_e n_law03_FlatSettles_0
  show cond (sp_law03_Long R C M B) _ _
  cases hl : sp_law03_Long R C M B
  · rw [cond_false]
    have hs : shF R C M B := by
      unfold sp_law03_Long at hl
      simp only [Bool.or_eq_false_iff, decide_eq_false_iff_not] at hl
      unfold shF sh
      omega
    obtain ⟨b1, b2, b3⟩ := boundsQ hs
    obtain ⟨s1, s2⟩ := settleQ hs
    obtain ⟨f1, f2⟩ := flatQ hs t
    obtain ⟨r1, r2⟩ := refQ hs t
    obtain ⟨q1, q2⟩ := refQ hs 0
    refine ⟨hs, b1, b2, s1, q1, f1, r1, ?_⟩
    show (_ ∧ _) ∧ _
    change ((_ → pre_ref03_SameFlat (sp_flat_Settle R C M B).1 (sp_flat_Settle R C M B).2.1 (sp_flat_Settle R C M B).2.2.1 (sp_flat_Settle R C M B).2.2.2.1 _ _ _ _) ∧ (_ → pre_ref03_SameFlat (sp_flat_Quarter R C M B t).1 (sp_flat_Quarter R C M B t).2.1 (sp_flat_Quarter R C M B t).2.2.1 (sp_flat_Quarter R C M B t).2.2.2.1 _ _ _ _)) ∧ _
    refine ⟨⟨fun _ => ?_, fun _ => ?_⟩, ?_⟩
    · rw [s2]
      exact ans_sh hs 0
    · rw [f2]
      exact ans_sh hs t
    have ht : ((((((((sp_flat_Bounds R C M B).1 == (sp_ref03_Bounds R C M B).1) && (((sp_flat_Bounds R C M B).2.1 == (sp_ref03_Bounds R C M B).2.1) && (((sp_flat_Bounds R C M B).2.2.1 == (sp_ref03_Bounds R C M B).2.2.1) && (((sp_flat_Bounds R C M B).2.2.2.1 == (sp_ref03_Bounds R C M B).2.2.2.1) && true)))) && ((sp_flat_Bounds R C M B).2.2.2.2 == (sp_ref03_Bounds R C M B).2.2.2.2)) && (sp_ref03_SameFlat (sp_flat_Settle R C M B).1 (sp_flat_Settle R C M B).2.1 (sp_flat_Settle R C M B).2.2.1 (sp_flat_Settle R C M B).2.2.2.1 (sp_ref03_Quarter R C M B 0).1 (sp_ref03_Quarter R C M B 0).2.1 (sp_ref03_Quarter R C M B 0).2.2.1 (sp_ref03_Quarter R C M B 0).2.2.2.1)) && ((sp_flat_Settle R C M B).2.2.2.2 == (sp_ref03_Quarter R C M B 0).2.2.2.2)) && (sp_ref03_SameFlat (sp_flat_Quarter R C M B t).1 (sp_flat_Quarter R C M B t).2.1 (sp_flat_Quarter R C M B t).2.2.1 (sp_flat_Quarter R C M B t).2.2.2.1 (sp_ref03_Quarter R C M B t).1 (sp_ref03_Quarter R C M B t).2.1 (sp_ref03_Quarter R C M B t).2.2.1 (sp_ref03_Quarter R C M B t).2.2.2.1)) && ((sp_flat_Quarter R C M B t).2.2.2.2 == (sp_ref03_Quarter R C M B t).2.2.2.2)) = true := by
      rw [b3, s2, q2, f2, r2, same_refl, same_refl]
      simp
    have hlen : (sp_flat_Quarter R C M B t).1.length ≤ 1000 := by
      rw [f2]
      exact (ans_sh hs t).1
    refine lp_law _ _ _ _ _ _ _ _ _ _ _ _ _ _ _ hlen 1001 0 _ rfl (by omega) (by omega) (fun U j => ?_)
    change ((_ → shF R C M B) ∧ (_ → pre_law03_known)) ∧ ((_ && sp_ref03_SameFlat R C M B R C M B) && sp_law03_known) = true
    refine ⟨⟨fun _ => hs, fun _ => known_pre'⟩, ?_⟩
    rw [same_refl, known_true']
    change ((_ && true) && true) = true
    rw [Bool.and_true, Bool.and_true]
    exact ht
  · exact ⟨known_pre', known_true'⟩
end
end Go.Proofs.Ytohecfbnmmgimaa
