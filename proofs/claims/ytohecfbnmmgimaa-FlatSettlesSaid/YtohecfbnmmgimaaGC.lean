/- What pieces of code must make hold, in plain Lean; printed by gen.py. Conditions: none; definitions. -/
import Derived.Test.YtohecfbnmmgimaaHB
namespace Go.Proofs.Ytohecfbnmmgimaa
open Go.Vm Go.RowKit
set_option linter.unusedVariables false
noncomputable section
/-! ### (sheetmetal/flat.rational).reduced -/
def M_flat_rational_reduced : Nat → Nat → Canon UU := fun b r => cond (Nat.beq b 0) ⟨[1, 2, 3, 4], [1, 2], []⟩ (⟨[], [], []⟩)
def st_flat_rational_reduced_0 (t3 : Int) (t4 : Int) (c1_0 : Int) (c1_1 : Int) (c2_0 : Int) (c2_1 : Int) : ASt UU := ⟨fun u => cond (Nat.beq u 1) (.ptr 1 0) (cond (Nat.beq u 2) (.ptr 2 0) (cond (Nat.beq u 3) (.int .i64 t3) (cond (Nat.beq u 4) (.int .i64 t4) (.any)))), fun u => cond (Nat.beq u 1) (some (.cells [.int .i64 c1_0, .int .i64 c1_1])) (cond (Nat.beq u 2) (some (.cells [.int .i64 c2_0, .int .i64 c2_1])) (none))⟩
def g_flat_rational_reduced_e (a0_num : Int) (a0_den : Int) (Q : Int → Int → Prop) (i0 : Int → Int → Int → Int → Int → Int → Prop) : Prop := cond (decide (a0_num < 0)) (i0 (w64 (0 - a0_num)) a0_den a0_num a0_den 0 0) (i0 a0_num a0_den a0_num a0_den 0 0)
def g_flat_rational_reduced_s0 (rec : Int → Int → Int → Int → Int → Int → Prop) (x0 : Int → Int → Int → Int → Int → Int → Prop) (t3 : Int) (t4 : Int) (c1_0 : Int) (c1_1 : Int) (c2_0 : Int) (c2_1 : Int) : Prop := cond (t3 != 0) ((((t3 : Int) ≠ 0) ∧ rec (Int.tmod t4 t3) t3 c1_0 c1_1 c2_0 c2_1)) (x0 t3 t4 c1_0 c1_1 c2_0 c2_1)
def g_flat_rational_reduced_c0_0 (Q : Int → Int → Prop) (t3 : Int) (t4 : Int) (c1_0 : Int) (c1_1 : Int) (c2_0 : Int) (c2_1 : Int) : Prop := (((t4 : Int) ≠ 0) ∧ (((t4 : Int) ≠ 0) ∧ Q (w64 (Int.tdiv c1_0 t4)) (w64 (Int.tdiv c1_1 t4))))
def w_flat_rational_reduced_0 (F : Nat) (x0 : Int → Int → Int → Int → Int → Int → Prop) : Nat → Int → Int → Int → Int → Int → Int → Prop
  | 0, _, _, _, _, _, _ => False
  | n + 1, t3, t4, c1_0, c1_1, c2_0, c2_1 => g_flat_rational_reduced_s0 (w_flat_rational_reduced_0 F x0 n) x0 t3 t4 c1_0 c1_1 c2_0 c2_1
def n_flat_rational_reduced_0 (F : Nat) (Q : Int → Int → Prop) (t3 : Int) (t4 : Int) (c1_0 : Int) (c1_1 : Int) (c2_0 : Int) (c2_1 : Int) : Prop := w_flat_rational_reduced_0 F (fun t3 t4 c1_0 c1_1 c2_0 c2_1 => g_flat_rational_reduced_c0_0 Q t3 t4 c1_0 c1_1 c2_0 c2_1) F t3 t4 c1_0 c1_1 c2_0 c2_1
def w_flat_rational_reduced (F : Nat) (a0_num : Int) (a0_den : Int) (Q : Int → Int → Prop) : Prop := g_flat_rational_reduced_e a0_num a0_den Q (n_flat_rational_reduced_0 F Q)
/-! ### sheetmetal/sheetmetalref03.lowest -/
def M_ref03_lowest : Nat → Nat → Canon UU := fun b r => cond (Nat.beq b 0) ⟨[0, 1, 4, 5, 6], [4], []⟩ (⟨[], [], []⟩)
def st_ref03_lowest_0 (t0 : Int) (t1 : Int) (t5 : Int) (t6 : Int) (c4_0 : Int) (c4_1 : Int) : ASt UU := ⟨fun u => cond (Nat.beq u 0) (.int .i64 t0) (cond (Nat.beq u 1) (.int .i64 t1) (cond (Nat.beq u 4) (.ptr 4 0) (cond (Nat.beq u 5) (.int .i64 t5) (cond (Nat.beq u 6) (.int .i64 t6) (.any))))), fun u => cond (Nat.beq u 4) (some (.cells [.int .i64 c4_0, .int .i64 c4_1])) (none)⟩
def g_ref03_lowest_e (a0 : Int) (a1 : Int) (Q : Int → Int → Prop) (i0 : Int → Int → Int → Int → Int → Int → Prop) : Prop := cond (decide (a0 < 0)) (i0 a0 a1 (w64 (0 - a0)) a1 0 0) (i0 a0 a1 a0 a1 0 0)
def g_ref03_lowest_s0 (rec : Int → Int → Int → Int → Int → Int → Prop) (x0 : Int → Int → Int → Int → Int → Int → Prop) (t0 : Int) (t1 : Int) (t5 : Int) (t6 : Int) (c4_0 : Int) (c4_1 : Int) : Prop := cond (t6 != 0) ((((t6 : Int) ≠ 0) ∧ rec t0 t1 t6 (Int.tmod t5 t6) c4_0 c4_1)) (x0 t0 t1 t5 t6 c4_0 c4_1)
def g_ref03_lowest_c0_0 (Q : Int → Int → Prop) (t0 : Int) (t1 : Int) (t5 : Int) (t6 : Int) (c4_0 : Int) (c4_1 : Int) : Prop := (((t5 : Int) ≠ 0) ∧ (((t5 : Int) ≠ 0) ∧ Q (w64 (Int.tdiv t0 t5)) (w64 (Int.tdiv t1 t5))))
def w_ref03_lowest_0 (F : Nat) (x0 : Int → Int → Int → Int → Int → Int → Prop) : Nat → Int → Int → Int → Int → Int → Int → Prop
  | 0, _, _, _, _, _, _ => False
  | n + 1, t0, t1, t5, t6, c4_0, c4_1 => g_ref03_lowest_s0 (w_ref03_lowest_0 F x0 n) x0 t0 t1 t5 t6 c4_0 c4_1
def n_ref03_lowest_0 (F : Nat) (Q : Int → Int → Prop) (t0 : Int) (t1 : Int) (t5 : Int) (t6 : Int) (c4_0 : Int) (c4_1 : Int) : Prop := w_ref03_lowest_0 F (fun t0 t1 t5 t6 c4_0 c4_1 => g_ref03_lowest_c0_0 Q t0 t1 t5 t6 c4_0 c4_1) F t0 t1 t5 t6 c4_0 c4_1
def w_ref03_lowest (F : Nat) (a0 : Int) (a1 : Int) (Q : Int → Int → Prop) : Prop := g_ref03_lowest_e a0 a1 Q (n_ref03_lowest_0 F Q)
end
end Go.Proofs.Ytohecfbnmmgimaa
