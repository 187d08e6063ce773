/- What pieces of code must make hold, in plain Lean; printed by gen.py. Conditions: none; definitions. -/
import Derived.Test.YtohecfbnmmgimaaHJ
namespace Go.Proofs.Ytohecfbnmmgimaa
open Go.Vm Go.RowKit
set_option linter.unusedVariables false
noncomputable section
/-! ### sheetmetal/flat.mapped$1 -/
def M_allS : Nat → Nat → Canon UU := fun b r => cond (Nat.beq b 0) ⟨[1, 4, 7, 8, 9], [], [(.tmp 4, 21, .rect)]⟩ (⟨[], [], []⟩)
def st_allS_0 (t1_0_0_0 : Int) (t1_0_0_1 : Int) (t1_0_0_2 : Int) (t1_0_0_3 : Int) (t7 : List Rect) (t8 : Int) (t9 : Int) (l21 : List Rect) : ASt UU := ⟨fun u => cond (Nat.beq u 1) (.ref [.fn 59 [.ref [.int .i64 t1_0_0_0, .int .i64 t1_0_0_1, .int .i64 t1_0_0_2, .int .i64 t1_0_0_3] 0]] 0) (cond (Nat.beq u 4) (.osl 21 0) (cond (Nat.beq u 7) (.sl .rect t7) (cond (Nat.beq u 8) (.int .i64 t8) (cond (Nat.beq u 9) (.int .i64 t9) (.any))))), fun u => cond (Nat.beq u 21) (some (.row .rect 0 l21)) (none)⟩
def g_allS_e (a0 : List Rect) (b_X : Int) (b_Y : Int) (b_W : Int) (b_H : Int) (Q : List Rect → Prop) (i0 : Int → Int → Int → Int → List Rect → Int → Int → List Rect → Prop) : Prop := i0 b_X b_Y b_W b_H a0 (a0.length : Int) 0 ([])
def g_allS_s0 (rec : Int → Int → Int → Int → List Rect → Int → Int → List Rect → Prop) (x0 : Int → Int → Int → Int → List Rect → Int → Int → List Rect → Prop) (t1_0_0_0 : Int) (t1_0_0_1 : Int) (t1_0_0_2 : Int) (t1_0_0_3 : Int) (t7 : List Rect) (t8 : Int) (t9 : Int) (l21 : List Rect) : Prop := cond (decide (t9 < t8)) ((let e0 := (t7.getD t9.toNat default); ((0 ≤ t9 ∧ t9 < t7.length) ∧ (let r1 := (sp_flat_settled_1 e0.X e0.Y e0.W e0.H t1_0_0_0 t1_0_0_1 t1_0_0_2 t1_0_0_3); (((l21.length + ([(Rect.mk r1.1 r1.2.1 r1.2.2.1 r1.2.2.2)]).length) * 32 ≤ 140737488355328) ∧ rec t1_0_0_0 t1_0_0_1 t1_0_0_2 t1_0_0_3 t7 t8 (w64 (t9 + 1)) (l21 ++ ([(Rect.mk r1.1 r1.2.1 r1.2.2.1 r1.2.2.2)]))))))) (x0 t1_0_0_0 t1_0_0_1 t1_0_0_2 t1_0_0_3 t7 t8 t9 l21)
def g_allS_c0_0 (Q : List Rect → Prop) (t1_0_0_0 : Int) (t1_0_0_1 : Int) (t1_0_0_2 : Int) (t1_0_0_3 : Int) (t7 : List Rect) (t8 : Int) (t9 : Int) (l21 : List Rect) : Prop := Q l21
def w_allS_0 (F : Nat) (x0 : Int → Int → Int → Int → List Rect → Int → Int → List Rect → Prop) : Nat → Int → Int → Int → Int → List Rect → Int → Int → List Rect → Prop
  | 0, _, _, _, _, _, _, _, _ => False
  | n + 1, t1_0_0_0, t1_0_0_1, t1_0_0_2, t1_0_0_3, t7, t8, t9, l21 => g_allS_s0 (w_allS_0 F x0 n) x0 t1_0_0_0 t1_0_0_1 t1_0_0_2 t1_0_0_3 t7 t8 t9 l21
def n_allS_0 (F : Nat) (Q : List Rect → Prop) (t1_0_0_0 : Int) (t1_0_0_1 : Int) (t1_0_0_2 : Int) (t1_0_0_3 : Int) (t7 : List Rect) (t8 : Int) (t9 : Int) (l21 : List Rect) : Prop := w_allS_0 F (fun t1_0_0_0 t1_0_0_1 t1_0_0_2 t1_0_0_3 t7 t8 t9 l21 => g_allS_c0_0 Q t1_0_0_0 t1_0_0_1 t1_0_0_2 t1_0_0_3 t7 t8 t9 l21) F t1_0_0_0 t1_0_0_1 t1_0_0_2 t1_0_0_3 t7 t8 t9 l21
def w_allS (F : Nat) (a0 : List Rect) (b_X : Int) (b_Y : Int) (b_W : Int) (b_H : Int) (Q : List Rect → Prop) : Prop := g_allS_e a0 b_X b_Y b_W b_H Q (n_allS_0 F Q)
/-! ### sheetmetal/flat.mapped$1 -/
def M_allQ : Nat → Nat → Canon UU := fun b r => cond (Nat.beq b 0) ⟨[1, 4, 7, 8, 9], [], [(.tmp 4, 21, .rect)]⟩ (⟨[], [], []⟩)
def st_allQ_0 (t7 : List Rect) (t8 : Int) (t9 : Int) (l21 : List Rect) : ASt UU := ⟨fun u => cond (Nat.beq u 1) (.ref [.fn 63 []] 0) (cond (Nat.beq u 4) (.osl 21 0) (cond (Nat.beq u 7) (.sl .rect t7) (cond (Nat.beq u 8) (.int .i64 t8) (cond (Nat.beq u 9) (.int .i64 t9) (.any))))), fun u => cond (Nat.beq u 21) (some (.row .rect 0 l21)) (none)⟩
def g_allQ_e (a0 : List Rect) (Q : List Rect → Prop) (i0 : List Rect → Int → Int → List Rect → Prop) : Prop := i0 a0 (a0.length : Int) 0 ([])
def g_allQ_s0 (rec : List Rect → Int → Int → List Rect → Prop) (x0 : List Rect → Int → Int → List Rect → Prop) (t7 : List Rect) (t8 : Int) (t9 : Int) (l21 : List Rect) : Prop := cond (decide (t9 < t8)) ((let e0 := (t7.getD t9.toNat default); ((0 ≤ t9 ∧ t9 < t7.length) ∧ (let r1 := (sp_flat_quarter_1 e0.X e0.Y e0.W e0.H); (((l21.length + ([(Rect.mk r1.1 r1.2.1 r1.2.2.1 r1.2.2.2)]).length) * 32 ≤ 140737488355328) ∧ rec t7 t8 (w64 (t9 + 1)) (l21 ++ ([(Rect.mk r1.1 r1.2.1 r1.2.2.1 r1.2.2.2)]))))))) (x0 t7 t8 t9 l21)
def g_allQ_c0_0 (Q : List Rect → Prop) (t7 : List Rect) (t8 : Int) (t9 : Int) (l21 : List Rect) : Prop := Q l21
def w_allQ_0 (F : Nat) (x0 : List Rect → Int → Int → List Rect → Prop) : Nat → List Rect → Int → Int → List Rect → Prop
  | 0, _, _, _, _ => False
  | n + 1, t7, t8, t9, l21 => g_allQ_s0 (w_allQ_0 F x0 n) x0 t7 t8 t9 l21
def n_allQ_0 (F : Nat) (Q : List Rect → Prop) (t7 : List Rect) (t8 : Int) (t9 : Int) (l21 : List Rect) : Prop := w_allQ_0 F (fun t7 t8 t9 l21 => g_allQ_c0_0 Q t7 t8 t9 l21) F t7 t8 t9 l21
def w_allQ (F : Nat) (a0 : List Rect) (Q : List Rect → Prop) : Prop := g_allQ_e a0 Q (n_allQ_0 F Q)
/-! ### (sheetmetal/sheetmetalref03.move).point -/
def M_ref03_move_point : Nat → Nat → Canon UU := fun b r => cond (Nat.beq b 0) ⟨[1, 2, 3, 8], [3], []⟩ (⟨[], [], []⟩)
def st_ref03_move_point_0 (t1 : Int) (t2 : Int) (t8 : Int) (c3_0 : Int) (c3_1 : Int) (c3_2 : Int) : ASt UU := ⟨fun u => cond (Nat.beq u 1) (.int .i64 t1) (cond (Nat.beq u 2) (.int .i64 t2) (cond (Nat.beq u 3) (.ptr 3 0) (cond (Nat.beq u 8) (.int .i64 t8) (.any)))), fun u => cond (Nat.beq u 3) (some (.cells [.int .i64 c3_0, .int .i64 c3_1, .int .i64 c3_2])) (none)⟩
def g_ref03_move_point_e (a0_turns : Int) (a0_x : Int) (a0_y : Int) (a1 : Int) (a2 : Int) (Q : Int → Int → Prop) (i0 : Int → Int → Int → Int → Int → Int → Prop) : Prop := i0 a1 a2 0 a0_turns a0_x a0_y
def g_ref03_move_point_s0 (rec : Int → Int → Int → Int → Int → Int → Prop) (x0 : Int → Int → Int → Int → Int → Int → Prop) (t1 : Int) (t2 : Int) (t8 : Int) (c3_0 : Int) (c3_1 : Int) (c3_2 : Int) : Prop := cond (decide (t8 < c3_0)) (rec (w64 (0 - t2)) t1 (w64 (t8 + 1)) c3_0 c3_1 c3_2) (x0 t1 t2 t8 c3_0 c3_1 c3_2)
def g_ref03_move_point_c0_0 (Q : Int → Int → Prop) (t1 : Int) (t2 : Int) (t8 : Int) (c3_0 : Int) (c3_1 : Int) (c3_2 : Int) : Prop := Q (w64 (t1 + c3_1)) (w64 (t2 + c3_2))
def w_ref03_move_point_0 (F : Nat) (x0 : Int → Int → Int → Int → Int → Int → Prop) : Nat → Int → Int → Int → Int → Int → Int → Prop
  | 0, _, _, _, _, _, _ => False
  | n + 1, t1, t2, t8, c3_0, c3_1, c3_2 => g_ref03_move_point_s0 (w_ref03_move_point_0 F x0 n) x0 t1 t2 t8 c3_0 c3_1 c3_2
def n_ref03_move_point_0 (F : Nat) (Q : Int → Int → Prop) (t1 : Int) (t2 : Int) (t8 : Int) (c3_0 : Int) (c3_1 : Int) (c3_2 : Int) : Prop := w_ref03_move_point_0 F (fun t1 t2 t8 c3_0 c3_1 c3_2 => g_ref03_move_point_c0_0 Q t1 t2 t8 c3_0 c3_1 c3_2) F t1 t2 t8 c3_0 c3_1 c3_2
def w_ref03_move_point (F : Nat) (a0_turns : Int) (a0_x : Int) (a0_y : Int) (a1 : Int) (a2 : Int) (Q : Int → Int → Prop) : Prop := g_ref03_move_point_e a0_turns a0_x a0_y a1 a2 Q (n_ref03_move_point_0 F Q)
end
end Go.Proofs.Ytohecfbnmmgimaa
