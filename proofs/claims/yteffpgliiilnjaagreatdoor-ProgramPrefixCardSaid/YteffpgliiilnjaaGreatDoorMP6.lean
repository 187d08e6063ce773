/- Texts of this proof, one behind another: What pieces of code must make hold, in plain Lean; printed by gen.py. Conditions: none; de; program.FormatOps: the text of a program in a dialect. Conditions: none.; What pieces of code must make hold, in plain Lean; printed by gen.py. Conditions: none; de; The chapter's second example. Conditions: none.; What pieces of code must make hold, in plain Lean; printed by gen.py. Conditions: none; de; What pieces of code must make hold, in plain Lean; printed by gen.py. Conditions: none; de; The law ProgramRuns, in plain words. Conditions: none.; The law ProgramPrefix, in plain words. Conditions: none.; That the code says what the printed pieces say, by the kernel; printed by gen.py. Conditio; That the code says what the printed pieces say, by the kernel; printed by gen.py. Conditio; That the code says what the printed pieces say, by the kernel; printed by gen.py. Conditio; That the code says what the printed pieces say, by the kernel; printed by gen.py. Conditio; That the code says what the printed pieces say, by the kernel; printed by gen.py. Conditio; That the code says what the printed pieces say, by the kernel; printed by gen.py. Conditio; slices.Clone of lines and of rectangles: a new slice of the same elements. Conditions: non. Conditions: none. -/
import Derived.Test.YteffpgliiilnjaaGreatDoorMP5
import Derived.Lib.ItoaLen
import Derived.Lib.ItoaNum
import Derived.Test.YteffpgliiilnjaaGreatDoorMP4
import Derived.WalkKit
import Derived.OwnWalk
import Derived.Lib.Walk
import Derived.Lib.SliceRun
import Derived.Deep.LoopGhost
namespace Go.Proofs.YteffpgliiilnjaaGreatDoor
open Go.Vm Go.RowKit
set_option linter.unusedVariables false
noncomputable section
/-! ### sheetmetal/program.FormatOps -/
def M_fo1 : Nat → Nat → Nat → Canon UU := fun o b r => cond (Nat.beq b 0) ⟨[4, 5, 6, 8, 9, 28, 29, 30], [6, 8, 9], [], [], []⟩ (cond (Nat.beq b 2) ⟨[4, 5, 6, 8, 9, 11, 28, 29, 30, 60, 61, 62], [6, 8, 9, 11], [], [], []⟩ (⟨[], [], [], [], []⟩))
def st_fo1_0 (t4 : ByteArray) (t5 : Int) (t28 : List Opn) (t29 : Int) (t30 : Int) (o8 : ByteArray) (c9_0 : Int) (c9_1 : Int) : ASt UU := ⟨fun u => cond (Nat.beq u 4) (.str t4) (cond (Nat.beq u 5) (.int .i64 t5) (cond (Nat.beq u 6) (.ptr 6 0) (cond (Nat.beq u 8) (.ptr 8 0) (cond (Nat.beq u 9) (.ptr 9 0) (cond (Nat.beq u 28) (.sl .op t28) (cond (Nat.beq u 29) (.int .i64 t29) (cond (Nat.beq u 30) (.int .i64 t30) (.any)))))))), fun u => cond (Nat.beq u 6) (some (.cells [.frz .W1, .fn 112 [], .fn 114 []])) (cond (Nat.beq u 8) (some (.opq .bld o8)) (cond (Nat.beq u 9) (some (.cells [.int .i64 c9_0, .int .i64 c9_1])) (none)))⟩
def st_fo1_1 (t4 : ByteArray) (t5 : Int) (t28 : List Opn) (t29 : Int) (t30 : Int) (t60 : List Int) (t61 : Int) (t62 : Int) (o8 : ByteArray) (c9_0 : Int) (c9_1 : Int) (c11_0 : Int) (c11_1 : Int) (c11_2 : Int) (c11_3 : Int) (c11_4 : Int) (c11_5 : Int) : ASt UU := ⟨fun u => cond (Nat.beq u 4) (.str t4) (cond (Nat.beq u 5) (.int .i64 t5) (cond (Nat.beq u 6) (.ptr 6 0) (cond (Nat.beq u 8) (.ptr 8 0) (cond (Nat.beq u 9) (.ptr 9 0) (cond (Nat.beq u 11) (.ptr 11 0) (cond (Nat.beq u 28) (.sl .op t28) (cond (Nat.beq u 29) (.int .i64 t29) (cond (Nat.beq u 30) (.int .i64 t30) (cond (Nat.beq u 60) (.sl .int t60) (cond (Nat.beq u 61) (.int .i64 t61) (cond (Nat.beq u 62) (.int .i64 t62) (.any)))))))))))), fun u => cond (Nat.beq u 6) (some (.cells [.frz .W1, .fn 112 [], .fn 114 []])) (cond (Nat.beq u 8) (some (.opq .bld o8)) (cond (Nat.beq u 9) (some (.cells [.int .i64 c9_0, .int .i64 c9_1])) (cond (Nat.beq u 11) (some (.cells [.int .i64 c11_0, .int .i64 c11_1, .int .i64 c11_2, .int .i64 c11_3, .int .i64 c11_4, .int .i64 c11_5])) (none))))⟩
def g_fo1_e (ops : List Opn) (Q : ByteArray → Int → Prop) (i0 : ByteArray → Int → List Opn → Int → Int → ByteArray → Int → Int → Prop) : Prop := cond (decide (4000 < (ops.length : Int))) (Q (ByteArray.mk #[]) 4) (i0 (ByteArray.mk #[]) 0 ops (ops.length : Int) 0 ByteArray.empty 0 0)
def g_fo1_s0 (rec : ByteArray → Int → List Opn → Int → Int → ByteArray → Int → Int → Prop) (x0 : ByteArray → Int → List Opn → Int → Int → ByteArray → Int → Int → Prop) (x1 : ByteArray → Int → List Opn → Int → Int → ByteArray → Int → Int → Prop) (t4 : ByteArray) (t5 : Int) (t28 : List Opn) (t29 : Int) (t30 : Int) (o8 : ByteArray) (c9_0 : Int) (c9_1 : Int) (i1 : ByteArray → Int → List Opn → Int → Int → List Int → Int → Int → ByteArray → Int → Int → Int → Int → Int → Int → Int → Int → Prop) : Prop := cond (decide (t30 < t29)) ((let e0 := (t28.getD t30.toNat default); ((0 ≤ t30 ∧ t30 < t28.length) ∧ (let r1 := (sp_program_clean e0.Kind e0.X e0.Y e0.W e0.H e0.N); (let r2 := (sp_program_inRange e0.Kind e0.X e0.Y e0.W e0.H e0.N); cond (((!(hasK [1, 2, 4, 3] e0.Kind)) || (!r1)) || (!r2)) (x0 (ByteArray.mk #[]) 16 t28 t29 t30 o8 c9_0 c9_1) (((1 ≤ (selW wl1 e0.Kind).size ∧ o8.size + (selW wl1 e0.Kind).size ≤ 140737488355328) ∧ (let r3 := (sp_program_dialects_1 e0.Kind e0.X e0.Y e0.W e0.H e0.N c9_0 c9_1); ((pre_program_dialects_1 e0.Kind e0.X e0.Y e0.W e0.H e0.N c9_0 c9_1) ∧ i1 t4 t5 t28 t29 t30 r3 (r3.length : Int) 0 (o8 ++ (selW wl1 e0.Kind)) c9_0 c9_1 e0.Kind e0.X e0.Y e0.W e0.H e0.N))))))))) (x1 t4 t5 t28 t29 t30 o8 c9_0 c9_1)
def g_fo1_c0_0 (Q : ByteArray → Int → Prop) (t4 : ByteArray) (t5 : Int) (t28 : List Opn) (t29 : Int) (t30 : Int) (o8 : ByteArray) (c9_0 : Int) (c9_1 : Int) : Prop := Q t4 t5
def g_fo1_c0_1 (Q : ByteArray → Int → Prop) (t4 : ByteArray) (t5 : Int) (t28 : List Opn) (t29 : Int) (t30 : Int) (o8 : ByteArray) (c9_0 : Int) (c9_1 : Int) : Prop := Q o8 0
def g_fo1_s1 (rec : ByteArray → Int → List Opn → Int → Int → List Int → Int → Int → ByteArray → Int → Int → Int → Int → Int → Int → Int → Int → Prop) (x0 : ByteArray → Int → List Opn → Int → Int → List Int → Int → Int → ByteArray → Int → Int → Int → Int → Int → Int → Int → Int → Prop) (t4 : ByteArray) (t5 : Int) (t28 : List Opn) (t29 : Int) (t30 : Int) (t60 : List Int) (t61 : Int) (t62 : Int) (o8 : ByteArray) (c9_0 : Int) (c9_1 : Int) (c11_0 : Int) (c11_1 : Int) (c11_2 : Int) (c11_3 : Int) (c11_4 : Int) (c11_5 : Int) : Prop := cond (decide (t62 < t61)) ((let e0 := (t60.getD t62.toNat default); ((0 ≤ t62 ∧ t62 < t60.length) ∧ (((-9223372036854775808 ≤ e0 ∧ e0 ≤ 9223372036854775807) ∧ ((((ByteArray.mk #[32]).size : Int) + (itoaB e0).size ≤ 9223372036854775807) ∧ (1 ≤ ((ByteArray.mk #[32]) ++ (itoaB e0)).size ∧ o8.size + ((ByteArray.mk #[32]) ++ (itoaB e0)).size ≤ 140737488355328))) ∧ rec t4 t5 t28 t29 t30 t60 t61 (w64 (t62 + 1)) (o8 ++ ((ByteArray.mk #[32]) ++ (itoaB e0))) c9_0 c9_1 c11_0 c11_1 c11_2 c11_3 c11_4 c11_5)))) (x0 t4 t5 t28 t29 t30 t60 t61 t62 o8 c9_0 c9_1 c11_0 c11_1 c11_2 c11_3 c11_4 c11_5)
def g_fo1_c1_0 (rec : ByteArray → Int → List Opn → Int → Int → ByteArray → Int → Int → Prop) (x0 : ByteArray → Int → List Opn → Int → Int → ByteArray → Int → Int → Prop) (x1 : ByteArray → Int → List Opn → Int → Int → ByteArray → Int → Int → Prop) (t4 : ByteArray) (t5 : Int) (t28 : List Opn) (t29 : Int) (t30 : Int) (t60 : List Int) (t61 : Int) (t62 : Int) (o8 : ByteArray) (c9_0 : Int) (c9_1 : Int) (c11_0 : Int) (c11_1 : Int) (c11_2 : Int) (c11_3 : Int) (c11_4 : Int) (c11_5 : Int) : Prop := ((1 ≤ (ByteArray.mk #[10]).size ∧ o8.size + (ByteArray.mk #[10]).size ≤ 140737488355328) ∧ (let r0 := (sp_program_after c11_0 c11_1 c11_2 c11_3 c11_4 c11_5 c9_0 c9_1); rec t4 t5 t28 t29 (w64 (t30 + 1)) (o8 ++ (ByteArray.mk #[10])) r0.1 r0.2))
def w_fo1_1 (F : Nat) (x0 : ByteArray → Int → List Opn → Int → Int → List Int → Int → Int → ByteArray → Int → Int → Int → Int → Int → Int → Int → Int → Prop) : Nat → ByteArray → Int → List Opn → Int → Int → List Int → Int → Int → ByteArray → Int → Int → Int → Int → Int → Int → Int → Int → Prop
  | 0, _, _, _, _, _, _, _, _, _, _, _, _, _, _, _, _, _ => False
  | n + 1, t4, t5, t28, t29, t30, t60, t61, t62, o8, c9_0, c9_1, c11_0, c11_1, c11_2, c11_3, c11_4, c11_5 => g_fo1_s1 (w_fo1_1 F x0 n) x0 t4 t5 t28 t29 t30 t60 t61 t62 o8 c9_0 c9_1 c11_0 c11_1 c11_2 c11_3 c11_4 c11_5
def n_fo1_1 (F : Nat) (rec : ByteArray → Int → List Opn → Int → Int → ByteArray → Int → Int → Prop) (x0 : ByteArray → Int → List Opn → Int → Int → ByteArray → Int → Int → Prop) (x1 : ByteArray → Int → List Opn → Int → Int → ByteArray → Int → Int → Prop) (t4 : ByteArray) (t5 : Int) (t28 : List Opn) (t29 : Int) (t30 : Int) (t60 : List Int) (t61 : Int) (t62 : Int) (o8 : ByteArray) (c9_0 : Int) (c9_1 : Int) (c11_0 : Int) (c11_1 : Int) (c11_2 : Int) (c11_3 : Int) (c11_4 : Int) (c11_5 : Int) : Prop := w_fo1_1 F (fun t4 t5 t28 t29 t30 t60 t61 t62 o8 c9_0 c9_1 c11_0 c11_1 c11_2 c11_3 c11_4 c11_5 => g_fo1_c1_0 rec x0 x1 t4 t5 t28 t29 t30 t60 t61 t62 o8 c9_0 c9_1 c11_0 c11_1 c11_2 c11_3 c11_4 c11_5) F t4 t5 t28 t29 t30 t60 t61 t62 o8 c9_0 c9_1 c11_0 c11_1 c11_2 c11_3 c11_4 c11_5
def w_fo1_0 (F : Nat) (x0 : ByteArray → Int → List Opn → Int → Int → ByteArray → Int → Int → Prop) (x1 : ByteArray → Int → List Opn → Int → Int → ByteArray → Int → Int → Prop) : Nat → ByteArray → Int → List Opn → Int → Int → ByteArray → Int → Int → Prop
  | 0, _, _, _, _, _, _, _, _ => False
  | n + 1, t4, t5, t28, t29, t30, o8, c9_0, c9_1 => g_fo1_s0 (w_fo1_0 F x0 x1 n) x0 x1 t4 t5 t28 t29 t30 o8 c9_0 c9_1 (n_fo1_1 F (w_fo1_0 F x0 x1 n) x0 x1)
def n_fo1_0 (F : Nat) (Q : ByteArray → Int → Prop) (t4 : ByteArray) (t5 : Int) (t28 : List Opn) (t29 : Int) (t30 : Int) (o8 : ByteArray) (c9_0 : Int) (c9_1 : Int) : Prop := w_fo1_0 F (fun t4 t5 t28 t29 t30 o8 c9_0 c9_1 => g_fo1_c0_0 Q t4 t5 t28 t29 t30 o8 c9_0 c9_1) (fun t4 t5 t28 t29 t30 o8 c9_0 c9_1 => g_fo1_c0_1 Q t4 t5 t28 t29 t30 o8 c9_0 c9_1) F t4 t5 t28 t29 t30 o8 c9_0 c9_1
def w_fo1 (F : Nat) (ops : List Opn) (Q : ByteArray → Int → Prop) : Prop := g_fo1_e ops Q (n_fo1_0 F Q)
/-! ### sheetmetal/program.FormatOps -/
def M_fo2 : Nat → Nat → Nat → Canon UU := fun o b r => cond (Nat.beq b 0) ⟨[4, 5, 6, 8, 9, 28, 29, 30], [6, 8, 9], [], [], []⟩ (cond (Nat.beq b 2) ⟨[4, 5, 6, 8, 9, 11, 28, 29, 30, 60, 61, 62], [6, 8, 9, 11], [], [], []⟩ (⟨[], [], [], [], []⟩))
def st_fo2_0 (t4 : ByteArray) (t5 : Int) (t28 : List Opn) (t29 : Int) (t30 : Int) (o8 : ByteArray) (c9_0 : Int) (c9_1 : Int) : ASt UU := ⟨fun u => cond (Nat.beq u 4) (.str t4) (cond (Nat.beq u 5) (.int .i64 t5) (cond (Nat.beq u 6) (.ptr 6 0) (cond (Nat.beq u 8) (.ptr 8 0) (cond (Nat.beq u 9) (.ptr 9 0) (cond (Nat.beq u 28) (.sl .op t28) (cond (Nat.beq u 29) (.int .i64 t29) (cond (Nat.beq u 30) (.int .i64 t30) (.any)))))))), fun u => cond (Nat.beq u 6) (some (.cells [.frz .W2, .fn 113 [], .fn 115 []])) (cond (Nat.beq u 8) (some (.opq .bld o8)) (cond (Nat.beq u 9) (some (.cells [.int .i64 c9_0, .int .i64 c9_1])) (none)))⟩
def st_fo2_1 (t4 : ByteArray) (t5 : Int) (t28 : List Opn) (t29 : Int) (t30 : Int) (t60 : List Int) (t61 : Int) (t62 : Int) (o8 : ByteArray) (c9_0 : Int) (c9_1 : Int) (c11_0 : Int) (c11_1 : Int) (c11_2 : Int) (c11_3 : Int) (c11_4 : Int) (c11_5 : Int) : ASt UU := ⟨fun u => cond (Nat.beq u 4) (.str t4) (cond (Nat.beq u 5) (.int .i64 t5) (cond (Nat.beq u 6) (.ptr 6 0) (cond (Nat.beq u 8) (.ptr 8 0) (cond (Nat.beq u 9) (.ptr 9 0) (cond (Nat.beq u 11) (.ptr 11 0) (cond (Nat.beq u 28) (.sl .op t28) (cond (Nat.beq u 29) (.int .i64 t29) (cond (Nat.beq u 30) (.int .i64 t30) (cond (Nat.beq u 60) (.sl .int t60) (cond (Nat.beq u 61) (.int .i64 t61) (cond (Nat.beq u 62) (.int .i64 t62) (.any)))))))))))), fun u => cond (Nat.beq u 6) (some (.cells [.frz .W2, .fn 113 [], .fn 115 []])) (cond (Nat.beq u 8) (some (.opq .bld o8)) (cond (Nat.beq u 9) (some (.cells [.int .i64 c9_0, .int .i64 c9_1])) (cond (Nat.beq u 11) (some (.cells [.int .i64 c11_0, .int .i64 c11_1, .int .i64 c11_2, .int .i64 c11_3, .int .i64 c11_4, .int .i64 c11_5])) (none))))⟩
def g_fo2_e (ops : List Opn) (Q : ByteArray → Int → Prop) (i0 : ByteArray → Int → List Opn → Int → Int → ByteArray → Int → Int → Prop) : Prop := cond (decide (4000 < (ops.length : Int))) (Q (ByteArray.mk #[]) 4) (i0 (ByteArray.mk #[]) 0 ops (ops.length : Int) 0 ByteArray.empty 0 0)
def g_fo2_s0 (rec : ByteArray → Int → List Opn → Int → Int → ByteArray → Int → Int → Prop) (x0 : ByteArray → Int → List Opn → Int → Int → ByteArray → Int → Int → Prop) (x1 : ByteArray → Int → List Opn → Int → Int → ByteArray → Int → Int → Prop) (t4 : ByteArray) (t5 : Int) (t28 : List Opn) (t29 : Int) (t30 : Int) (o8 : ByteArray) (c9_0 : Int) (c9_1 : Int) (i1 : ByteArray → Int → List Opn → Int → Int → List Int → Int → Int → ByteArray → Int → Int → Int → Int → Int → Int → Int → Int → Prop) : Prop := cond (decide (t30 < t29)) ((let e0 := (t28.getD t30.toNat default); ((0 ≤ t30 ∧ t30 < t28.length) ∧ (let r1 := (sp_program_clean e0.Kind e0.X e0.Y e0.W e0.H e0.N); (let r2 := (sp_program_inRange e0.Kind e0.X e0.Y e0.W e0.H e0.N); cond (((!(hasK [1, 2, 4, 3] e0.Kind)) || (!r1)) || (!r2)) (x0 (ByteArray.mk #[]) 16 t28 t29 t30 o8 c9_0 c9_1) (((1 ≤ (selW wl2 e0.Kind).size ∧ o8.size + (selW wl2 e0.Kind).size ≤ 140737488355328) ∧ (let r3 := (sp_program_placed e0.Kind e0.X e0.Y e0.W e0.H e0.N c9_0 c9_1); ((pre_program_placed e0.Kind e0.X e0.Y e0.W e0.H e0.N c9_0 c9_1) ∧ i1 t4 t5 t28 t29 t30 r3 (r3.length : Int) 0 (o8 ++ (selW wl2 e0.Kind)) c9_0 c9_1 e0.Kind e0.X e0.Y e0.W e0.H e0.N))))))))) (x1 t4 t5 t28 t29 t30 o8 c9_0 c9_1)
def g_fo2_c0_0 (Q : ByteArray → Int → Prop) (t4 : ByteArray) (t5 : Int) (t28 : List Opn) (t29 : Int) (t30 : Int) (o8 : ByteArray) (c9_0 : Int) (c9_1 : Int) : Prop := Q t4 t5
def g_fo2_c0_1 (Q : ByteArray → Int → Prop) (t4 : ByteArray) (t5 : Int) (t28 : List Opn) (t29 : Int) (t30 : Int) (o8 : ByteArray) (c9_0 : Int) (c9_1 : Int) : Prop := Q o8 0
def g_fo2_s1 (rec : ByteArray → Int → List Opn → Int → Int → List Int → Int → Int → ByteArray → Int → Int → Int → Int → Int → Int → Int → Int → Prop) (x0 : ByteArray → Int → List Opn → Int → Int → List Int → Int → Int → ByteArray → Int → Int → Int → Int → Int → Int → Int → Int → Prop) (t4 : ByteArray) (t5 : Int) (t28 : List Opn) (t29 : Int) (t30 : Int) (t60 : List Int) (t61 : Int) (t62 : Int) (o8 : ByteArray) (c9_0 : Int) (c9_1 : Int) (c11_0 : Int) (c11_1 : Int) (c11_2 : Int) (c11_3 : Int) (c11_4 : Int) (c11_5 : Int) : Prop := cond (decide (t62 < t61)) ((let e0 := (t60.getD t62.toNat default); ((0 ≤ t62 ∧ t62 < t60.length) ∧ (((-9223372036854775808 ≤ e0 ∧ e0 ≤ 9223372036854775807) ∧ ((((ByteArray.mk #[32]).size : Int) + (itoaB e0).size ≤ 9223372036854775807) ∧ (1 ≤ ((ByteArray.mk #[32]) ++ (itoaB e0)).size ∧ o8.size + ((ByteArray.mk #[32]) ++ (itoaB e0)).size ≤ 140737488355328))) ∧ rec t4 t5 t28 t29 t30 t60 t61 (w64 (t62 + 1)) (o8 ++ ((ByteArray.mk #[32]) ++ (itoaB e0))) c9_0 c9_1 c11_0 c11_1 c11_2 c11_3 c11_4 c11_5)))) (x0 t4 t5 t28 t29 t30 t60 t61 t62 o8 c9_0 c9_1 c11_0 c11_1 c11_2 c11_3 c11_4 c11_5)
def g_fo2_c1_0 (rec : ByteArray → Int → List Opn → Int → Int → ByteArray → Int → Int → Prop) (x0 : ByteArray → Int → List Opn → Int → Int → ByteArray → Int → Int → Prop) (x1 : ByteArray → Int → List Opn → Int → Int → ByteArray → Int → Int → Prop) (t4 : ByteArray) (t5 : Int) (t28 : List Opn) (t29 : Int) (t30 : Int) (t60 : List Int) (t61 : Int) (t62 : Int) (o8 : ByteArray) (c9_0 : Int) (c9_1 : Int) (c11_0 : Int) (c11_1 : Int) (c11_2 : Int) (c11_3 : Int) (c11_4 : Int) (c11_5 : Int) : Prop := ((1 ≤ (ByteArray.mk #[10]).size ∧ o8.size + (ByteArray.mk #[10]).size ≤ 140737488355328) ∧ (let r0 := (sp_program_after c11_0 c11_1 c11_2 c11_3 c11_4 c11_5 c9_0 c9_1); rec t4 t5 t28 t29 (w64 (t30 + 1)) (o8 ++ (ByteArray.mk #[10])) r0.1 r0.2))
def w_fo2_1 (F : Nat) (x0 : ByteArray → Int → List Opn → Int → Int → List Int → Int → Int → ByteArray → Int → Int → Int → Int → Int → Int → Int → Int → Prop) : Nat → ByteArray → Int → List Opn → Int → Int → List Int → Int → Int → ByteArray → Int → Int → Int → Int → Int → Int → Int → Int → Prop
  | 0, _, _, _, _, _, _, _, _, _, _, _, _, _, _, _, _, _ => False
  | n + 1, t4, t5, t28, t29, t30, t60, t61, t62, o8, c9_0, c9_1, c11_0, c11_1, c11_2, c11_3, c11_4, c11_5 => g_fo2_s1 (w_fo2_1 F x0 n) x0 t4 t5 t28 t29 t30 t60 t61 t62 o8 c9_0 c9_1 c11_0 c11_1 c11_2 c11_3 c11_4 c11_5
def n_fo2_1 (F : Nat) (rec : ByteArray → Int → List Opn → Int → Int → ByteArray → Int → Int → Prop) (x0 : ByteArray → Int → List Opn → Int → Int → ByteArray → Int → Int → Prop) (x1 : ByteArray → Int → List Opn → Int → Int → ByteArray → Int → Int → Prop) (t4 : ByteArray) (t5 : Int) (t28 : List Opn) (t29 : Int) (t30 : Int) (t60 : List Int) (t61 : Int) (t62 : Int) (o8 : ByteArray) (c9_0 : Int) (c9_1 : Int) (c11_0 : Int) (c11_1 : Int) (c11_2 : Int) (c11_3 : Int) (c11_4 : Int) (c11_5 : Int) : Prop := w_fo2_1 F (fun t4 t5 t28 t29 t30 t60 t61 t62 o8 c9_0 c9_1 c11_0 c11_1 c11_2 c11_3 c11_4 c11_5 => g_fo2_c1_0 rec x0 x1 t4 t5 t28 t29 t30 t60 t61 t62 o8 c9_0 c9_1 c11_0 c11_1 c11_2 c11_3 c11_4 c11_5) F t4 t5 t28 t29 t30 t60 t61 t62 o8 c9_0 c9_1 c11_0 c11_1 c11_2 c11_3 c11_4 c11_5
def w_fo2_0 (F : Nat) (x0 : ByteArray → Int → List Opn → Int → Int → ByteArray → Int → Int → Prop) (x1 : ByteArray → Int → List Opn → Int → Int → ByteArray → Int → Int → Prop) : Nat → ByteArray → Int → List Opn → Int → Int → ByteArray → Int → Int → Prop
  | 0, _, _, _, _, _, _, _, _ => False
  | n + 1, t4, t5, t28, t29, t30, o8, c9_0, c9_1 => g_fo2_s0 (w_fo2_0 F x0 x1 n) x0 x1 t4 t5 t28 t29 t30 o8 c9_0 c9_1 (n_fo2_1 F (w_fo2_0 F x0 x1 n) x0 x1)
def n_fo2_0 (F : Nat) (Q : ByteArray → Int → Prop) (t4 : ByteArray) (t5 : Int) (t28 : List Opn) (t29 : Int) (t30 : Int) (o8 : ByteArray) (c9_0 : Int) (c9_1 : Int) : Prop := w_fo2_0 F (fun t4 t5 t28 t29 t30 o8 c9_0 c9_1 => g_fo2_c0_0 Q t4 t5 t28 t29 t30 o8 c9_0 c9_1) (fun t4 t5 t28 t29 t30 o8 c9_0 c9_1 => g_fo2_c0_1 Q t4 t5 t28 t29 t30 o8 c9_0 c9_1) F t4 t5 t28 t29 t30 o8 c9_0 c9_1
def w_fo2 (F : Nat) (ops : List Opn) (Q : ByteArray → Int → Prop) : Prop := g_fo2_e ops Q (n_fo2_0 F Q)
/-! ### sheetmetal/program.FormatOps -/
def M_fo3 : Nat → Nat → Nat → Canon UU := fun o b r => cond (Nat.beq b 0) ⟨[4, 5, 6, 8, 9, 28, 29, 30], [6, 8, 9], [], [], []⟩ (cond (Nat.beq b 2) ⟨[4, 5, 6, 8, 9, 11, 28, 29, 30, 60, 61, 62], [6, 8, 9, 11], [], [], []⟩ (⟨[], [], [], [], []⟩))
def st_fo3_0 (t4 : ByteArray) (t5 : Int) (t28 : List Opn) (t29 : Int) (t30 : Int) (o8 : ByteArray) (c9_0 : Int) (c9_1 : Int) : ASt UU := ⟨fun u => cond (Nat.beq u 4) (.str t4) (cond (Nat.beq u 5) (.int .i64 t5) (cond (Nat.beq u 6) (.ptr 6 0) (cond (Nat.beq u 8) (.ptr 8 0) (cond (Nat.beq u 9) (.ptr 9 0) (cond (Nat.beq u 28) (.sl .op t28) (cond (Nat.beq u 29) (.int .i64 t29) (cond (Nat.beq u 30) (.int .i64 t30) (.any)))))))), fun u => cond (Nat.beq u 6) (some (.cells [.frz .W3, .fn 116 [], .fn 117 []])) (cond (Nat.beq u 8) (some (.opq .bld o8)) (cond (Nat.beq u 9) (some (.cells [.int .i64 c9_0, .int .i64 c9_1])) (none)))⟩
def st_fo3_1 (t4 : ByteArray) (t5 : Int) (t28 : List Opn) (t29 : Int) (t30 : Int) (t60 : List Int) (t61 : Int) (t62 : Int) (o8 : ByteArray) (c9_0 : Int) (c9_1 : Int) (c11_0 : Int) (c11_1 : Int) (c11_2 : Int) (c11_3 : Int) (c11_4 : Int) (c11_5 : Int) : ASt UU := ⟨fun u => cond (Nat.beq u 4) (.str t4) (cond (Nat.beq u 5) (.int .i64 t5) (cond (Nat.beq u 6) (.ptr 6 0) (cond (Nat.beq u 8) (.ptr 8 0) (cond (Nat.beq u 9) (.ptr 9 0) (cond (Nat.beq u 11) (.ptr 11 0) (cond (Nat.beq u 28) (.sl .op t28) (cond (Nat.beq u 29) (.int .i64 t29) (cond (Nat.beq u 30) (.int .i64 t30) (cond (Nat.beq u 60) (.sl .int t60) (cond (Nat.beq u 61) (.int .i64 t61) (cond (Nat.beq u 62) (.int .i64 t62) (.any)))))))))))), fun u => cond (Nat.beq u 6) (some (.cells [.frz .W3, .fn 116 [], .fn 117 []])) (cond (Nat.beq u 8) (some (.opq .bld o8)) (cond (Nat.beq u 9) (some (.cells [.int .i64 c9_0, .int .i64 c9_1])) (cond (Nat.beq u 11) (some (.cells [.int .i64 c11_0, .int .i64 c11_1, .int .i64 c11_2, .int .i64 c11_3, .int .i64 c11_4, .int .i64 c11_5])) (none))))⟩
def g_fo3_e (ops : List Opn) (Q : ByteArray → Int → Prop) (i0 : ByteArray → Int → List Opn → Int → Int → ByteArray → Int → Int → Prop) : Prop := cond (decide (4000 < (ops.length : Int))) (Q (ByteArray.mk #[]) 4) (i0 (ByteArray.mk #[]) 0 ops (ops.length : Int) 0 ByteArray.empty 0 0)
def g_fo3_s0 (rec : ByteArray → Int → List Opn → Int → Int → ByteArray → Int → Int → Prop) (x0 : ByteArray → Int → List Opn → Int → Int → ByteArray → Int → Int → Prop) (x1 : ByteArray → Int → List Opn → Int → Int → ByteArray → Int → Int → Prop) (t4 : ByteArray) (t5 : Int) (t28 : List Opn) (t29 : Int) (t30 : Int) (o8 : ByteArray) (c9_0 : Int) (c9_1 : Int) (i1 : ByteArray → Int → List Opn → Int → Int → List Int → Int → Int → ByteArray → Int → Int → Int → Int → Int → Int → Int → Int → Prop) : Prop := cond (decide (t30 < t29)) ((let e0 := (t28.getD t30.toNat default); ((0 ≤ t30 ∧ t30 < t28.length) ∧ (let r1 := (sp_program_clean e0.Kind e0.X e0.Y e0.W e0.H e0.N); (let r2 := (sp_program_inRange e0.Kind e0.X e0.Y e0.W e0.H e0.N); cond (((!(hasK [5, 6] e0.Kind)) || (!r1)) || (!r2)) (x0 (ByteArray.mk #[]) 16 t28 t29 t30 o8 c9_0 c9_1) (((1 ≤ (selW wl3 e0.Kind).size ∧ o8.size + (selW wl3 e0.Kind).size ≤ 140737488355328) ∧ (let r3 := (sp_program_pressed e0.Kind e0.X e0.Y e0.W e0.H e0.N c9_0 c9_1); i1 t4 t5 t28 t29 t30 r3 (r3.length : Int) 0 (o8 ++ (selW wl3 e0.Kind)) c9_0 c9_1 e0.Kind e0.X e0.Y e0.W e0.H e0.N)))))))) (x1 t4 t5 t28 t29 t30 o8 c9_0 c9_1)
def g_fo3_c0_0 (Q : ByteArray → Int → Prop) (t4 : ByteArray) (t5 : Int) (t28 : List Opn) (t29 : Int) (t30 : Int) (o8 : ByteArray) (c9_0 : Int) (c9_1 : Int) : Prop := Q t4 t5
def g_fo3_c0_1 (Q : ByteArray → Int → Prop) (t4 : ByteArray) (t5 : Int) (t28 : List Opn) (t29 : Int) (t30 : Int) (o8 : ByteArray) (c9_0 : Int) (c9_1 : Int) : Prop := Q o8 0
def g_fo3_s1 (rec : ByteArray → Int → List Opn → Int → Int → List Int → Int → Int → ByteArray → Int → Int → Int → Int → Int → Int → Int → Int → Prop) (x0 : ByteArray → Int → List Opn → Int → Int → List Int → Int → Int → ByteArray → Int → Int → Int → Int → Int → Int → Int → Int → Prop) (t4 : ByteArray) (t5 : Int) (t28 : List Opn) (t29 : Int) (t30 : Int) (t60 : List Int) (t61 : Int) (t62 : Int) (o8 : ByteArray) (c9_0 : Int) (c9_1 : Int) (c11_0 : Int) (c11_1 : Int) (c11_2 : Int) (c11_3 : Int) (c11_4 : Int) (c11_5 : Int) : Prop := cond (decide (t62 < t61)) ((let e0 := (t60.getD t62.toNat default); ((0 ≤ t62 ∧ t62 < t60.length) ∧ (((-9223372036854775808 ≤ e0 ∧ e0 ≤ 9223372036854775807) ∧ ((((ByteArray.mk #[32]).size : Int) + (itoaB e0).size ≤ 9223372036854775807) ∧ (1 ≤ ((ByteArray.mk #[32]) ++ (itoaB e0)).size ∧ o8.size + ((ByteArray.mk #[32]) ++ (itoaB e0)).size ≤ 140737488355328))) ∧ rec t4 t5 t28 t29 t30 t60 t61 (w64 (t62 + 1)) (o8 ++ ((ByteArray.mk #[32]) ++ (itoaB e0))) c9_0 c9_1 c11_0 c11_1 c11_2 c11_3 c11_4 c11_5)))) (x0 t4 t5 t28 t29 t30 t60 t61 t62 o8 c9_0 c9_1 c11_0 c11_1 c11_2 c11_3 c11_4 c11_5)
def g_fo3_c1_0 (rec : ByteArray → Int → List Opn → Int → Int → ByteArray → Int → Int → Prop) (x0 : ByteArray → Int → List Opn → Int → Int → ByteArray → Int → Int → Prop) (x1 : ByteArray → Int → List Opn → Int → Int → ByteArray → Int → Int → Prop) (t4 : ByteArray) (t5 : Int) (t28 : List Opn) (t29 : Int) (t30 : Int) (t60 : List Int) (t61 : Int) (t62 : Int) (o8 : ByteArray) (c9_0 : Int) (c9_1 : Int) (c11_0 : Int) (c11_1 : Int) (c11_2 : Int) (c11_3 : Int) (c11_4 : Int) (c11_5 : Int) : Prop := ((1 ≤ (ByteArray.mk #[10]).size ∧ o8.size + (ByteArray.mk #[10]).size ≤ 140737488355328) ∧ (let r0 := (sp_program_after c11_0 c11_1 c11_2 c11_3 c11_4 c11_5 c9_0 c9_1); rec t4 t5 t28 t29 (w64 (t30 + 1)) (o8 ++ (ByteArray.mk #[10])) r0.1 r0.2))
def w_fo3_1 (F : Nat) (x0 : ByteArray → Int → List Opn → Int → Int → List Int → Int → Int → ByteArray → Int → Int → Int → Int → Int → Int → Int → Int → Prop) : Nat → ByteArray → Int → List Opn → Int → Int → List Int → Int → Int → ByteArray → Int → Int → Int → Int → Int → Int → Int → Int → Prop
  | 0, _, _, _, _, _, _, _, _, _, _, _, _, _, _, _, _, _ => False
  | n + 1, t4, t5, t28, t29, t30, t60, t61, t62, o8, c9_0, c9_1, c11_0, c11_1, c11_2, c11_3, c11_4, c11_5 => g_fo3_s1 (w_fo3_1 F x0 n) x0 t4 t5 t28 t29 t30 t60 t61 t62 o8 c9_0 c9_1 c11_0 c11_1 c11_2 c11_3 c11_4 c11_5
def n_fo3_1 (F : Nat) (rec : ByteArray → Int → List Opn → Int → Int → ByteArray → Int → Int → Prop) (x0 : ByteArray → Int → List Opn → Int → Int → ByteArray → Int → Int → Prop) (x1 : ByteArray → Int → List Opn → Int → Int → ByteArray → Int → Int → Prop) (t4 : ByteArray) (t5 : Int) (t28 : List Opn) (t29 : Int) (t30 : Int) (t60 : List Int) (t61 : Int) (t62 : Int) (o8 : ByteArray) (c9_0 : Int) (c9_1 : Int) (c11_0 : Int) (c11_1 : Int) (c11_2 : Int) (c11_3 : Int) (c11_4 : Int) (c11_5 : Int) : Prop := w_fo3_1 F (fun t4 t5 t28 t29 t30 t60 t61 t62 o8 c9_0 c9_1 c11_0 c11_1 c11_2 c11_3 c11_4 c11_5 => g_fo3_c1_0 rec x0 x1 t4 t5 t28 t29 t30 t60 t61 t62 o8 c9_0 c9_1 c11_0 c11_1 c11_2 c11_3 c11_4 c11_5) F t4 t5 t28 t29 t30 t60 t61 t62 o8 c9_0 c9_1 c11_0 c11_1 c11_2 c11_3 c11_4 c11_5
def w_fo3_0 (F : Nat) (x0 : ByteArray → Int → List Opn → Int → Int → ByteArray → Int → Int → Prop) (x1 : ByteArray → Int → List Opn → Int → Int → ByteArray → Int → Int → Prop) : Nat → ByteArray → Int → List Opn → Int → Int → ByteArray → Int → Int → Prop
  | 0, _, _, _, _, _, _, _, _ => False
  | n + 1, t4, t5, t28, t29, t30, o8, c9_0, c9_1 => g_fo3_s0 (w_fo3_0 F x0 x1 n) x0 x1 t4 t5 t28 t29 t30 o8 c9_0 c9_1 (n_fo3_1 F (w_fo3_0 F x0 x1 n) x0 x1)
def n_fo3_0 (F : Nat) (Q : ByteArray → Int → Prop) (t4 : ByteArray) (t5 : Int) (t28 : List Opn) (t29 : Int) (t30 : Int) (o8 : ByteArray) (c9_0 : Int) (c9_1 : Int) : Prop := w_fo3_0 F (fun t4 t5 t28 t29 t30 o8 c9_0 c9_1 => g_fo3_c0_0 Q t4 t5 t28 t29 t30 o8 c9_0 c9_1) (fun t4 t5 t28 t29 t30 o8 c9_0 c9_1 => g_fo3_c0_1 Q t4 t5 t28 t29 t30 o8 c9_0 c9_1) F t4 t5 t28 t29 t30 o8 c9_0 c9_1
def w_fo3 (F : Nat) (ops : List Opn) (Q : ByteArray → Int → Prop) : Prop := g_fo3_e ops Q (n_fo3_0 F Q)
/-! ### sheetmetal/program.FormatOps -/
def M_fo4 : Nat → Nat → Nat → Canon UU := fun o b r => ⟨[], [], [], [], []⟩
def g_fo4_e (m : Nat) (ops : List Opn) (Q : ByteArray → Int → Prop) : Prop := Q (ByteArray.mk #[]) 1
def w_fo4 (F : Nat) (m : Nat) (ops : List Opn) (Q : ByteArray → Int → Prop) : Prop := g_fo4_e m ops Q
/-! ### sheetmetal/program.FormatOps -/
def M_fo0 : Nat → Nat → Nat → Canon UU := fun o b r => ⟨[], [], [], [], []⟩
def g_fo0_e (ops : List Opn) (Q : ByteArray → Int → Prop) : Prop := Q (ByteArray.mk #[]) 1
def w_fo0 (F : Nat) (ops : List Opn) (Q : ByteArray → Int → Prop) : Prop := g_fo0_e ops Q
/-! ### sheetmetal/program.FormatOps -/
def M_fo5 : Nat → Nat → Nat → Canon UU := fun o b r => ⟨[], [], [], [], []⟩
def g_fo5_e (m : Nat) (ops : List Opn) (Q : ByteArray → Int → Prop) : Prop := Q (ByteArray.mk #[]) 1
def w_fo5 (F : Nat) (m : Nat) (ops : List Opn) (Q : ByteArray → Int → Prop) : Prop := g_fo5_e m ops Q
end
end Go.Proofs.YteffpgliiilnjaaGreatDoor

namespace Go.Proofs.YteffpgliiilnjaaGreatDoor
open Go.Vm Go.RowKit
set_option linter.unusedVariables false
noncomputable section

def bSpc : ByteArray := ByteArray.mk #[32]
def bNew : ByteArray := ByteArray.mk #[10]
def wnum (b : ByteArray) (n : Int) : ByteArray := b ++ (ByteArray.mk #[32] ++ itoaB n)
def cleanO (o : Opn) : Bool := sp_program_clean o.Kind o.X o.Y o.W o.H o.N
def rangeO (o : Opn) : Bool := sp_program_inRange o.Kind o.X o.Y o.W o.H o.N
def afterO (o : Opn) (x y : Int) : Int × Int := sp_program_after o.Kind o.X o.Y o.W o.H o.N x y
def badO (ks : List Int) (o : Opn) : Bool := ((!(hasK ks o.Kind)) || (!(cleanO o))) || (!(rangeO o))
/-- The text of operations behind a text, seen from a place; 16 if one of them is refused. -/
def fmtF (ks : List Int) (wl : List (Int × ByteArray)) (wr : Opn → Int → Int → List Int) : List Opn → ByteArray → Int → Int → ByteArray × Int
  | [], b, _, _ => (b, 0)
  | o :: l, b, x, y => bif badO ks o then (ByteArray.mk #[], 16) else fmtF ks wl wr l ((wr o x y).foldl wnum (b ++ selW wl o.Kind) ++ ByteArray.mk #[10]) (afterO o x y).1 (afterO o x y).2
def i64r (n : Int) : Prop := -9223372036854775808 ≤ n ∧ n ≤ 9223372036854775807
theorem itoaB_size {n : Int} (h : i64r n) : (itoaB n).size ≤ 21 := by
  have := Lib.itoa_length_le n h.1 h.2
  unfold itoaB
  show (Lib.itoa n).toArray.size ≤ 21
  simpa using this
theorem sp_size (n : Int) : ((ByteArray.mk #[32]) ++ itoaB n).size = 1 + (itoaB n).size := by
  rw [ByteArray.size_append]
  rfl
theorem fo_inner (l : List Int) (hl4 : l.length ≤ 1000) (hr : ∀ n ∈ l, i64r n) (V : Nat → Int → ByteArray → Prop) (X : Int → ByteArray → Prop)
    (hs : ∀ n i b, V (n + 1) i b = cond (decide (i < (l.length : Int))) ((0 ≤ i ∧ i < l.length) ∧ (((-9223372036854775808 ≤ l.getD i.toNat default ∧ l.getD i.toNat default ≤ 9223372036854775807) ∧ ((((ByteArray.mk #[32]).size : Int) + (itoaB (l.getD i.toNat default)).size ≤ 9223372036854775807) ∧ (1 ≤ ((ByteArray.mk #[32]) ++ (itoaB (l.getD i.toNat default))).size ∧ b.size + ((ByteArray.mk #[32]) ++ (itoaB (l.getD i.toNat default))).size ≤ 140737488355328))) ∧ V n (w64 (i + 1)) (b ++ ((ByteArray.mk #[32]) ++ (itoaB (l.getD i.toNat default)))))) (X i b)) :
    ∀ (n i : Nat) (b : ByteArray), i ≤ l.length → l.length < n + i → b.size ≤ 2000000 + 100 * i → X l.length ((l.drop i).foldl wnum b) → V n i b := by
  intro n
  induction n with
  | zero => intro i b h1 h2; omega
  | succ n ih =>
    intro i b h1 h2 hb hX
    rw [hs]
    by_cases h : i < l.length
    · rw [dec_t (show (i : Int) < l.length by omega), cond_true, Int.toNat_natCast, w64_succ h (by omega)]
      rw [drop_getD l i h, List.foldl_cons] at hX
      have he : i64r (l.getD i default) := hr _ (by rw [List.getD_eq_getElem?_getD, List.getElem?_eq_getElem h]; exact List.getElem_mem h)
      generalize l.getD i default = e at hX he ⊢
      have hsz := itoaB_size he
      have hsp := sp_size e
      have h32 : (ByteArray.mk #[32]).size = 1 := rfl
      refine ⟨⟨by omega, by omega⟩, ⟨he, by omega, by omega, by omega⟩, ?_⟩
      refine ih (i + 1) _ (by omega) (by omega) ?_ hX
      rw [ByteArray.size_append]
      omega
    · have e : i = l.length := by omega
      subst e
      rw [dec_f (by omega), cond_false]
      rw [List.drop_length] at hX
      exact hX
theorem wnums_size : ∀ (l : List Int) (b : ByteArray), (∀ n ∈ l, i64r n) → (l.foldl wnum b).size ≤ b.size + 22 * l.length
  | [], b, _ => by simp
  | n :: l, b, h => by
    rw [List.foldl_cons]
    have h1 := wnums_size l (wnum b n) (fun m hm => h m (by simp [hm]))
    have h2 := itoaB_size (h n (by simp))
    have h3 : (wnum b n).size = b.size + (1 + (itoaB n).size) := by
      unfold wnum
      rw [ByteArray.size_append, sp_size]
    rw [List.length_cons]
    omega
theorem fo_outer (ks : List Int) (wl : List (Int × ByteArray)) (wr : Opn → Int → Int → List Int) (hw : ∀ k, hasK ks k = true → 1 ≤ (selW wl k).size ∧ (selW wl k).size ≤ 10) (hn : ∀ o x y, rangeO o = true → (wr o x y).length ≤ 4 ∧ ∀ n ∈ wr o x y, i64r n)
    (l : List Opn) (hl : l.length ≤ 4000) (Q : ByteArray → Int → Prop) (X0 X1 : Int → ByteArray → Int → Int → Prop) (W : Nat → Int → ByteArray → Int → Int → Prop) (I : Nat → Int → Opn → List Int → ByteArray → Int → Int → Prop)
    (hs : ∀ n i b x y, W (n + 1) i b x y = cond (decide (i < (l.length : Int))) ((0 ≤ i ∧ i < l.length) ∧ cond (badO ks (l.getD i.toNat default)) (X0 i b x y) ((1 ≤ (selW wl (l.getD i.toNat default).Kind).size ∧ b.size + (selW wl (l.getD i.toNat default).Kind).size ≤ 140737488355328) ∧ I n i (l.getD i.toNat default) (wr (l.getD i.toNat default) x y) (b ++ selW wl (l.getD i.toNat default).Kind) x y)) (X1 i b x y))
    (hI : ∀ n i o nums b x y, nums.length ≤ 4 → (∀ n ∈ nums, i64r n) → b.size ≤ 1000000 → W n (w64 (i + 1)) (nums.foldl wnum b ++ ByteArray.mk #[10]) (afterO o x y).1 (afterO o x y).2 → I n i o nums b x y)
    (hX0 : ∀ i b x y, Q (ByteArray.mk #[]) 16 → X0 i b x y) (hX1 : ∀ i b x y, Q b 0 → X1 i b x y) :
    ∀ (n i : Nat) (b : ByteArray) (x y : Int), i ≤ l.length → l.length < n + i → b.size ≤ 200 * i → Q (fmtF ks wl wr (l.drop i) b x y).1 (fmtF ks wl wr (l.drop i) b x y).2 → W n i b x y := by
  intro n
  induction n with
  | zero => intro i b x y h1 h2; omega
  | succ n ih =>
    intro i b x y h1 h2 hb hQ
    rw [hs]
    by_cases h : i < l.length
    · rw [dec_t (show (i : Int) < l.length by omega), cond_true, Int.toNat_natCast]
      rw [drop_getD l i h] at hQ
      generalize l.getD i default = o at hQ ⊢
      refine ⟨⟨by omega, by omega⟩, ?_⟩
      unfold fmtF at hQ
      cases hbad : badO ks o with
      | true =>
        rw [hbad] at hQ
        exact hX0 _ _ _ _ hQ
      | false =>
        rw [hbad, cond_false] at hQ
        rw [cond_false]
        unfold badO at hbad
        simp only [Bool.or_eq_false_iff, Bool.not_eq_false'] at hbad
        obtain ⟨⟨k1, k2⟩, k3⟩ := hbad
        obtain ⟨q1, q2⟩ := hw _ k1
        obtain ⟨r1, r2⟩ := hn o x y k3
        have hbs : (b ++ selW wl o.Kind).size = b.size + (selW wl o.Kind).size := ByteArray.size_append ..
        refine ⟨⟨q1, by omega⟩, hI _ _ _ _ _ _ _ r1 r2 (by omega) ?_⟩
        rw [w64_succ h (by omega)]
        refine ih (i + 1) _ _ _ (by omega) (by omega) ?_ hQ
        have h10 : (ByteArray.mk #[10]).size = 1 := rfl
        have := wnums_size (wr o x y) (b ++ selW wl o.Kind) r2
        rw [ByteArray.size_append]
        omega
    · have e : i = l.length := by omega
      subst e
      rw [dec_f (by omega), cond_false]
      rw [List.drop_length] at hQ
      exact hX1 _ _ _ _ hQ
theorem inR_r {n : Int} (h : inR n = true) : i64r n := by
  unfold inR at h
  simp only [Bool.not_eq_true', Bool.or_eq_false_iff, decide_eq_false_iff_not] at h
  unfold i64r
  omega
theorem rangeO_r {o : Opn} (h : rangeO o = true) : i64r o.X ∧ i64r o.Y ∧ i64r o.W ∧ i64r o.H ∧ i64r o.N := by
  unfold rangeO sp_program_inRange at h
  simp only [List.all_cons, List.all_nil, Bool.and_true, Bool.and_eq_true] at h
  exact ⟨inR_r h.1, inR_r h.2.1, inR_r h.2.2.1, inR_r h.2.2.2.1, inR_r h.2.2.2.2⟩
theorem w64_r (n : Int) : i64r (w64 n) := by
  have e : w64 n = (n + 9223372036854775808) % 18446744073709551616 - 9223372036854775808 := by
    simp only [w64, IntKind.wrap, IntKind.bits, IntKind.signed]
    simp
    split <;> omega
  rw [e]
  unfold i64r
  omega
def wr1 (o : Opn) (x y : Int) : List Int := sp_program_dialects_1 o.Kind o.X o.Y o.W o.H o.N x y
def wr2 (o : Opn) (x y : Int) : List Int := sp_program_placed o.Kind o.X o.Y o.W o.H o.N x y
def wr3 (o : Opn) (x y : Int) : List Int := sp_program_pressed o.Kind o.X o.Y o.W o.H o.N x y
theorem wr2_ok (o : Opn) (x y : Int) (h : rangeO o = true) : (wr2 o x y).length ≤ 4 ∧ ∀ n ∈ wr2 o x y, i64r n := by
  obtain ⟨r1, r2, r3, r4, r5⟩ := rangeO_r h
  unfold wr2 sp_program_placed
  cases o.Kind == 3
  · refine ⟨by simp, fun n hn => ?_⟩
    simp only [cond_false, List.mem_cons, List.not_mem_nil, or_false] at hn
    rcases hn with rfl | rfl <;> exact w64_r _
  · refine ⟨by simp, fun n hn => ?_⟩
    simp only [cond_true, List.cons_append, List.nil_append, List.mem_cons, List.not_mem_nil, or_false] at hn
    rcases hn with rfl | rfl | rfl | rfl
    · exact w64_r _
    · exact w64_r _
    · exact r3
    · exact r4
theorem wr1_ok (o : Opn) (x y : Int) (h : rangeO o = true) : (wr1 o x y).length ≤ 4 ∧ ∀ n ∈ wr1 o x y, i64r n := wr2_ok o 0 0 h
theorem wr3_ok (o : Opn) (x y : Int) (h : rangeO o = true) : (wr3 o x y).length ≤ 4 ∧ ∀ n ∈ wr3 o x y, i64r n := by
  obtain ⟨r1, r2, r3, r4, r5⟩ := rangeO_r h
  unfold wr3 sp_program_pressed
  cases o.Kind == 5
  · refine ⟨by simp, fun n hn => ?_⟩
    simp only [cond_false, List.mem_cons, List.not_mem_nil, or_false] at hn
    rcases hn with rfl | rfl | rfl | rfl <;> assumption
  · refine ⟨by simp, fun n hn => ?_⟩
    simp only [cond_true, List.mem_cons, List.not_mem_nil, or_false] at hn
    rcases hn with rfl | rfl <;> assumption
theorem pre_placed (k x y w h n a b : Int) : pre_program_placed k x y w h n a b := by
  unfold pre_program_placed
  cases k == 3
  · trivial
  · show (2 + 2) * 8 ≤ 140737488355328
    decide
theorem hasK_cases {ks : List Int} {k : Int} (h : hasK ks k = true) : k ∈ ks := by
  induction ks with
  | nil => cases h
  | cons a l ih =>
    unfold hasK at h
    cases hb : k == a with
    | true => exact List.mem_cons.2 (.inl (by simpa using hb))
    | false =>
      rw [hb] at h
      exact List.mem_cons.2 (.inr (ih h))
theorem wl1_ok (k : Int) (h : hasK [1, 2, 4, 3] k = true) : 1 ≤ (selW wl1 k).size ∧ (selW wl1 k).size ≤ 10 := by
  have := hasK_cases h
  simp only [List.mem_cons, List.not_mem_nil, or_false] at this
  rcases this with rfl | rfl | rfl | rfl <;> decide
theorem wl2_ok (k : Int) (h : hasK [1, 2, 4, 3] k = true) : 1 ≤ (selW wl2 k).size ∧ (selW wl2 k).size ≤ 10 := by
  have := hasK_cases h
  simp only [List.mem_cons, List.not_mem_nil, or_false] at this
  rcases this with rfl | rfl | rfl | rfl <;> decide
theorem wl3_ok (k : Int) (h : hasK [5, 6] k = true) : 1 ≤ (selW wl3 k).size ∧ (selW wl3 k).size ≤ 10 := by
  have := hasK_cases h
  simp only [List.mem_cons, List.not_mem_nil, or_false] at this
  rcases this with rfl | rfl <;> decide

def pre_fo1 (ops : List Opn) : Prop := True
def sp_fo1 (ops : List Opn) : ByteArray × Int := cond (decide (4000 < (ops.length : Int))) (ByteArray.mk #[], 4) (fmtF [1, 2, 4, 3] wl1 wr1 ops ByteArray.empty 0 0)
theorem ok_fo1 (ops : List Opn) (h : pre_fo1 ops) : ∃ F, ∀ Q : ByteArray → Int → Prop, Q ((sp_fo1 ops).1) ((sp_fo1 ops).2) → w_fo1 F ops Q := by
  refine ⟨4001, fun Q hQ => ?_⟩
  unfold sp_fo1 at hQ
  unfold w_fo1 g_fo1_e
  by_cases hl : 4000 < (ops.length : Int)
  · rw [dec_t hl] at hQ ⊢
    exact hQ
  · rw [dec_f hl] at hQ ⊢
    simp only [cond_false] at hQ ⊢
    show w_fo1_0 4001 (fun t4 t5 t28 t29 t30 o8 c9_0 c9_1 => Q t4 t5) (fun t4 t5 t28 t29 t30 o8 c9_0 c9_1 => Q o8 0) 4001 (ByteArray.mk #[]) 0 ops (ops.length : Int) ((0 : Nat) : Int) ByteArray.empty 0 0
    refine fo_outer [1, 2, 4, 3] wl1 wr1 wl1_ok wr1_ok ops (by omega) Q (fun i b x y => Q (ByteArray.mk #[]) 16) (fun i b x y => Q b 0) (fun n i b x y => w_fo1_0 4001 (fun t4 t5 t28 t29 t30 o8 c9_0 c9_1 => Q t4 t5) (fun t4 t5 t28 t29 t30 o8 c9_0 c9_1 => Q o8 0) n (ByteArray.mk #[]) 0 ops (ops.length : Int) i b x y)
      (fun n i o nums b x y => pre_program_dialects_1 o.Kind o.X o.Y o.W o.H o.N x y ∧ n_fo1_1 4001 (w_fo1_0 4001 (fun t4 t5 t28 t29 t30 o8 c9_0 c9_1 => Q t4 t5) (fun t4 t5 t28 t29 t30 o8 c9_0 c9_1 => Q o8 0) n) (fun t4 t5 t28 t29 t30 o8 c9_0 c9_1 => Q t4 t5) (fun t4 t5 t28 t29 t30 o8 c9_0 c9_1 => Q o8 0) (ByteArray.mk #[]) 0 ops (ops.length : Int) i nums (nums.length : Int) 0 b x y o.Kind o.X o.Y o.W o.H o.N)
      (fun n i b x y => rfl) (fun n i o nums b x y h4 hr hb hW => ?_) (fun i b x y q => q) (fun i b x y q => q) 4001 0 ByteArray.empty 0 0 (by omega) (by omega) (by decide) ?_
    · refine ⟨pre_placed _ _ _ _ _ _ _ _, ?_⟩
      refine fo_inner nums (by omega) hr (fun n' j b' => w_fo1_1 4001 _ n' (ByteArray.mk #[]) 0 ops (ops.length : Int) i nums (nums.length : Int) j b' x y o.Kind o.X o.Y o.W o.H o.N) (fun j b' => (1 ≤ (ByteArray.mk #[10]).size ∧ b'.size + (ByteArray.mk #[10]).size ≤ 140737488355328) ∧ w_fo1_0 4001 (fun t4 t5 t28 t29 t30 o8 c9_0 c9_1 => Q t4 t5) (fun t4 t5 t28 t29 t30 o8 c9_0 c9_1 => Q o8 0) n (ByteArray.mk #[]) 0 ops (ops.length : Int) (w64 (i + 1)) (b' ++ ByteArray.mk #[10]) (afterO o x y).1 (afterO o x y).2) (fun n' j b' => rfl) 4001 0 b (by omega) (by omega) (by omega) ?_
      have h10 : (ByteArray.mk #[10]).size = 1 := rfl
      have := wnums_size nums b hr
      exact ⟨⟨by omega, by rw [List.drop_zero]; omega⟩, hW⟩
    · rw [List.drop_zero]
      exact hQ

def pre_fo2 (ops : List Opn) : Prop := True
def sp_fo2 (ops : List Opn) : ByteArray × Int := cond (decide (4000 < (ops.length : Int))) (ByteArray.mk #[], 4) (fmtF [1, 2, 4, 3] wl2 wr2 ops ByteArray.empty 0 0)
theorem ok_fo2 (ops : List Opn) (h : pre_fo2 ops) : ∃ F, ∀ Q : ByteArray → Int → Prop, Q ((sp_fo2 ops).1) ((sp_fo2 ops).2) → w_fo2 F ops Q := by
  refine ⟨4001, fun Q hQ => ?_⟩
  unfold sp_fo2 at hQ
  unfold w_fo2 g_fo2_e
  by_cases hl : 4000 < (ops.length : Int)
  · rw [dec_t hl] at hQ ⊢
    exact hQ
  · rw [dec_f hl] at hQ ⊢
    simp only [cond_false] at hQ ⊢
    show w_fo2_0 4001 (fun t4 t5 t28 t29 t30 o8 c9_0 c9_1 => Q t4 t5) (fun t4 t5 t28 t29 t30 o8 c9_0 c9_1 => Q o8 0) 4001 (ByteArray.mk #[]) 0 ops (ops.length : Int) ((0 : Nat) : Int) ByteArray.empty 0 0
    refine fo_outer [1, 2, 4, 3] wl2 wr2 wl2_ok wr2_ok ops (by omega) Q (fun i b x y => Q (ByteArray.mk #[]) 16) (fun i b x y => Q b 0) (fun n i b x y => w_fo2_0 4001 (fun t4 t5 t28 t29 t30 o8 c9_0 c9_1 => Q t4 t5) (fun t4 t5 t28 t29 t30 o8 c9_0 c9_1 => Q o8 0) n (ByteArray.mk #[]) 0 ops (ops.length : Int) i b x y)
      (fun n i o nums b x y => pre_program_placed o.Kind o.X o.Y o.W o.H o.N x y ∧ n_fo2_1 4001 (w_fo2_0 4001 (fun t4 t5 t28 t29 t30 o8 c9_0 c9_1 => Q t4 t5) (fun t4 t5 t28 t29 t30 o8 c9_0 c9_1 => Q o8 0) n) (fun t4 t5 t28 t29 t30 o8 c9_0 c9_1 => Q t4 t5) (fun t4 t5 t28 t29 t30 o8 c9_0 c9_1 => Q o8 0) (ByteArray.mk #[]) 0 ops (ops.length : Int) i nums (nums.length : Int) 0 b x y o.Kind o.X o.Y o.W o.H o.N)
      (fun n i b x y => rfl) (fun n i o nums b x y h4 hr hb hW => ?_) (fun i b x y q => q) (fun i b x y q => q) 4001 0 ByteArray.empty 0 0 (by omega) (by omega) (by decide) ?_
    · refine ⟨pre_placed _ _ _ _ _ _ _ _, ?_⟩
      refine fo_inner nums (by omega) hr (fun n' j b' => w_fo2_1 4001 _ n' (ByteArray.mk #[]) 0 ops (ops.length : Int) i nums (nums.length : Int) j b' x y o.Kind o.X o.Y o.W o.H o.N) (fun j b' => (1 ≤ (ByteArray.mk #[10]).size ∧ b'.size + (ByteArray.mk #[10]).size ≤ 140737488355328) ∧ w_fo2_0 4001 (fun t4 t5 t28 t29 t30 o8 c9_0 c9_1 => Q t4 t5) (fun t4 t5 t28 t29 t30 o8 c9_0 c9_1 => Q o8 0) n (ByteArray.mk #[]) 0 ops (ops.length : Int) (w64 (i + 1)) (b' ++ ByteArray.mk #[10]) (afterO o x y).1 (afterO o x y).2) (fun n' j b' => rfl) 4001 0 b (by omega) (by omega) (by omega) ?_
      have h10 : (ByteArray.mk #[10]).size = 1 := rfl
      have := wnums_size nums b hr
      exact ⟨⟨by omega, by rw [List.drop_zero]; omega⟩, hW⟩
    · rw [List.drop_zero]
      exact hQ

def pre_fo3 (ops : List Opn) : Prop := True
def sp_fo3 (ops : List Opn) : ByteArray × Int := cond (decide (4000 < (ops.length : Int))) (ByteArray.mk #[], 4) (fmtF [5, 6] wl3 wr3 ops ByteArray.empty 0 0)
theorem ok_fo3 (ops : List Opn) (h : pre_fo3 ops) : ∃ F, ∀ Q : ByteArray → Int → Prop, Q ((sp_fo3 ops).1) ((sp_fo3 ops).2) → w_fo3 F ops Q := by
  refine ⟨4001, fun Q hQ => ?_⟩
  unfold sp_fo3 at hQ
  unfold w_fo3 g_fo3_e
  by_cases hl : 4000 < (ops.length : Int)
  · rw [dec_t hl] at hQ ⊢
    exact hQ
  · rw [dec_f hl] at hQ ⊢
    simp only [cond_false] at hQ ⊢
    show w_fo3_0 4001 (fun t4 t5 t28 t29 t30 o8 c9_0 c9_1 => Q t4 t5) (fun t4 t5 t28 t29 t30 o8 c9_0 c9_1 => Q o8 0) 4001 (ByteArray.mk #[]) 0 ops (ops.length : Int) ((0 : Nat) : Int) ByteArray.empty 0 0
    refine fo_outer [5, 6] wl3 wr3 wl3_ok wr3_ok ops (by omega) Q (fun i b x y => Q (ByteArray.mk #[]) 16) (fun i b x y => Q b 0) (fun n i b x y => w_fo3_0 4001 (fun t4 t5 t28 t29 t30 o8 c9_0 c9_1 => Q t4 t5) (fun t4 t5 t28 t29 t30 o8 c9_0 c9_1 => Q o8 0) n (ByteArray.mk #[]) 0 ops (ops.length : Int) i b x y)
      (fun n i o nums b x y => n_fo3_1 4001 (w_fo3_0 4001 (fun t4 t5 t28 t29 t30 o8 c9_0 c9_1 => Q t4 t5) (fun t4 t5 t28 t29 t30 o8 c9_0 c9_1 => Q o8 0) n) (fun t4 t5 t28 t29 t30 o8 c9_0 c9_1 => Q t4 t5) (fun t4 t5 t28 t29 t30 o8 c9_0 c9_1 => Q o8 0) (ByteArray.mk #[]) 0 ops (ops.length : Int) i nums (nums.length : Int) 0 b x y o.Kind o.X o.Y o.W o.H o.N)
      (fun n i b x y => rfl) (fun n i o nums b x y h4 hr hb hW => ?_) (fun i b x y q => q) (fun i b x y q => q) 4001 0 ByteArray.empty 0 0 (by omega) (by omega) (by decide) ?_
    · refine fo_inner nums (by omega) hr (fun n' j b' => w_fo3_1 4001 _ n' (ByteArray.mk #[]) 0 ops (ops.length : Int) i nums (nums.length : Int) j b' x y o.Kind o.X o.Y o.W o.H o.N) (fun j b' => (1 ≤ (ByteArray.mk #[10]).size ∧ b'.size + (ByteArray.mk #[10]).size ≤ 140737488355328) ∧ w_fo3_0 4001 (fun t4 t5 t28 t29 t30 o8 c9_0 c9_1 => Q t4 t5) (fun t4 t5 t28 t29 t30 o8 c9_0 c9_1 => Q o8 0) n (ByteArray.mk #[]) 0 ops (ops.length : Int) (w64 (i + 1)) (b' ++ ByteArray.mk #[10]) (afterO o x y).1 (afterO o x y).2) (fun n' j b' => rfl) 4001 0 b (by omega) (by omega) (by omega) ?_
      have h10 : (ByteArray.mk #[10]).size = 1 := rfl
      have := wnums_size nums b hr
      exact ⟨⟨by omega, by rw [List.drop_zero]; omega⟩, hW⟩
    · rw [List.drop_zero]
      exact hQ

def sp_fo4 (m : Nat) (ops : List Opn) : ByteArray × Int := (ByteArray.mk #[], 1)
def sp_fo0 (ops : List Opn) : ByteArray × Int := (ByteArray.mk #[], 1)
def sp_fo5 (m : Nat) (ops : List Opn) : ByteArray × Int := (ByteArray.mk #[], 1)
theorem ok_fo4 (m : Nat) (ops : List Opn) : ∃ F, ∀ Q : ByteArray → Int → Prop, Q ((sp_fo4 m ops).1) ((sp_fo4 m ops).2) → w_fo4 F m ops Q := ⟨0, fun Q h => h⟩
theorem ok_fo0 (ops : List Opn) : ∃ F, ∀ Q : ByteArray → Int → Prop, Q ((sp_fo0 ops).1) ((sp_fo0 ops).2) → w_fo0 F ops Q := ⟨0, fun Q h => h⟩
theorem ok_fo5 (m : Nat) (ops : List Opn) : ∃ F, ∀ Q : ByteArray → Int → Prop, Q ((sp_fo5 m ops).1) ((sp_fo5 m ops).2) → w_fo5 F m ops Q := ⟨0, fun Q h => h⟩
end
end Go.Proofs.YteffpgliiilnjaaGreatDoor

namespace Go.Proofs.YteffpgliiilnjaaGreatDoor
open Go.Vm Go.RowKit
set_option linter.unusedVariables false
noncomputable section
/-! ### sheetmetal/sheetmetallaw08.known -/
def M_law08_known : Nat → Nat → Nat → Canon UU := fun o b r => ⟨[], [], [], [], []⟩
def g_law08_known_e  (Q : Bool → Prop) : Prop := (let r0 := (sp_fo2 ([(Opn.mk 1 105 105 0 0 0), (Opn.mk 1 100 100 0 0 0), (Opn.mk 2 110 100 0 0 0)])); ((pre_fo2 ([(Opn.mk 1 105 105 0 0 0), (Opn.mk 1 100 100 0 0 0), (Opn.mk 2 110 100 0 0 0)])) ∧ (let r1 := (sp_program_RunCut (ByteArray.mk #[115]) (ByteArray.mk #[115, 116, 101, 101, 108]) 1 0 9 9 ([]) ([]) ([(Opn.mk 2 4 0 0 0 0)])); ((pre_program_RunCut (ByteArray.mk #[115]) (ByteArray.mk #[115, 116, 101, 101, 108]) 1 0 9 9 ([]) ([]) ([(Opn.mk 2 4 0 0 0 0)])) ∧ ((((((r0.2 == 0) && (r0.1 == (ByteArray.mk #[109, 32, 49, 48, 53, 32, 49, 48, 53, 10, 109, 32, 45, 53, 32, 45, 53, 10, 108, 32, 49, 48, 32, 48, 10]))) && (r1.2.2 == 0)) && ((r1.1.length : Int) == 1)) = true → 0 ≤ (0 : Int) ∧ (0 : Int) < r1.1.length) ∧ Q (((((r0.2 == 0) && (r0.1 == (ByteArray.mk #[109, 32, 49, 48, 53, 32, 49, 48, 53, 10, 109, 32, 45, 53, 32, 45, 53, 10, 108, 32, 49, 48, 32, 48, 10]))) && (r1.2.2 == 0)) && ((r1.1.length : Int) == 1)) && ((((r1.1.getD 0 default).X1) == 0) && ((((r1.1.getD 0 default).Y1) == 0) && ((((r1.1.getD 0 default).X2) == 4) && ((((r1.1.getD 0 default).Y2) == 0) && true))))))))))
def w_law08_known (F : Nat)  (Q : Bool → Prop) : Prop := g_law08_known_e  Q
end
end Go.Proofs.YteffpgliiilnjaaGreatDoor

namespace Go.Proofs.YteffpgliiilnjaaGreatDoor
open Go.Vm Go.RowKit
set_option linter.unusedVariables false
noncomputable section

def sp_law08_known : Bool := true
theorem kn_run : sp_program_RunCut (ByteArray.mk #[115]) (ByteArray.mk #[115, 116, 101, 101, 108]) 1 0 9 9 ([]) ([]) ([(Opn.mk 2 4 0 0 0 0)]) = ([Seg.mk 0 0 4 0], [], 0) := by
  kernel_rfl
theorem kn_fo : sp_fo2 ([(Opn.mk 1 105 105 0 0 0), (Opn.mk 1 100 100 0 0 0), (Opn.mk 2 110 100 0 0 0)]) = (ByteArray.mk #[109, 32, 49, 48, 53, 32, 49, 48, 53, 10, 109, 32, 45, 53, 32, 45, 53, 10, 108, 32, 49, 48, 32, 48, 10], 0) := by
  kernel_rfl
theorem ok_law08_known  : ∃ F, ∀ Q : Bool → Prop, Q sp_law08_known → w_law08_known F  Q := by
  refine ⟨0, fun Q hQ => ?_⟩
  unfold w_law08_known g_law08_known_e
  dsimp only
  rw [kn_run, kn_fo]
  exact ⟨trivial, trivial, fun _ => by decide, hQ⟩
end
end Go.Proofs.YteffpgliiilnjaaGreatDoor

namespace Go.Proofs.YteffpgliiilnjaaGreatDoor
open Go.Vm Go.RowKit
set_option linter.unusedVariables false
noncomputable section
/-! ### sheetmetal/sheetmetallaw08.ProgramRuns -/
def M_law08_ProgramRuns : Nat → Nat → Nat → Canon UU := fun o b r => ⟨[], [], [], [], []⟩
def g_law08_ProgramRuns_e (a0_Name : ByteArray) (a0_Material : ByteArray) (a0_Gauge : Int) (a0_Grain : Int) (a0_Width : Int) (a0_Height : Int) (a0_Clamps : List Rect) (a0_Used : List Rect) (a1 : List Opn) (Q : Bool → Prop) : Prop := ((pre_program_RunCut a0_Name a0_Material a0_Gauge a0_Grain a0_Width a0_Height a0_Clamps a0_Used a1) ∧ ((pre_ref08_RunCut a0_Name a0_Material a0_Gauge a0_Grain a0_Width a0_Height a0_Clamps a0_Used a1) ∧ ((((((sp_program_RunCut a0_Name a0_Material a0_Gauge a0_Grain a0_Width a0_Height a0_Clamps a0_Used a1).2.2) == ((sp_ref08_RunCut a0_Name a0_Material a0_Gauge a0_Grain a0_Width a0_Height a0_Clamps a0_Used a1).2.2)) = true → pre_ref06_SameSegments ((sp_program_RunCut a0_Name a0_Material a0_Gauge a0_Grain a0_Width a0_Height a0_Clamps a0_Used a1).1) ((sp_ref08_RunCut a0_Name a0_Material a0_Gauge a0_Grain a0_Width a0_Height a0_Clamps a0_Used a1).1)) ∧ (((((sp_program_RunCut a0_Name a0_Material a0_Gauge a0_Grain a0_Width a0_Height a0_Clamps a0_Used a1).2.2) == ((sp_ref08_RunCut a0_Name a0_Material a0_Gauge a0_Grain a0_Width a0_Height a0_Clamps a0_Used a1).2.2)) && (sp_ref06_SameSegments ((sp_program_RunCut a0_Name a0_Material a0_Gauge a0_Grain a0_Width a0_Height a0_Clamps a0_Used a1).1) ((sp_ref08_RunCut a0_Name a0_Material a0_Gauge a0_Grain a0_Width a0_Height a0_Clamps a0_Used a1).1))) = true → pre_ref06_SameRects ((sp_program_RunCut a0_Name a0_Material a0_Gauge a0_Grain a0_Width a0_Height a0_Clamps a0_Used a1).2.1) ((sp_ref08_RunCut a0_Name a0_Material a0_Gauge a0_Grain a0_Width a0_Height a0_Clamps a0_Used a1).2.1))) ∧ Q ((((((sp_program_RunCut a0_Name a0_Material a0_Gauge a0_Grain a0_Width a0_Height a0_Clamps a0_Used a1).2.2) == ((sp_ref08_RunCut a0_Name a0_Material a0_Gauge a0_Grain a0_Width a0_Height a0_Clamps a0_Used a1).2.2)) && (sp_ref06_SameSegments ((sp_program_RunCut a0_Name a0_Material a0_Gauge a0_Grain a0_Width a0_Height a0_Clamps a0_Used a1).1) ((sp_ref08_RunCut a0_Name a0_Material a0_Gauge a0_Grain a0_Width a0_Height a0_Clamps a0_Used a1).1))) && (sp_ref06_SameRects ((sp_program_RunCut a0_Name a0_Material a0_Gauge a0_Grain a0_Width a0_Height a0_Clamps a0_Used a1).2.1) ((sp_ref08_RunCut a0_Name a0_Material a0_Gauge a0_Grain a0_Width a0_Height a0_Clamps a0_Used a1).2.1))) && sp_law08_known))))
def w_law08_ProgramRuns (F : Nat) (a0_Name : ByteArray) (a0_Material : ByteArray) (a0_Gauge : Int) (a0_Grain : Int) (a0_Width : Int) (a0_Height : Int) (a0_Clamps : List Rect) (a0_Used : List Rect) (a1 : List Opn) (Q : Bool → Prop) : Prop := g_law08_ProgramRuns_e a0_Name a0_Material a0_Gauge a0_Grain a0_Width a0_Height a0_Clamps a0_Used a1 Q
def pre_law08_ProgramRuns (a0_Name : ByteArray) (a0_Material : ByteArray) (a0_Gauge : Int) (a0_Grain : Int) (a0_Width : Int) (a0_Height : Int) (a0_Clamps : List Rect) (a0_Used : List Rect) (a1 : List Opn) : Prop := (pre_program_RunCut a0_Name a0_Material a0_Gauge a0_Grain a0_Width a0_Height a0_Clamps a0_Used a1) ∧ (pre_ref08_RunCut a0_Name a0_Material a0_Gauge a0_Grain a0_Width a0_Height a0_Clamps a0_Used a1) ∧ ((((sp_program_RunCut a0_Name a0_Material a0_Gauge a0_Grain a0_Width a0_Height a0_Clamps a0_Used a1).2.2) == ((sp_ref08_RunCut a0_Name a0_Material a0_Gauge a0_Grain a0_Width a0_Height a0_Clamps a0_Used a1).2.2)) = true → pre_ref06_SameSegments ((sp_program_RunCut a0_Name a0_Material a0_Gauge a0_Grain a0_Width a0_Height a0_Clamps a0_Used a1).1) ((sp_ref08_RunCut a0_Name a0_Material a0_Gauge a0_Grain a0_Width a0_Height a0_Clamps a0_Used a1).1)) ∧ (((((sp_program_RunCut a0_Name a0_Material a0_Gauge a0_Grain a0_Width a0_Height a0_Clamps a0_Used a1).2.2) == ((sp_ref08_RunCut a0_Name a0_Material a0_Gauge a0_Grain a0_Width a0_Height a0_Clamps a0_Used a1).2.2)) && (sp_ref06_SameSegments ((sp_program_RunCut a0_Name a0_Material a0_Gauge a0_Grain a0_Width a0_Height a0_Clamps a0_Used a1).1) ((sp_ref08_RunCut a0_Name a0_Material a0_Gauge a0_Grain a0_Width a0_Height a0_Clamps a0_Used a1).1))) = true → pre_ref06_SameRects ((sp_program_RunCut a0_Name a0_Material a0_Gauge a0_Grain a0_Width a0_Height a0_Clamps a0_Used a1).2.1) ((sp_ref08_RunCut a0_Name a0_Material a0_Gauge a0_Grain a0_Width a0_Height a0_Clamps a0_Used a1).2.1))
def sp_law08_ProgramRuns (a0_Name : ByteArray) (a0_Material : ByteArray) (a0_Gauge : Int) (a0_Grain : Int) (a0_Width : Int) (a0_Height : Int) (a0_Clamps : List Rect) (a0_Used : List Rect) (a1 : List Opn) : Bool := ((((((sp_program_RunCut a0_Name a0_Material a0_Gauge a0_Grain a0_Width a0_Height a0_Clamps a0_Used a1).2.2) == ((sp_ref08_RunCut a0_Name a0_Material a0_Gauge a0_Grain a0_Width a0_Height a0_Clamps a0_Used a1).2.2)) && (sp_ref06_SameSegments ((sp_program_RunCut a0_Name a0_Material a0_Gauge a0_Grain a0_Width a0_Height a0_Clamps a0_Used a1).1) ((sp_ref08_RunCut a0_Name a0_Material a0_Gauge a0_Grain a0_Width a0_Height a0_Clamps a0_Used a1).1))) && (sp_ref06_SameRects ((sp_program_RunCut a0_Name a0_Material a0_Gauge a0_Grain a0_Width a0_Height a0_Clamps a0_Used a1).2.1) ((sp_ref08_RunCut a0_Name a0_Material a0_Gauge a0_Grain a0_Width a0_Height a0_Clamps a0_Used a1).2.1))) && sp_law08_known)
theorem ok_law08_ProgramRuns (a0_Name : ByteArray) (a0_Material : ByteArray) (a0_Gauge : Int) (a0_Grain : Int) (a0_Width : Int) (a0_Height : Int) (a0_Clamps : List Rect) (a0_Used : List Rect) (a1 : List Opn) (hp : pre_law08_ProgramRuns a0_Name a0_Material a0_Gauge a0_Grain a0_Width a0_Height a0_Clamps a0_Used a1) : ∃ F, ∀ Q : Bool → Prop, Q (sp_law08_ProgramRuns a0_Name a0_Material a0_Gauge a0_Grain a0_Width a0_Height a0_Clamps a0_Used a1) → w_law08_ProgramRuns F a0_Name a0_Material a0_Gauge a0_Grain a0_Width a0_Height a0_Clamps a0_Used a1 Q := by
  refine ⟨0, fun Q h => ?_⟩
  unfold w_law08_ProgramRuns g_law08_ProgramRuns_e
  unfold sp_law08_ProgramRuns at h
  unfold pre_law08_ProgramRuns at hp
  obtain ⟨hc0_0, hp⟩ := hp
  refine ⟨hc0_0, ?_⟩
  obtain ⟨hc1_0, hp⟩ := hp
  refine ⟨hc1_0, ?_⟩
  obtain ⟨hc2_0, hc2_1⟩ := hp
  refine ⟨⟨hc2_0, hc2_1⟩, ?_⟩
  exact h
/-! ### sheetmetal/sheetmetallaw08.within -/
def M_law08_within : Nat → Nat → Nat → Canon UU := fun o b r => ⟨[], [], [], [], []⟩
def g_law08_within_e (a0_X1 : Int) (a0_Y1 : Int) (a0_X2 : Int) (a0_Y2 : Int) (a1_X1 : Int) (a1_Y1 : Int) (a1_X2 : Int) (a1_Y2 : Int) (Q : Bool → Prop) : Prop := Q (((((decide (a1_X1 ≤ a0_X1)) && (decide (a0_X2 ≤ a1_X2))) && (decide (a1_Y1 ≤ a0_Y1))) && (decide (a0_Y2 ≤ a1_Y2))) && ((a0_Y1 == a0_Y2) == (a1_Y1 == a1_Y2)))
def w_law08_within (F : Nat) (a0_X1 : Int) (a0_Y1 : Int) (a0_X2 : Int) (a0_Y2 : Int) (a1_X1 : Int) (a1_Y1 : Int) (a1_X2 : Int) (a1_Y2 : Int) (Q : Bool → Prop) : Prop := g_law08_within_e a0_X1 a0_Y1 a0_X2 a0_Y2 a1_X1 a1_Y1 a1_X2 a1_Y2 Q
def sp_law08_within (a0_X1 : Int) (a0_Y1 : Int) (a0_X2 : Int) (a0_Y2 : Int) (a1_X1 : Int) (a1_Y1 : Int) (a1_X2 : Int) (a1_Y2 : Int) : Bool := (((((decide (a1_X1 ≤ a0_X1)) && (decide (a0_X2 ≤ a1_X2))) && (decide (a1_Y1 ≤ a0_Y1))) && (decide (a0_Y2 ≤ a1_Y2))) && ((a0_Y1 == a0_Y2) == (a1_Y1 == a1_Y2)))
theorem ok_law08_within (a0_X1 : Int) (a0_Y1 : Int) (a0_X2 : Int) (a0_Y2 : Int) (a1_X1 : Int) (a1_Y1 : Int) (a1_X2 : Int) (a1_Y2 : Int) : ∃ F, ∀ Q : Bool → Prop, Q (sp_law08_within a0_X1 a0_Y1 a0_X2 a0_Y2 a1_X1 a1_Y1 a1_X2 a1_Y2) → w_law08_within F a0_X1 a0_Y1 a0_X2 a0_Y2 a1_X1 a1_Y1 a1_X2 a1_Y2 Q := by
  refine ⟨0, fun Q h => ?_⟩
  unfold w_law08_within g_law08_within_e
  unfold sp_law08_within at h
  exact h
end
end Go.Proofs.YteffpgliiilnjaaGreatDoor

namespace Go.Proofs.YteffpgliiilnjaaGreatDoor
open Go.Vm Go.RowKit
set_option linter.unusedVariables false
noncomputable section
/-! ### sheetmetal/sheetmetallaw08.ProgramPrefix -/
def M_law08_ProgramPrefix : Nat → Nat → Nat → Canon UU := fun o b r => cond (Nat.beq b 0) ⟨[6, 7, 9, 11], [7, 9], [(.cell 7 0, 97, .seg), (.cell 7 1, 98, .rect)], [], []⟩ (cond (Nat.beq b 2) ⟨[6, 7, 9, 11, 12, 13], [7, 9], [(.cell 7 0, 97, .seg), (.cell 7 1, 98, .rect)], [], []⟩ (⟨[], [], [], [], []⟩))
def st_law08_ProgramPrefix_0 (t6 : Bool) (t11 : Int) (c9_0 : List Seg) (c9_1 : List Rect) (l97 : List Seg) (l98 : List Rect) : ASt UU := ⟨fun u => cond (Nat.beq u 6) (.bool t6) (cond (Nat.beq u 7) (.ptr 7 0) (cond (Nat.beq u 9) (.ptr 9 0) (cond (Nat.beq u 11) (.int .i64 t11) (.any)))), fun u => cond (Nat.beq u 97) (some (.row .seg 0 l97)) (cond (Nat.beq u 98) (some (.row .rect 0 l98)) (cond (Nat.beq u 7) (some (.cells [.osl 97 0, .osl 98 0])) (cond (Nat.beq u 9) (some (.cells [.sl .seg c9_0, .sl .rect c9_1])) (none))))⟩
def st_law08_ProgramPrefix_1 (t6 : Bool) (t11 : Int) (t12 : Bool) (t13 : Int) (c9_0 : List Seg) (c9_1 : List Rect) (l97 : List Seg) (l98 : List Rect) : ASt UU := ⟨fun u => cond (Nat.beq u 6) (.bool t6) (cond (Nat.beq u 7) (.ptr 7 0) (cond (Nat.beq u 9) (.ptr 9 0) (cond (Nat.beq u 11) (.int .i64 t11) (cond (Nat.beq u 12) (.bool t12) (cond (Nat.beq u 13) (.int .i64 t13) (.any)))))), fun u => cond (Nat.beq u 97) (some (.row .seg 0 l97)) (cond (Nat.beq u 98) (some (.row .rect 0 l98)) (cond (Nat.beq u 7) (some (.cells [.osl 97 0, .osl 98 0])) (cond (Nat.beq u 9) (some (.cells [.sl .seg c9_0, .sl .rect c9_1])) (none))))⟩
def g_law08_ProgramPrefix_e (a0_Name : ByteArray) (a0_Material : ByteArray) (a0_Gauge : Int) (a0_Grain : Int) (a0_Width : Int) (a0_Height : Int) (a0_Clamps : List Rect) (a0_Used : List Rect) (a1 : List Opn) (a2_Kind : Int) (a2_X : Int) (a2_Y : Int) (a2_W : Int) (a2_H : Int) (a2_N : Int) (Q : Bool → Prop) (i0 : Bool → Int → List Seg → List Rect → List Seg → List Rect → Prop) : Prop := cond (decide (4000 ≤ (a1.length : Int))) (Q sp_law08_known) ((let r0 := (sp_program_RunCut a0_Name a0_Material a0_Gauge a0_Grain a0_Width a0_Height a0_Clamps a0_Used a1); ((pre_program_RunCut a0_Name a0_Material a0_Gauge a0_Grain a0_Width a0_Height a0_Clamps a0_Used a1) ∧ (((([] : List Opn).length + a1.length) * 48 ≤ 140737488355328) ∧ ((((([] : List Opn) ++ a1).length + ([(Opn.mk a2_Kind a2_X a2_Y a2_W a2_H a2_N)]).length) * 48 ≤ 140737488355328) ∧ (let r1 := (sp_program_RunCut a0_Name a0_Material a0_Gauge a0_Grain a0_Width a0_Height a0_Clamps a0_Used ((([] : List Opn) ++ a1) ++ ([(Opn.mk a2_Kind a2_X a2_Y a2_W a2_H a2_N)]))); ((pre_program_RunCut a0_Name a0_Material a0_Gauge a0_Grain a0_Width a0_Height a0_Clamps a0_Used ((([] : List Opn) ++ a1) ++ ([(Opn.mk a2_Kind a2_X a2_Y a2_W a2_H a2_N)]))) ∧ cond (r0.2.2 != 0) (Q ((r1.2.2 == r0.2.2) && sp_law08_known)) (cond (r1.2.2 != 0) (Q sp_law08_known) (i0 false 0 r1.1 r1.2.1 r0.1 r0.2.1)))))))))
def g_law08_ProgramPrefix_s0 (rec : Bool → Int → List Seg → List Rect → List Seg → List Rect → Prop) (x0 : Bool → Int → List Seg → List Rect → List Seg → List Rect → Prop) (x1 : Bool → Int → List Seg → List Rect → List Seg → List Rect → Prop) (t6 : Bool) (t11 : Int) (c9_0 : List Seg) (c9_1 : List Rect) (l97 : List Seg) (l98 : List Rect) (i1 : Bool → Int → Bool → Int → List Seg → List Rect → List Seg → List Rect → Prop) : Prop := cond (decide (t11 < (l97.length : Int))) (i1 t6 t11 false 0 c9_0 c9_1 l97 l98) (x0 t6 t11 c9_0 c9_1 l97 l98)
def g_law08_ProgramPrefix_c0_0 (Q : Bool → Prop) (t6 : Bool) (t11 : Int) (c9_0 : List Seg) (c9_1 : List Rect) (l97 : List Seg) (l98 : List Rect) : Prop := cond (decide ((l98.length : Int) ≤ (c9_1.length : Int))) (((0 ≤ (l98.length : Int) ∧ (l98.length : Int) ≤ c9_1.length) ∧ (let r0 := (sp_ref06_SameRects (c9_1.take ((l98.length : Int).toNat)) l98); ((pre_ref06_SameRects (c9_1.take ((l98.length : Int).toNat)) l98) ∧ cond r0 (Q sp_law08_known) (Q false))))) (Q false)
def g_law08_ProgramPrefix_c0_1 (Q : Bool → Prop) (t6 : Bool) (t11 : Int) (c9_0 : List Seg) (c9_1 : List Rect) (l97 : List Seg) (l98 : List Rect) : Prop := Q t6
def g_law08_ProgramPrefix_s1 (rec : Bool → Int → Bool → Int → List Seg → List Rect → List Seg → List Rect → Prop) (x0 : Bool → Int → Bool → Int → List Seg → List Rect → List Seg → List Rect → Prop) (t6 : Bool) (t11 : Int) (t12 : Bool) (t13 : Int) (c9_0 : List Seg) (c9_1 : List Rect) (l97 : List Seg) (l98 : List Rect) : Prop := cond (decide (t13 < (c9_0.length : Int))) (cond t12 (rec t6 t11 true (w64 (t13 + 1)) c9_0 c9_1 l97 l98) (((0 ≤ t11 ∧ t11 < l97.length) ∧ (let e0 := (c9_0.getD t13.toNat default); ((0 ≤ t13 ∧ t13 < c9_0.length) ∧ (let r1 := (sp_law08_within ((l97.getD t11.toNat default).X1) ((l97.getD t11.toNat default).Y1) ((l97.getD t11.toNat default).X2) ((l97.getD t11.toNat default).Y2) e0.X1 e0.Y1 e0.X2 e0.Y2); rec t6 t11 r1 (w64 (t13 + 1)) c9_0 c9_1 l97 l98)))))) (x0 t6 t11 t12 t13 c9_0 c9_1 l97 l98)
def g_law08_ProgramPrefix_c1_0 (rec : Bool → Int → List Seg → List Rect → List Seg → List Rect → Prop) (x0 : Bool → Int → List Seg → List Rect → List Seg → List Rect → Prop) (x1 : Bool → Int → List Seg → List Rect → List Seg → List Rect → Prop) (t6 : Bool) (t11 : Int) (t12 : Bool) (t13 : Int) (c9_0 : List Seg) (c9_1 : List Rect) (l97 : List Seg) (l98 : List Rect) : Prop := cond (!t12) (x1 false t11 c9_0 c9_1 l97 l98) (rec t6 (w64 (t11 + 1)) c9_0 c9_1 l97 l98)
def w_law08_ProgramPrefix_1 (F : Nat) (x0 : Bool → Int → Bool → Int → List Seg → List Rect → List Seg → List Rect → Prop) : Nat → Bool → Int → Bool → Int → List Seg → List Rect → List Seg → List Rect → Prop
  | 0, _, _, _, _, _, _, _, _ => False
  | n + 1, t6, t11, t12, t13, c9_0, c9_1, l97, l98 => g_law08_ProgramPrefix_s1 (w_law08_ProgramPrefix_1 F x0 n) x0 t6 t11 t12 t13 c9_0 c9_1 l97 l98
def n_law08_ProgramPrefix_1 (F : Nat) (rec : Bool → Int → List Seg → List Rect → List Seg → List Rect → Prop) (x0 : Bool → Int → List Seg → List Rect → List Seg → List Rect → Prop) (x1 : Bool → Int → List Seg → List Rect → List Seg → List Rect → Prop) (t6 : Bool) (t11 : Int) (t12 : Bool) (t13 : Int) (c9_0 : List Seg) (c9_1 : List Rect) (l97 : List Seg) (l98 : List Rect) : Prop := w_law08_ProgramPrefix_1 F (fun t6 t11 t12 t13 c9_0 c9_1 l97 l98 => g_law08_ProgramPrefix_c1_0 rec x0 x1 t6 t11 t12 t13 c9_0 c9_1 l97 l98) F t6 t11 t12 t13 c9_0 c9_1 l97 l98
def w_law08_ProgramPrefix_0 (F : Nat) (x0 : Bool → Int → List Seg → List Rect → List Seg → List Rect → Prop) (x1 : Bool → Int → List Seg → List Rect → List Seg → List Rect → Prop) : Nat → Bool → Int → List Seg → List Rect → List Seg → List Rect → Prop
  | 0, _, _, _, _, _, _ => False
  | n + 1, t6, t11, c9_0, c9_1, l97, l98 => g_law08_ProgramPrefix_s0 (w_law08_ProgramPrefix_0 F x0 x1 n) x0 x1 t6 t11 c9_0 c9_1 l97 l98 (n_law08_ProgramPrefix_1 F (w_law08_ProgramPrefix_0 F x0 x1 n) x0 x1)
def n_law08_ProgramPrefix_0 (F : Nat) (Q : Bool → Prop) (t6 : Bool) (t11 : Int) (c9_0 : List Seg) (c9_1 : List Rect) (l97 : List Seg) (l98 : List Rect) : Prop := w_law08_ProgramPrefix_0 F (fun t6 t11 c9_0 c9_1 l97 l98 => g_law08_ProgramPrefix_c0_0 Q t6 t11 c9_0 c9_1 l97 l98) (fun t6 t11 c9_0 c9_1 l97 l98 => g_law08_ProgramPrefix_c0_1 Q t6 t11 c9_0 c9_1 l97 l98) F t6 t11 c9_0 c9_1 l97 l98
def w_law08_ProgramPrefix (F : Nat) (a0_Name : ByteArray) (a0_Material : ByteArray) (a0_Gauge : Int) (a0_Grain : Int) (a0_Width : Int) (a0_Height : Int) (a0_Clamps : List Rect) (a0_Used : List Rect) (a1 : List Opn) (a2_Kind : Int) (a2_X : Int) (a2_Y : Int) (a2_W : Int) (a2_H : Int) (a2_N : Int) (Q : Bool → Prop) : Prop := g_law08_ProgramPrefix_e a0_Name a0_Material a0_Gauge a0_Grain a0_Width a0_Height a0_Clamps a0_Used a1 a2_Kind a2_X a2_Y a2_W a2_H a2_N Q (n_law08_ProgramPrefix_0 F Q)
end
end Go.Proofs.YteffpgliiilnjaaGreatDoor

namespace Go.Proofs.YteffpgliiilnjaaGreatDoor
open Go.Vm Go.RowKit
set_option linter.unusedVariables false
noncomputable section

theorem insB_within (w h : Int) (hw : 0 ≤ w ∧ w ≤ 1048576) (hh : 0 ≤ h ∧ h ≤ 1048576) : insB w h = withinB w h := by
  funext r
  unfold insB withinB
  rw [inside_within, show (2 * 0 : Int) = 0 from rfl, show w64 0 = 0 from rfl, Int.sub_zero, Int.sub_zero, w64_of (by omega) (by omega), w64_of (by omega) (by omega)]
theorem validB_right : validB = rightB := by
  funext r
  exact valid_right _ _ _ _
theorem not_from (a lo hi : Int) : (!(decide (lo ≤ a) && decide (a ≤ hi))) = (decide (a < lo) || decide (hi < a)) := by
  rw [Bool.eq_iff_iff]
  simp only [Bool.not_eq_true', Bool.and_eq_false_iff, decide_eq_false_iff_not, Bool.or_eq_true, decide_eq_true_eq]
  omega
theorem sheet_same (nm mt : ByteArray) (g gr w h : Int) (cl us : List Rect) : sp_nest_ValidateSheet nm mt g gr w h cl us = sp_ref06_ValidateSheet nm mt g gr w h cl us := by
  unfold sp_nest_ValidateSheet sp_ref06_ValidateSheet sp_nest_valid sp_ref06_Rights sp_ref06_stuff sp_nest_plain sp_nest_from sp_ref06_inside
  rw [validB_right, not_from, not_from]
  have e1 : (!(decide (1 ≤ g) && decide (g ≤ 60) && (decide (0 ≤ gr) && decide (gr ≤ 2)))) = (((decide (g < 1) || decide (60 < g)) || decide (gr < 0)) || decide (2 < gr)) := by
    rw [Bool.not_and, not_from, not_from, Bool.or_assoc, Bool.or_assoc, Bool.or_assoc]
  rw [e1]
  generalize (((decide (g < 1) || decide (60 < g)) || decide (gr < 0)) || decide (2 < gr)) = A
  cases (!vn nm || !vn mt)
  · cases A
    · simp only [cond_false, Bool.false_or, bne_self_eq_false]
      by_cases hw : 1 ≤ w ∧ w ≤ 1048576 ∧ 1 ≤ h ∧ h ≤ 1048576
      · rw [insB_within w h (by omega) (by omega), dec_f (show ¬ w < 1 by omega), dec_f (show ¬ 1048576 < w by omega), dec_f (show ¬ h < 1 by omega), dec_f (show ¬ 1048576 < h by omega)]
        simp only [Bool.false_or, cond_false]
        cases cl.all (withinB w h) <;> cases us.all (withinB w h) <;> rfl
      · have e2 : ((decide (w < 1) || decide (1048576 < w)) || (decide (h < 1) || decide (1048576 < h))) = true := by
          simp only [Bool.or_eq_true, decide_eq_true_eq]
          omega
        have e3 : (((decide (w < 1) || decide (1048576 < w)) || decide (h < 1)) || decide (1048576 < h)) = true := by
          rw [Bool.or_assoc]
          exact e2
        rw [e2, e3]
        rfl
    · rfl
  · cases A <;> rfl
theorem runs_same (nm mt : ByteArray) (g gr w h : Int) (cl us : List Rect) (l : List Opn) : sp_program_RunCut nm mt g gr w h cl us l = sp_ref08_RunCut nm mt g gr w h cl us l := by
  unfold sp_program_RunCut sp_ref08_RunCut
  rw [sheet_same]
theorem foldl_mstep_len : ∀ (l o : List Seg), (l.foldl mstep o).length ≤ o.length + l.length
  | [], o => Nat.le_refl _
  | x :: l, o => by
    rw [List.foldl_cons]
    have h1 := foldl_mstep_len l (mstep o x)
    have h2 : (mstep o x).length ≤ o.length + 1 := by
      unfold mstep
      rw [List.length_reverse]
      have : ∀ r : List Seg, (mstepR x r).length ≤ r.length + 1 := fun r => by
        cases r with
        | nil => exact Nat.le_refl _
        | cons y r =>
          show (bif joinsR y x then longer y x :: r else x :: y :: r).length ≤ _
          cases joinsR y x
          · exact Nat.le_refl _
          · show r.length + 1 ≤ _
            simp
      have := this o.reverse
      rwa [List.length_reverse] at this
    rw [List.length_cons]
    omega
theorem runs_len (nm mt : ByteArray) (g gr w h : Int) (cl us : List Rect) (l : List Opn) : (sp_ref08_RunCut nm mt g gr w h cl us l).1.length ≤ 4000 ∧ (sp_ref08_RunCut nm mt g gr w h cl us l).2.1.length ≤ 4000 := by
  unfold sp_ref08_RunCut
  cases (sp_ref06_ValidateSheet nm mt g gr w h cl us != 0) with
  | true => exact ⟨by simp, by simp⟩
  | false =>
  rw [cond_false]
  by_cases hl : 4000 < (l.length : Int)
  · rw [dec_t hl]
    exact ⟨by simp, by simp⟩
  rw [dec_f hl, cond_false]
  unfold runC
  split
  · exact ⟨by simp, by simp⟩
  · rename_i s hs
    obtain ⟨h1, h2, h3⟩ := opsC_inv w h cl l _ _ hs (fun z hz => by cases hz)
    have h2' : s.2.2.1.length ≤ 0 + l.length := h2
    have h3' : s.2.2.2.length ≤ 0 + l.length := h3
    refine ⟨?_, show s.2.2.2.length ≤ 4000 by omega⟩
    show ((isort s.2.2.1).foldl mstep []).length ≤ 4000
    have := foldl_mstep_len (isort s.2.2.1) []
    rw [isort_len] at this
    have h0 : ([] : List Seg).length = 0 := rfl
    omega
theorem law_runs (F : Nat) (nm mt : ByteArray) (g gr w h : Int) (cl us : List Rect) (l : List Opn) : w_law08_ProgramRuns F nm mt g gr w h cl us l fun r => r = true := by
  unfold w_law08_ProgramRuns g_law08_ProgramRuns_e
  rw [runs_same]
  obtain ⟨h1, h2⟩ := runs_len nm mt g gr w h cl us l
  refine ⟨trivial, trivial, ⟨fun _ => ?_, fun _ => ?_⟩, ?_⟩
  · unfold pre_ref06_SameSegments
    omega
  · unfold pre_ref06_SameRects
    omega
  · unfold sp_ref06_SameSegments sp_ref06_SameRects sp_law08_known
    rw [same_t rfl, same_t rfl]
    simp
end
end Go.Proofs.YteffpgliiilnjaaGreatDoor

namespace Go.Proofs.YteffpgliiilnjaaGreatDoor
open Go.Vm Go.RowKit
set_option linter.unusedVariables false
noncomputable section

/-! ### A line more: nothing of the union is lost -/
def foldR (l o : List Seg) : List Seg := l.foldl (fun o x => mstepR x o) o
theorem fold_rev : ∀ (l o : List Seg), l.foldl mstep o = (foldR l o.reverse).reverse
  | [], o => by
    show o = o.reverse.reverse
    rw [List.reverse_reverse]
  | x :: l, o => by
    show l.foldl mstep (mstep o x) = (foldR l (mstepR x o.reverse)).reverse
    rw [fold_rev l (mstep o x)]
    unfold mstep
    rw [List.reverse_reverse]
/-- One line is part of another. -/
def win (a b : Seg) : Prop := b.X1 ≤ a.X1 ∧ a.X2 ≤ b.X2 ∧ b.Y1 ≤ a.Y1 ∧ a.Y2 ≤ b.Y2 ∧ (a.Y1 = a.Y2 ↔ b.Y1 = b.Y2)
theorem win_refl (a : Seg) : win a a := ⟨Int.le_refl _, Int.le_refl _, Int.le_refl _, Int.le_refl _, Iff.rfl⟩
theorem win_trans {a b c : Seg} (h1 : win a b) (h2 : win b c) : win a c := by
  unfold win at *
  omega
def cov (o : List Seg) (s : Seg) : Prop := ∃ b ∈ o, win s b
theorem cov_win {o : List Seg} {s t : Seg} (h : win s t) (h2 : cov o t) : cov o s := by
  obtain ⟨b, hb, hw⟩ := h2
  exact ⟨b, hb, win_trans h hw⟩
theorem longer_win {y z : Seg} (hy : properS y) (hz : properS z) (j : joinsR y z = true) : win y (longer y z) ∧ ((longer y z).Y1 = (longer y z).Y2 ↔ y.Y1 = y.Y2) ∧ (¬ ltW z y → win z (longer y z)) := by
  have m1 := ma_spec y.X2 z.X2
  have m2 := ma_spec y.Y2 z.Y2
  rcases proper_cases hz with ⟨a1, a2⟩ | ⟨a1, a2⟩
  · obtain ⟨q1, q2, q3, q4⟩ := (joins_flat hy a1 a2).1 j
    have e : ma y.Y2 z.Y2 = y.Y2 := by omega
    refine ⟨⟨Int.le_refl _, m1.1, Int.le_refl _, m2.1, ?_⟩, ?_, fun h => ⟨?_, m1.2.1, ?_, m2.2.1, ?_⟩⟩
    · show y.Y1 = y.Y2 ↔ y.Y1 = ma y.Y2 z.Y2
      rw [e]
    · show y.Y1 = ma y.Y2 z.Y2 ↔ y.Y1 = y.Y2
      rw [e]
    · show y.X1 ≤ z.X1
      unfold ltW at h
      omega
    · show y.Y1 ≤ z.Y1
      omega
    · show z.Y1 = z.Y2 ↔ y.Y1 = ma y.Y2 z.Y2
      rw [e]
      exact ⟨fun _ => q1, fun _ => a1⟩
  · obtain ⟨q1, q2, q3, q4⟩ := (joins_up hy a1 a2).1 j
    refine ⟨⟨Int.le_refl _, m1.1, Int.le_refl _, m2.1, ?_⟩, ?_, fun h => ⟨?_, m1.2.1, ?_, m2.2.1, ?_⟩⟩
    · show y.Y1 = y.Y2 ↔ y.Y1 = ma y.Y2 z.Y2
      omega
    · show y.Y1 = ma y.Y2 z.Y2 ↔ y.Y1 = y.Y2
      omega
    · show y.X1 ≤ z.X1
      omega
    · show y.Y1 ≤ z.Y1
      unfold ltW at h
      omega
    · show z.Y1 = z.Y2 ↔ y.Y1 = ma y.Y2 z.Y2
      omega
theorem ltW_longer {y z u : Seg} (h : (longer y z).Y1 = (longer y z).Y2 ↔ y.Y1 = y.Y2) : ltW u (longer y z) ↔ ltW u y := by
  have e1 : (longer y z).X1 = y.X1 := rfl
  have e2 : (longer y z).Y1 = y.Y1 := rfl
  unfold ltW
  rw [h, e1, e2]
theorem mstepR_eq (x y : Seg) (r : List Seg) : mstepR x (y :: r) = bif joinsR y x then longer y x :: r else x :: y :: r := rfl
theorem cov_step {z : Seg} (hz : properS z) {o : List Seg} (ho : properL o) {s : Seg} (h : cov o s) : cov (mstepR z o) s := by
  obtain ⟨b, hb, hw⟩ := h
  cases o with
  | nil => cases hb
  | cons y r =>
    rw [mstepR_eq]
    cases j : joinsR y z with
    | false => exact ⟨b, List.mem_cons_of_mem _ hb, hw⟩
    | true =>
      rcases List.mem_cons.1 hb with rfl | hb
      · exact ⟨_, List.mem_cons_self .., win_trans hw (longer_win (ho _ (by simp)) hz j).1⟩
      · exact ⟨b, List.mem_cons_of_mem _ hb, hw⟩
def Ord : List Seg → List Seg → Prop
  | [], _ => True
  | y :: _, b => ∀ z ∈ b, ¬ ltW z y
theorem ord_step {z : Seg} {o b : List Seg} (hz : properS z) (ho : properL o) (h : Ord o (z :: b)) (hs : ∀ u ∈ b, ¬ ltW u z) : Ord (mstepR z o) b := by
  cases o with
  | nil => exact hs
  | cons y r =>
    rw [mstepR_eq]
    cases j : joinsR y z with
    | false => exact hs
    | true =>
      intro u hu
      rw [ltW_longer (longer_win (ho _ (by simp)) hz j).2.1]
      exact h u (by simp [hu])
theorem ord_fold : ∀ (a c o : List Seg), properL a → properL o → Ord o (a ++ c) → (a ++ c).Pairwise (fun u v => ¬ ltW v u) → Ord (foldR a o) c ∧ properL (foldR a o)
  | [], c, o, _, ho, h, _ => ⟨h, ho⟩
  | z :: a, c, o, ha, ho, h, hs => by
    rw [List.cons_append, List.pairwise_cons] at hs
    have hz := ha z (by simp)
    exact ord_fold a c (mstepR z o) (fun s q => ha s (by simp [q])) (mstepR_proper hz ho) (ord_step hz ho h hs.1) hs.2
/-- The last line of the one is part of the last line of the other; all others are covered. -/
def Rl (o o' : List Seg) : Prop := o = [] ∨ ∃ y r y' r', o = y :: r ∧ o' = y' :: r' ∧ win y y' ∧ ∀ s ∈ r, cov o' s
theorem rl_cov {o o' : List Seg} (h : Rl o o') : ∀ s ∈ o, cov o' s := by
  rcases h with rfl | ⟨y, r, y', r', rfl, rfl, hw, hr⟩
  · intro s hs
    cases hs
  · intro s hs
    rcases List.mem_cons.1 hs with rfl | hs
    · exact ⟨y', by simp, hw⟩
    · exact hr s hs
theorem rl_step {z : Seg} {o o' : List Seg} (hz : properS z) (ho : properL o) (ho' : properL o') (h : Rl o o') (hd : Ord o' [z]) (hd0 : Ord o [z]) : Rl (mstepR z o) (mstepR z o') := by
  have top : ∃ y' r', mstepR z o' = y' :: r' ∧ win z y' := by
    cases o' with
    | nil => exact ⟨z, [], rfl, win_refl z⟩
    | cons y' r' =>
      rw [mstepR_eq]
      cases j : joinsR y' z with
      | false => exact ⟨z, _, rfl, win_refl z⟩
      | true => exact ⟨_, _, rfl, (longer_win (ho' _ (by simp)) hz j).2.2 (hd z (by simp))⟩
  rcases h with rfl | ⟨y, r, y', r', rfl, rfl, hw, hr⟩
  · obtain ⟨y', r', e, hw⟩ := top
    exact .inr ⟨z, [], y', r', rfl, e, hw, fun s hs => by cases hs⟩
  · have hy := ho y (by simp)
    have hy' := ho' y' (by simp)
    cases j : joinsR y z with
    | false =>
      obtain ⟨y2, r2, e, hw2⟩ := top
      refine .inr ⟨z, y :: r, y2, r2, by rw [mstepR_eq, j]; rfl, e, hw2, fun s hs => cov_step hz ho' ?_⟩
      rcases List.mem_cons.1 hs with rfl | hs
      · exact ⟨y', by simp, hw⟩
      · exact hr s hs
    | true =>
      have j' : joinsR y' z = true := by
        unfold win at hw
        rcases proper_cases hz with ⟨a1, a2⟩ | ⟨a1, a2⟩
        · obtain ⟨q1, q2, q3, q4⟩ := (joins_flat hy a1 a2).1 j
          have := hw.2.2.2.2.1 q1
          exact (joins_flat hy' a1 a2).2 ⟨this, by omega, by omega, by omega⟩
        · obtain ⟨q1, q2, q3, q4⟩ := (joins_up hy a1 a2).1 j
          have hn : ¬ y'.Y1 = y'.Y2 := fun q => by
            have := hw.2.2.2.2.2 q
            omega
          have hc := proper_cases hy'
          exact (joins_up hy' a1 a2).2 ⟨by omega, by omega, by omega, by omega⟩
      have m1 := ma_spec y.X2 z.X2
      have m2 := ma_spec y.Y2 z.Y2
      have m3 := ma_spec y'.X2 z.X2
      have m4 := ma_spec y'.Y2 z.Y2
      refine .inr ⟨longer y z, r, longer y' z, r', by rw [mstepR_eq, j]; rfl, by rw [mstepR_eq, j']; rfl, ?_, fun s hs => ?_⟩
      · have f1 := (longer_win hy hz j).2.1
        have f2 := (longer_win hy' hz j').2.1
        unfold win at hw ⊢
        refine ⟨hw.1, ?_, hw.2.2.1, ?_, f1.trans (hw.2.2.2.2.trans f2.symm)⟩
        · show ma y.X2 z.X2 ≤ ma y'.X2 z.X2
          omega
        · show ma y.Y2 z.Y2 ≤ ma y'.Y2 z.Y2
          omega
      · exact cov_step hz ho' (hr s hs)
theorem rl_fold : ∀ (b o o' : List Seg), properL b → properL o → properL o' → Rl o o' → Ord o b → Ord o' b → b.Pairwise (fun u v => ¬ ltW v u) → Rl (foldR b o) (foldR b o')
  | [], o, o', _, _, _, h, _, _, _ => h
  | z :: b, o, o', hb, ho, ho', h, d, d', hs => by
    rw [List.pairwise_cons] at hs
    have hz := hb z (by simp)
    have d1 : Ord o [z] := by
      cases o with
      | nil => trivial
      | cons y r => exact fun u hu => d u (by simp [List.mem_singleton.1 hu])
    have d2 : Ord o' [z] := by
      cases o' with
      | nil => trivial
      | cons y r => exact fun u hu => d' u (by simp [List.mem_singleton.1 hu])
    exact rl_fold b _ _ (fun s q => hb s (by simp [q])) (mstepR_proper hz ho) (mstepR_proper hz ho') (rl_step hz ho ho' h d2 d1) (ord_step hz ho d hs.1) (ord_step hz ho' d' hs.1) hs.2
theorem insR_split (x : Seg) : ∀ r : List Seg, ∃ r1 r2, r = r1 ++ r2 ∧ insR x r = r1 ++ x :: r2
  | [] => ⟨[], [], rfl, rfl⟩
  | y :: r => by
    obtain ⟨r1, r2, e1, e2⟩ := insR_split x r
    unfold insR
    cases lessR x y with
    | false => exact ⟨[], y :: r, rfl, rfl⟩
    | true => exact ⟨y :: r1, r2, by rw [e1]; rfl, by rw [cond_true, e2]; rfl⟩
theorem ins_split (l : List Seg) (x : Seg) : ∃ a b, l = a ++ b ∧ ins l x = a ++ x :: b := by
  obtain ⟨r1, r2, e1, e2⟩ := insR_split x l.reverse
  refine ⟨r2.reverse, r1.reverse, ?_, ?_⟩
  · rw [← List.reverse_append, ← e1, List.reverse_reverse]
  · unfold ins
    rw [e2]
    simp
theorem merge_more (l : List Seg) (x : Seg) (hl : properL l) (hx : properS x) : ∀ s ∈ sp_ref08_Merge l, cov (sp_ref08_Merge (l ++ [x])) s := by
  obtain ⟨p1, s1⟩ := isort_all l [] List.Pairwise.nil
  rw [List.append_nil] at p1
  have hi : isort (l ++ [x]) = ins (isort l) x := by
    unfold isort
    rw [List.foldl_append]
    rfl
  obtain ⟨a, b, e1, e2⟩ := ins_split (isort l) x
  have hs := ins_sorted (isort l) x s1
  have hpl : properL (isort l) := fun s q => hl s (p1.mem_iff.1 q)
  rw [e2] at hs
  have hpa : properL a := fun s q => hpl s (by rw [e1]; simp [q])
  have hpb : properL b := fun s q => hpl s (by rw [e1]; simp [q])
  obtain ⟨d, hpo⟩ := ord_fold a (x :: b) [] hpa (fun s q => by cases q) trivial hs
  have hs2 := (List.pairwise_append.1 hs).2.1
  rw [List.pairwise_cons] at hs2
  have key : ∀ s ∈ foldR b (foldR a []), cov (foldR b (mstepR x (foldR a []))) s := by
    generalize foldR a [] = o at d hpo
    have dx : Ord o b := by
      cases o with
      | nil => trivial
      | cons y r => exact fun u hu => d u (by simp [hu])
    have hd' := ord_step hx hpo d hs2.1
    cases o with
    | nil => exact rl_cov (rl_fold b [] _ hpb hpo (mstepR_proper hx hpo) (.inl rfl) trivial hd' hs2.2)
    | cons y r =>
      have hy := hpo y (by simp)
      cases j : joinsR y x with
      | true =>
        refine rl_cov (rl_fold b (y :: r) _ hpb hpo (mstepR_proper hx hpo) ?_ dx hd' hs2.2)
        exact .inr ⟨y, r, longer y x, r, rfl, by rw [mstepR_eq, j]; rfl, (longer_win hy hx j).1, fun s q => ⟨s, by rw [mstepR_eq, j]; simp [q], win_refl s⟩⟩
      | false =>
        have e3 : mstepR x (y :: r) = x :: y :: r := by rw [mstepR_eq, j]; rfl
        cases b with
        | nil =>
          intro s q
          exact ⟨s, by show s ∈ mstepR x (y :: r); rw [e3]; exact List.mem_cons_of_mem _ q, win_refl s⟩
        | cons z b =>
          have hz := hpb z (by simp)
          have oxy : ¬ ltW x y := d x (by simp)
          have ozx : ¬ ltW z x := hs2.1 z (by simp)
          have jz : joinsR y z = false := by
            rw [Bool.eq_false_iff]
            intro q
            have nj : ¬ joinsR y x = true := by rw [j]; simp
            unfold ltW at oxy ozx
            rcases proper_cases hz with ⟨a1, a2⟩ | ⟨a1, a2⟩
            · obtain ⟨q1, q2, q3, q4⟩ := (joins_flat hy a1 a2).1 q
              rcases proper_cases hx with ⟨c1, c2⟩ | ⟨c1, c2⟩
              · exact nj ((joins_flat hy c1 c2).2 ⟨q1, q2, by omega, by omega⟩)
              · omega
            · obtain ⟨q1, q2, q3, q4⟩ := (joins_up hy a1 a2).1 q
              rcases proper_cases hx with ⟨c1, c2⟩ | ⟨c1, c2⟩
              · omega
              · exact nj ((joins_up hy c1 c2).2 ⟨q1, q2, by omega, by omega⟩)
          have hs3 := hs2.2
          rw [List.pairwise_cons] at hs3
          have hpb' : properL b := fun s q => hpb s (by simp [q])
          refine rl_cov (rl_fold b (mstepR z (y :: r)) (mstepR z (mstepR x (y :: r))) hpb' (mstepR_proper hz hpo) (mstepR_proper hz (mstepR_proper hx hpo)) ?_ (ord_step hz hpo dx hs3.1) (ord_step hz (mstepR_proper hx hpo) hd' hs3.1) hs3.2)
          have e4 : mstepR z (y :: r) = z :: y :: r := by rw [mstepR_eq, jz]; rfl
          rw [e3, e4, mstepR_eq]
          have cv : ∀ (t : Seg) (s : Seg), s ∈ y :: r → cov (t :: y :: r) s := fun t s q => ⟨s, List.mem_cons_of_mem _ q, win_refl s⟩
          cases jx : joinsR x z with
          | false => exact .inr ⟨z, y :: r, z, x :: y :: r, rfl, rfl, win_refl z, fun s q => ⟨s, List.mem_cons_of_mem _ (List.mem_cons_of_mem _ q), win_refl s⟩⟩
          | true => exact .inr ⟨z, y :: r, longer x z, y :: r, rfl, rfl, (longer_win hx hz jx).2.2 ozx, cv _⟩
  intro s hs'
  unfold sp_ref08_Merge at hs' ⊢
  rw [fold_rev, List.mem_reverse] at hs'
  rw [hi, e2, fold_rev]
  rw [e1] at hs'
  have f1 : foldR (a ++ b) ([] : List Seg).reverse = foldR b (foldR a []) := by
    unfold foldR
    rw [List.foldl_append]
    rfl
  have f2 : foldR (a ++ x :: b) ([] : List Seg).reverse = foldR b (mstepR x (foldR a [])) := by
    unfold foldR
    rw [List.foldl_append]
    rfl
  rw [f1] at hs'
  rw [f2]
  obtain ⟨c, hc, hw⟩ := key s hs'
  exact ⟨c, List.mem_reverse.2 hc, hw⟩
/-! ### One more operation -/
theorem opsC_append (w h : Int) (cl : List Rect) : ∀ (l m : List Opn) (s : CSt), opsC w h cl (l ++ m) s = (opsC w h cl l s).bind (opsC w h cl m)
  | [], m, s => rfl
  | o :: r, m, s => by
    show (opC w h cl o s).bind (opsC w h cl (r ++ m)) = ((opC w h cl o s).bind (opsC w h cl r)).bind (opsC w h cl m)
    cases opC w h cl o s with
    | none => rfl
    | some t => exact opsC_append w h cl r m t
theorem opC_more (w h : Int) (cl : List Rect) (o : Opn) (s t : CSt) (e : opC w h cl o s = some t) : (t.2.2.1 = s.2.2.1 ∨ ∃ g, properS g ∧ t.2.2.1 = s.2.2.1 ++ [g]) ∧ ∃ u, t.2.2.2 = s.2.2.2 ++ u := by
  obtain ⟨x, y, ls, st⟩ := s
  unfold opC at e
  cases h3 : (o.Kind == 3) with
  | true =>
    rw [h3, cond_true] at e
    cases hw : sp_ref06_Within o.X o.Y o.W o.H 0 0 w h with
    | false => rw [hw] at e; cases e
    | true =>
      rw [hw] at e
      cases e
      exact ⟨.inl rfl, _, rfl⟩
  | false =>
    rw [h3, cond_false] at e
    cases h4 : ((((o.Kind == 1) || (o.Kind == 2)) || (o.Kind == 4)) && onB w h o.X o.Y) with
    | false => rw [h4] at e; cases e
    | true =>
      rw [h4, cond_true] at e
      cases h5 : (o.Kind == 1) with
      | true =>
        rw [h5] at e
        cases e
        exact ⟨.inl rfl, [], by simp⟩
      | false =>
        rw [h5, cond_false] at e
        have e' : cond (axis x y o.X o.Y && !(cl.any (thrS (segTo x y o.X o.Y)))) (some (o.X, o.Y, ls ++ [segTo x y o.X o.Y], st)) none = some t := e
        cases h6 : (axis x y o.X o.Y && !(cl.any (thrS (segTo x y o.X o.Y)))) with
        | false =>
          rw [h6] at e'
          cases e'
        | true =>
          rw [h6] at e'
          cases e'
          refine ⟨.inr ⟨_, ?_, rfl⟩, [], by simp⟩
          rw [Bool.and_eq_true] at h6
          have h7 := h6.1
          unfold axis at h7
          refine ⟨?_, mi_le_ma _ _, mi_le_ma _ _⟩
          show ((mi x o.X == ma x o.X) == (mi y o.Y == ma y o.Y)) = false
          rw [mi_eq_ma, mi_eq_ma]
          simpa using h7
theorem prefix_fact (nm mt : ByteArray) (g gr w h : Int) (cl us : List Rect) (l : List Opn) (o : Opn) (hl : l.length < 4000) :
    let A := sp_program_RunCut nm mt g gr w h cl us l
    let B := sp_program_RunCut nm mt g gr w h cl us ((([] : List Opn) ++ l) ++ [o])
    (A.2.2 ≠ 0 → B.2.2 = A.2.2) ∧ (A.2.2 = 0 → B.2.2 = 0 → (∀ s ∈ A.1, cov B.1 s) ∧ ∃ t, B.2.1 = A.2.1 ++ t) := by
  intro A B
  have e0 : ([] : List Opn) ++ l ++ [o] = l ++ [o] := rfl
  have hA : A = sp_program_RunCut nm mt g gr w h cl us l := rfl
  have hB : B = sp_program_RunCut nm mt g gr w h cl us (l ++ [o]) := rfl
  clear_value A B
  unfold sp_program_RunCut at hA hB
  cases hv : (sp_nest_ValidateSheet nm mt g gr w h cl us != 0) with
  | true =>
    rw [hv, cond_true] at hA hB
    rw [hA, hB]
    refine ⟨fun _ => rfl, fun q => ?_⟩
    have q' : sp_nest_ValidateSheet nm mt g gr w h cl us = 0 := q
    rw [q'] at hv
    cases hv
  | false =>
  rw [hv, cond_false] at hA hB
  have hl2 : (l ++ [o]).length = l.length + 1 := by simp
  rw [dec_f (show ¬ 4000 < (l.length : Int) by omega), cond_false] at hA
  rw [dec_f (show ¬ 4000 < ((l ++ [o]).length : Int) by rw [hl2]; omega), cond_false] at hB
  unfold runC at hA hB
  rw [opsC_append] at hB
  cases h1 : opsC w h cl l (0, 0, [], []) with
  | none =>
    rw [h1] at hA hB
    rw [hA, hB]
    exact ⟨fun _ => rfl, fun q => by cases q⟩
  | some s =>
    rw [h1] at hA hB
    have hA' : A = (sp_ref08_Merge s.2.2.1, s.2.2.2, 0) := hA
    rw [hA']
    refine ⟨fun q => absurd rfl q, fun _ q => ?_⟩
    have hB2 : (match (opC w h cl o s).bind (opsC w h cl []) with
      | none => (([], [], 16) : List Seg × List Rect × Int)
      | some s => (sp_ref08_Merge s.2.2.1, s.2.2.2, 0)) = B := hB.symm
    cases h2 : opC w h cl o s with
    | none =>
      rw [h2] at hB2
      rw [← hB2] at q
      cases q
    | some t =>
      rw [h2] at hB2
      have hB3 : B = (sp_ref08_Merge t.2.2.1, t.2.2.2, 0) := hB2.symm
      rw [hB3]
      obtain ⟨m1, u, m2⟩ := opC_more w h cl o s t h2
      have hp := (opsC_inv w h cl l _ _ h1 (fun z hz => by cases hz)).1
      refine ⟨?_, u, m2⟩
      rcases m1 with m1 | ⟨gg, hg, m1⟩
      · rw [m1]
        exact fun z hz => ⟨z, hz, win_refl z⟩
      · rw [m1]
        exact merge_more _ _ hp hg
theorem within_t {a b : Seg} (h : win a b) : sp_law08_within a.X1 a.Y1 a.X2 a.Y2 b.X1 b.Y1 b.X2 b.Y2 = true := by
  unfold win at h
  unfold sp_law08_within
  rw [dec_t h.1, dec_t h.2.1, dec_t h.2.2.1, dec_t h.2.2.2.1]
  by_cases q : a.Y1 = a.Y2
  · rw [beq_t q, beq_t (h.2.2.2.2.1 q)]
    rfl
  · rw [beq_f q, beq_f (fun e => q (h.2.2.2.2.2 e))]
    rfl
def inS (a b : Seg) : Bool := sp_law08_within a.X1 a.Y1 a.X2 a.Y2 b.X1 b.Y1 b.X2 b.Y2
theorem lp_in (F : Nat) (x0 : Bool → Int → Bool → Int → List Seg → List Rect → List Seg → List Rect → Prop) (t6 : Bool) (c : List Seg) (c1 : List Rect) (l : List Seg) (l1 : List Rect) (i : Nat) (hi : i < l.length) (hc : c.length ≤ 1000000) : ∀ (n k : Nat) (t : Bool), k ≤ c.length → c.length < n + k →
    x0 t6 i (t || (c.drop k).any (inS (l.getD i default))) c.length c c1 l l1 → w_law08_ProgramPrefix_1 F x0 n t6 i t k c c1 l l1 := by
  intro n
  induction n with
  | zero => intro k t h1 h2; omega
  | succ n ih =>
    intro k t h1 h2 hx
    show g_law08_ProgramPrefix_s1 (w_law08_ProgramPrefix_1 F x0 n) x0 t6 i t k c c1 l l1
    unfold g_law08_ProgramPrefix_s1
    by_cases h : k < c.length
    · rw [dec_t (show (k : Int) < c.length by omega), cond_true, w64_succ h (by omega), Int.toNat_natCast, Int.toNat_natCast]
      rw [drop_getD c k h, List.any_cons] at hx
      cases t with
      | true =>
        rw [cond_true]
        exact ih (k + 1) true (by omega) (by omega) (by simpa using hx)
      | false =>
        rw [cond_false]
        refine ⟨⟨by omega, by omega⟩, ⟨by omega, by omega⟩, ?_⟩
        refine ih (k + 1) _ (by omega) (by omega) ?_
        rw [Bool.false_or] at hx
        exact hx
    · have e : k = c.length := by omega
      subst e
      rw [dec_f (by omega), cond_false]
      rw [List.drop_length] at hx
      simpa using hx
theorem lp_out (F : Nat) (x0 x1 : Bool → Int → List Seg → List Rect → List Seg → List Rect → Prop) (t6 : Bool) (c : List Seg) (c1 : List Rect) (l : List Seg) (l1 : List Rect) (hl : l.length ≤ 1000000) (hc : c.length ≤ 1000000) (hF : c.length < F) (hcov : ∀ s ∈ l, cov c s) (hx : x0 t6 l.length c c1 l l1) :
    ∀ (n i : Nat), i ≤ l.length → l.length < n + i → w_law08_ProgramPrefix_0 F x0 x1 n t6 i c c1 l l1 := by
  intro n
  induction n with
  | zero => intro i h1 h2; omega
  | succ n ih =>
    intro i h1 h2
    show g_law08_ProgramPrefix_s0 (w_law08_ProgramPrefix_0 F x0 x1 n) x0 x1 t6 i c c1 l l1 (n_law08_ProgramPrefix_1 F (w_law08_ProgramPrefix_0 F x0 x1 n) x0 x1)
    unfold g_law08_ProgramPrefix_s0
    by_cases h : i < l.length
    · rw [dec_t (show (i : Int) < l.length by omega), cond_true]
      unfold n_law08_ProgramPrefix_1
      refine lp_in F _ t6 c c1 l l1 i h hc F 0 false (by omega) (by omega) ?_
      have ha : (c.drop 0).any (inS (l.getD i default)) = true := by
        rw [List.drop_zero, List.any_eq_true]
        have hm : l.getD i default ∈ l := by
          rw [List.getD_eq_getElem?_getD, List.getElem?_eq_getElem h]
          exact List.getElem_mem h
        obtain ⟨b, hb, hw⟩ := hcov _ hm
        exact ⟨b, hb, within_t hw⟩
      rw [ha]
      show g_law08_ProgramPrefix_c1_0 _ _ _ _ _ _ _ _ _ _ _
      unfold g_law08_ProgramPrefix_c1_0
      rw [w64_succ h (by omega)]
      exact ih (i + 1) (by omega) (by omega)
    · have e : i = l.length := by omega
      subst e
      rw [dec_f (by omega), cond_false]
      exact hx
theorem law_prefix (nm mt : ByteArray) (g gr w h : Int) (cl us : List Rect) (l : List Opn) (k x y ww hh n : Int) : w_law08_ProgramPrefix 4001 nm mt g gr w h cl us l k x y ww hh n fun r => r = true := by
  unfold w_law08_ProgramPrefix g_law08_ProgramPrefix_e
  by_cases h4 : 4000 ≤ (l.length : Int)
  · rw [dec_t h4]
    rfl
  rw [dec_f h4, cond_false]
  obtain ⟨f1, f2⟩ := prefix_fact nm mt g gr w h cl us l (Opn.mk k x y ww hh n) (by omega)
  have g1 := runs_len nm mt g gr w h cl us l
  have g2 := runs_len nm mt g gr w h cl us ((([] : List Opn) ++ l) ++ [Opn.mk k x y ww hh n])
  rw [← runs_same] at g1 g2
  dsimp only at f1 f2 ⊢
  generalize sp_program_RunCut nm mt g gr w h cl us l = A at f1 f2 g1 ⊢
  generalize sp_program_RunCut nm mt g gr w h cl us ((([] : List Opn) ++ l) ++ [Opn.mk k x y ww hh n]) = B at f1 f2 g2 ⊢
  refine ⟨trivial, by simp; omega, by simp; omega, trivial, ?_⟩
  by_cases e1 : A.2.2 = 0
  · rw [show (A.2.2 != 0) = false by rw [e1]; rfl, cond_false]
    by_cases e2 : B.2.2 = 0
    · rw [show (B.2.2 != 0) = false by rw [e2]; rfl, cond_false]
      obtain ⟨c1, t, c2⟩ := f2 e1 e2
      show w_law08_ProgramPrefix_0 4001 _ _ 4001 false 0 B.1 B.2.1 A.1 A.2.1
      refine lp_out 4001 _ _ false B.1 B.2.1 A.1 A.2.1 (by omega) (by omega) (by omega) c1 ?_ 4001 0 (by omega) (by omega)
      show g_law08_ProgramPrefix_c0_0 _ _ _ _ _ _ _
      unfold g_law08_ProgramPrefix_c0_0
      rw [c2, List.length_append, Int.toNat_natCast, List.take_left]
      rw [dec_t (show ((A.2.1.length : Int)) ≤ ((A.2.1.length + t.length : Nat) : Int) by omega), cond_true]
      refine ⟨⟨by omega, by omega⟩, show A.2.1.length ≤ 1000000 by omega, ?_⟩
      unfold sp_ref06_SameRects
      rw [same_t rfl]
      rfl
    · rw [show (B.2.2 != 0) = true by simpa using e2]
      rfl
  · rw [show (A.2.2 != 0) = true by simpa using e1, f1 e1]
    simp [sp_law08_known]
end
end Go.Proofs.YteffpgliiilnjaaGreatDoor

namespace Go.Proofs.YteffpgliiilnjaaGreatDoor
open Go.Vm Go.RowKit
set_option linter.unusedVariables false
noncomputable section
set_option maxRecDepth 100000 in
theorem entry_geom_within (F : Nat) (Post : AVal UU → Prop) (a0 : Int) (a1 : Int) : exec C_lib Tryz.f132.ntmps M_geom_within F 0 (bo Tryz.f132) (initSt [.int .i64 a0, .int .i64 a1]) (AEnds C_lib false Tryz.f132 Post) = g_geom_within_e a0 a1 (fun r0 => Post (.bool r0)) := by kernel_rfl
theorem exec_geom_within (F : Nat) (Post : AVal UU → Prop) (a0 : Int) (a1 : Int) : exec C_lib Tryz.f132.ntmps M_geom_within F 0 (bo Tryz.f132) (initSt [.int .i64 a0, .int .i64 a1]) (AEnds C_lib false Tryz.f132 Post) = w_geom_within F a0 a1 (fun r0 => Post (.bool r0)) := by
  rw [entry_geom_within]
  rfl
def m_geom_within : Model UU
  | [.int .i64 a0, .int .i64 a1] => some ([], .bool (sp_geom_within a0 a1))
  | _ => none
def C_geom_within : Cfg UU := C_lib.add 132 m_geom_within
theorem s_geom_within : SumOK C_geom_within := by
  refine s_lib.addD mixed (fn := Tryz.f132) (c := bo Tryz.f132) Tryz.func132 (by kernel_rfl) (by kernel_rfl) ?_
  intro xs cs r h hc
  unfold m_geom_within at h
  split at h
  · rename_i a0 a1
    cases h
    obtain ⟨F, hF⟩ := ok_geom_within a0 a1
    refine ⟨by kernel_rfl, M_geom_within, F, false, ⟨?_⟩⟩
    rw [exec_geom_within]
    refine hF _ ?_
    rfl
  · cases h
set_option maxRecDepth 100000 in
theorem entry_ref06_near (F : Nat) (Post : AVal UU → Prop) (a0 : Int) : exec C_geom_within Tryz.f143.ntmps M_ref06_near F 0 (bo Tryz.f143) (initSt [.int .i64 a0]) (AEnds C_geom_within false Tryz.f143 Post) = g_ref06_near_e a0 (fun r0 => Post (.bool r0)) := by kernel_rfl
theorem exec_ref06_near (F : Nat) (Post : AVal UU → Prop) (a0 : Int) : exec C_geom_within Tryz.f143.ntmps M_ref06_near F 0 (bo Tryz.f143) (initSt [.int .i64 a0]) (AEnds C_geom_within false Tryz.f143 Post) = w_ref06_near F a0 (fun r0 => Post (.bool r0)) := by
  rw [entry_ref06_near]
  rfl
def m_ref06_near : Model UU
  | [.int .i64 a0] => some ([], .bool (sp_ref06_near a0))
  | _ => none
def C_ref06_near : Cfg UU := C_geom_within.add 143 m_ref06_near
theorem s_ref06_near : SumOK C_ref06_near := by
  refine s_geom_within.addD mixed (fn := Tryz.f143) (c := bo Tryz.f143) Tryz.func143 (by kernel_rfl) (by kernel_rfl) ?_
  intro xs cs r h hc
  unfold m_ref06_near at h
  split at h
  · rename_i a0
    cases h
    obtain ⟨F, hF⟩ := ok_ref06_near a0
    refine ⟨by kernel_rfl, M_ref06_near, F, false, ⟨?_⟩⟩
    rw [exec_ref06_near]
    refine hF _ ?_
    rfl
  · cases h
set_option maxRecDepth 100000 in
theorem entry_nest_from (F : Nat) (Post : AVal UU → Prop) (a0 : Int) (a1 : Int) (a2 : Int) : exec C_ref06_near Tryz.f78.ntmps M_nest_from F 0 (bo Tryz.f78) (initSt [.int .i64 a0, .int .i64 a1, .int .i64 a2]) (AEnds C_ref06_near false Tryz.f78 Post) = g_nest_from_e a0 a1 a2 (fun r0 => Post (.bool r0)) := by kernel_rfl
theorem exec_nest_from (F : Nat) (Post : AVal UU → Prop) (a0 : Int) (a1 : Int) (a2 : Int) : exec C_ref06_near Tryz.f78.ntmps M_nest_from F 0 (bo Tryz.f78) (initSt [.int .i64 a0, .int .i64 a1, .int .i64 a2]) (AEnds C_ref06_near false Tryz.f78 Post) = w_nest_from F a0 a1 a2 (fun r0 => Post (.bool r0)) := by
  rw [entry_nest_from]
  rfl
def m_nest_from : Model UU
  | [.int .i64 a0, .int .i64 a1, .int .i64 a2] => some ([], .bool (sp_nest_from a0 a1 a2))
  | _ => none
def C_nest_from : Cfg UU := C_ref06_near.add 78 m_nest_from
theorem s_nest_from : SumOK C_nest_from := by
  refine s_ref06_near.addD mixed (fn := Tryz.f78) (c := bo Tryz.f78) Tryz.func78 (by kernel_rfl) (by kernel_rfl) ?_
  intro xs cs r h hc
  unfold m_nest_from at h
  split at h
  · rename_i a0 a1 a2
    cases h
    obtain ⟨F, hF⟩ := ok_nest_from a0 a1 a2
    refine ⟨by kernel_rfl, M_nest_from, F, false, ⟨?_⟩⟩
    rw [exec_nest_from]
    refine hF _ ?_
    rfl
  · cases h
set_option maxRecDepth 100000 in
theorem entry_program_inSheet (F : Nat) (Post : AVal UU → Prop) (a0_Name : ByteArray) (a0_Material : ByteArray) (a0_Gauge : Int) (a0_Grain : Int) (a0_Width : Int) (a0_Height : Int) (a0_Clamps : List Rect) (a0_Used : List Rect) (a1 : Int) (a2 : Int) : exec C_nest_from Tryz.f81.ntmps M_program_inSheet F 0 (bo Tryz.f81) (initSt [.agg [.str a0_Name, .str a0_Material, .int .i64 a0_Gauge, .int .i64 a0_Grain, .int .i64 a0_Width, .int .i64 a0_Height, .sl .rect a0_Clamps, .sl .rect a0_Used], .int .i64 a1, .int .i64 a2]) (AEnds C_nest_from false Tryz.f81 Post) = g_program_inSheet_e a0_Name a0_Material a0_Gauge a0_Grain a0_Width a0_Height a0_Clamps a0_Used a1 a2 (fun r0 => Post (.bool r0)) := by kernel_rfl
theorem exec_program_inSheet (F : Nat) (Post : AVal UU → Prop) (a0_Name : ByteArray) (a0_Material : ByteArray) (a0_Gauge : Int) (a0_Grain : Int) (a0_Width : Int) (a0_Height : Int) (a0_Clamps : List Rect) (a0_Used : List Rect) (a1 : Int) (a2 : Int) : exec C_nest_from Tryz.f81.ntmps M_program_inSheet F 0 (bo Tryz.f81) (initSt [.agg [.str a0_Name, .str a0_Material, .int .i64 a0_Gauge, .int .i64 a0_Grain, .int .i64 a0_Width, .int .i64 a0_Height, .sl .rect a0_Clamps, .sl .rect a0_Used], .int .i64 a1, .int .i64 a2]) (AEnds C_nest_from false Tryz.f81 Post) = w_program_inSheet F a0_Name a0_Material a0_Gauge a0_Grain a0_Width a0_Height a0_Clamps a0_Used a1 a2 (fun r0 => Post (.bool r0)) := by
  rw [entry_program_inSheet]
  rfl
def m_program_inSheet : Model UU
  | [.agg [.str a0_Name, .str a0_Material, .int .i64 a0_Gauge, .int .i64 a0_Grain, .int .i64 a0_Width, .int .i64 a0_Height, .sl .rect a0_Clamps, .sl .rect a0_Used], .int .i64 a1, .int .i64 a2] => some ([], .bool (sp_program_inSheet a0_Name a0_Material a0_Gauge a0_Grain a0_Width a0_Height a0_Clamps a0_Used a1 a2))
  | _ => none
def C_program_inSheet : Cfg UU := C_nest_from.add 81 m_program_inSheet
theorem s_program_inSheet : SumOK C_program_inSheet := by
  refine s_nest_from.addD mixed (fn := Tryz.f81) (c := bo Tryz.f81) Tryz.func81 (by kernel_rfl) (by kernel_rfl) ?_
  intro xs cs r h hc
  unfold m_program_inSheet at h
  split at h
  · rename_i a0_Name a0_Material a0_Gauge a0_Grain a0_Width a0_Height a0_Clamps a0_Used a1 a2
    cases h
    obtain ⟨F, hF⟩ := ok_program_inSheet a0_Name a0_Material a0_Gauge a0_Grain a0_Width a0_Height a0_Clamps a0_Used a1 a2
    refine ⟨by kernel_rfl, M_program_inSheet, F, false, ⟨?_⟩⟩
    rw [exec_program_inSheet]
    refine hF _ ?_
    rfl
  · cases h
set_option maxRecDepth 100000 in
theorem entry_ref08_on (F : Nat) (Post : AVal UU → Prop) (a0_Name : ByteArray) (a0_Material : ByteArray) (a0_Gauge : Int) (a0_Grain : Int) (a0_Width : Int) (a0_Height : Int) (a0_Clamps : List Rect) (a0_Used : List Rect) (a1 : Int) (a2 : Int) : exec C_program_inSheet Tryz.f36.ntmps M_ref08_on F 0 (bo Tryz.f36) (initSt [.agg [.str a0_Name, .str a0_Material, .int .i64 a0_Gauge, .int .i64 a0_Grain, .int .i64 a0_Width, .int .i64 a0_Height, .sl .rect a0_Clamps, .sl .rect a0_Used], .int .i64 a1, .int .i64 a2]) (AEnds C_program_inSheet false Tryz.f36 Post) = g_ref08_on_e a0_Name a0_Material a0_Gauge a0_Grain a0_Width a0_Height a0_Clamps a0_Used a1 a2 (fun r0 => Post (.bool r0)) := by kernel_rfl
theorem exec_ref08_on (F : Nat) (Post : AVal UU → Prop) (a0_Name : ByteArray) (a0_Material : ByteArray) (a0_Gauge : Int) (a0_Grain : Int) (a0_Width : Int) (a0_Height : Int) (a0_Clamps : List Rect) (a0_Used : List Rect) (a1 : Int) (a2 : Int) : exec C_program_inSheet Tryz.f36.ntmps M_ref08_on F 0 (bo Tryz.f36) (initSt [.agg [.str a0_Name, .str a0_Material, .int .i64 a0_Gauge, .int .i64 a0_Grain, .int .i64 a0_Width, .int .i64 a0_Height, .sl .rect a0_Clamps, .sl .rect a0_Used], .int .i64 a1, .int .i64 a2]) (AEnds C_program_inSheet false Tryz.f36 Post) = w_ref08_on F a0_Name a0_Material a0_Gauge a0_Grain a0_Width a0_Height a0_Clamps a0_Used a1 a2 (fun r0 => Post (.bool r0)) := by
  rw [entry_ref08_on]
  rfl
def m_ref08_on : Model UU
  | [.agg [.str a0_Name, .str a0_Material, .int .i64 a0_Gauge, .int .i64 a0_Grain, .int .i64 a0_Width, .int .i64 a0_Height, .sl .rect a0_Clamps, .sl .rect a0_Used], .int .i64 a1, .int .i64 a2] => some ([], .bool (sp_ref08_on a0_Name a0_Material a0_Gauge a0_Grain a0_Width a0_Height a0_Clamps a0_Used a1 a2))
  | _ => none
def C_ref08_on : Cfg UU := C_program_inSheet.add 36 m_ref08_on
theorem s_ref08_on : SumOK C_ref08_on := by
  refine s_program_inSheet.addD mixed (fn := Tryz.f36) (c := bo Tryz.f36) Tryz.func36 (by kernel_rfl) (by kernel_rfl) ?_
  intro xs cs r h hc
  unfold m_ref08_on at h
  split at h
  · rename_i a0_Name a0_Material a0_Gauge a0_Grain a0_Width a0_Height a0_Clamps a0_Used a1 a2
    cases h
    obtain ⟨F, hF⟩ := ok_ref08_on a0_Name a0_Material a0_Gauge a0_Grain a0_Width a0_Height a0_Clamps a0_Used a1 a2
    refine ⟨by kernel_rfl, M_ref08_on, F, false, ⟨?_⟩⟩
    rw [exec_ref08_on]
    refine hF _ ?_
    rfl
  · cases h
set_option maxRecDepth 100000 in
theorem entry_program_line (F : Nat) (Post : AVal UU → Prop) (a0 : Int) (a1 : Int) (a2 : Int) (a3 : Int) : exec C_ref08_on Tryz.f82.ntmps M_program_line F 0 (bo Tryz.f82) (initSt [.int .i64 a0, .int .i64 a1, .int .i64 a2, .int .i64 a3]) (AEnds C_ref08_on false Tryz.f82 Post) = g_program_line_e a0 a1 a2 a3 (fun r0_X1 r0_Y1 r0_X2 r0_Y2 => Post (.agg [.int .i64 r0_X1, .int .i64 r0_Y1, .int .i64 r0_X2, .int .i64 r0_Y2])) := by kernel_rfl
theorem exec_program_line (F : Nat) (Post : AVal UU → Prop) (a0 : Int) (a1 : Int) (a2 : Int) (a3 : Int) : exec C_ref08_on Tryz.f82.ntmps M_program_line F 0 (bo Tryz.f82) (initSt [.int .i64 a0, .int .i64 a1, .int .i64 a2, .int .i64 a3]) (AEnds C_ref08_on false Tryz.f82 Post) = w_program_line F a0 a1 a2 a3 (fun r0_X1 r0_Y1 r0_X2 r0_Y2 => Post (.agg [.int .i64 r0_X1, .int .i64 r0_Y1, .int .i64 r0_X2, .int .i64 r0_Y2])) := by
  rw [entry_program_line]
  rfl
def m_program_line : Model UU
  | [.int .i64 a0, .int .i64 a1, .int .i64 a2, .int .i64 a3] => some ([], .agg [.int .i64 ((sp_program_line a0 a1 a2 a3).1), .int .i64 ((sp_program_line a0 a1 a2 a3).2.1), .int .i64 ((sp_program_line a0 a1 a2 a3).2.2.1), .int .i64 ((sp_program_line a0 a1 a2 a3).2.2.2)])
  | _ => none
def C_program_line : Cfg UU := C_ref08_on.add 82 m_program_line
theorem s_program_line : SumOK C_program_line := by
  refine s_ref08_on.addD mixed (fn := Tryz.f82) (c := bo Tryz.f82) Tryz.func82 (by kernel_rfl) (by kernel_rfl) ?_
  intro xs cs r h hc
  unfold m_program_line at h
  split at h
  · rename_i a0 a1 a2 a3
    cases h
    obtain ⟨F, hF⟩ := ok_program_line a0 a1 a2 a3
    refine ⟨by kernel_rfl, M_program_line, F, false, ⟨?_⟩⟩
    rw [exec_program_line]
    refine hF _ ?_
    rfl
  · cases h
set_option maxRecDepth 100000 in
theorem entry_program_through (F : Nat) (Post : AVal UU → Prop) (a0_X1 : Int) (a0_Y1 : Int) (a0_X2 : Int) (a0_Y2 : Int) (a1_X : Int) (a1_Y : Int) (a1_W : Int) (a1_H : Int) : exec C_program_line Tryz.f85.ntmps M_program_through F 0 (bo Tryz.f85) (initSt [.agg [.int .i64 a0_X1, .int .i64 a0_Y1, .int .i64 a0_X2, .int .i64 a0_Y2], .agg [.int .i64 a1_X, .int .i64 a1_Y, .int .i64 a1_W, .int .i64 a1_H]]) (AEnds C_program_line false Tryz.f85 Post) = g_program_through_e a0_X1 a0_Y1 a0_X2 a0_Y2 a1_X a1_Y a1_W a1_H (fun r0 => Post (.bool r0)) := by kernel_rfl
theorem exec_program_through (F : Nat) (Post : AVal UU → Prop) (a0_X1 : Int) (a0_Y1 : Int) (a0_X2 : Int) (a0_Y2 : Int) (a1_X : Int) (a1_Y : Int) (a1_W : Int) (a1_H : Int) : exec C_program_line Tryz.f85.ntmps M_program_through F 0 (bo Tryz.f85) (initSt [.agg [.int .i64 a0_X1, .int .i64 a0_Y1, .int .i64 a0_X2, .int .i64 a0_Y2], .agg [.int .i64 a1_X, .int .i64 a1_Y, .int .i64 a1_W, .int .i64 a1_H]]) (AEnds C_program_line false Tryz.f85 Post) = w_program_through F a0_X1 a0_Y1 a0_X2 a0_Y2 a1_X a1_Y a1_W a1_H (fun r0 => Post (.bool r0)) := by
  rw [entry_program_through]
  rfl
def m_program_through : Model UU
  | [.agg [.int .i64 a0_X1, .int .i64 a0_Y1, .int .i64 a0_X2, .int .i64 a0_Y2], .agg [.int .i64 a1_X, .int .i64 a1_Y, .int .i64 a1_W, .int .i64 a1_H]] => some ([], .bool (sp_program_through a0_X1 a0_Y1 a0_X2 a0_Y2 a1_X a1_Y a1_W a1_H))
  | _ => none
def C_program_through : Cfg UU := C_program_line.add 85 m_program_through
theorem s_program_through : SumOK C_program_through := by
  refine s_program_line.addD mixed (fn := Tryz.f85) (c := bo Tryz.f85) Tryz.func85 (by kernel_rfl) (by kernel_rfl) ?_
  intro xs cs r h hc
  unfold m_program_through at h
  split at h
  · rename_i a0_X1 a0_Y1 a0_X2 a0_Y2 a1_X a1_Y a1_W a1_H
    cases h
    obtain ⟨F, hF⟩ := ok_program_through a0_X1 a0_Y1 a0_X2 a0_Y2 a1_X a1_Y a1_W a1_H
    refine ⟨by kernel_rfl, M_program_through, F, false, ⟨?_⟩⟩
    rw [exec_program_through]
    refine hF _ ?_
    rfl
  · cases h
set_option maxRecDepth 100000 in
theorem entry_ref08_enters (F : Nat) (Post : AVal UU → Prop) (a0_X1 : Int) (a0_Y1 : Int) (a0_X2 : Int) (a0_Y2 : Int) (a1_X : Int) (a1_Y : Int) (a1_W : Int) (a1_H : Int) : exec C_program_through Tryz.f38.ntmps M_ref08_enters F 0 (bo Tryz.f38) (initSt [.agg [.int .i64 a0_X1, .int .i64 a0_Y1, .int .i64 a0_X2, .int .i64 a0_Y2], .agg [.int .i64 a1_X, .int .i64 a1_Y, .int .i64 a1_W, .int .i64 a1_H]]) (AEnds C_program_through false Tryz.f38 Post) = g_ref08_enters_e a0_X1 a0_Y1 a0_X2 a0_Y2 a1_X a1_Y a1_W a1_H (fun r0 => Post (.bool r0)) := by kernel_rfl
theorem exec_ref08_enters (F : Nat) (Post : AVal UU → Prop) (a0_X1 : Int) (a0_Y1 : Int) (a0_X2 : Int) (a0_Y2 : Int) (a1_X : Int) (a1_Y : Int) (a1_W : Int) (a1_H : Int) : exec C_program_through Tryz.f38.ntmps M_ref08_enters F 0 (bo Tryz.f38) (initSt [.agg [.int .i64 a0_X1, .int .i64 a0_Y1, .int .i64 a0_X2, .int .i64 a0_Y2], .agg [.int .i64 a1_X, .int .i64 a1_Y, .int .i64 a1_W, .int .i64 a1_H]]) (AEnds C_program_through false Tryz.f38 Post) = w_ref08_enters F a0_X1 a0_Y1 a0_X2 a0_Y2 a1_X a1_Y a1_W a1_H (fun r0 => Post (.bool r0)) := by
  rw [entry_ref08_enters]
  rfl
def m_ref08_enters : Model UU
  | [.agg [.int .i64 a0_X1, .int .i64 a0_Y1, .int .i64 a0_X2, .int .i64 a0_Y2], .agg [.int .i64 a1_X, .int .i64 a1_Y, .int .i64 a1_W, .int .i64 a1_H]] => some ([], .bool (sp_ref08_enters a0_X1 a0_Y1 a0_X2 a0_Y2 a1_X a1_Y a1_W a1_H))
  | _ => none
def C_ref08_enters : Cfg UU := C_program_through.add 38 m_ref08_enters
theorem s_ref08_enters : SumOK C_ref08_enters := by
  refine s_program_through.addD mixed (fn := Tryz.f38) (c := bo Tryz.f38) Tryz.func38 (by kernel_rfl) (by kernel_rfl) ?_
  intro xs cs r h hc
  unfold m_ref08_enters at h
  split at h
  · rename_i a0_X1 a0_Y1 a0_X2 a0_Y2 a1_X a1_Y a1_W a1_H
    cases h
    obtain ⟨F, hF⟩ := ok_ref08_enters a0_X1 a0_Y1 a0_X2 a0_Y2 a1_X a1_Y a1_W a1_H
    refine ⟨by kernel_rfl, M_ref08_enters, F, false, ⟨?_⟩⟩
    rw [exec_ref08_enters]
    refine hF _ ?_
    rfl
  · cases h
set_option maxRecDepth 100000 in
theorem entry_ref08_straight (F : Nat) (Post : AVal UU → Prop) (a0 : Int) (a1 : Int) (a2 : Int) (a3 : Int) : exec C_ref08_enters Tryz.f37.ntmps M_ref08_straight F 0 (bo Tryz.f37) (initSt [.int .i64 a0, .int .i64 a1, .int .i64 a2, .int .i64 a3]) (AEnds C_ref08_enters false Tryz.f37 Post) = g_ref08_straight_e a0 a1 a2 a3 (fun r0_X1 r0_Y1 r0_X2 r0_Y2 r1 => Post (.tup [.agg [.int .i64 r0_X1, .int .i64 r0_Y1, .int .i64 r0_X2, .int .i64 r0_Y2], .bool r1])) := by kernel_rfl
theorem exec_ref08_straight (F : Nat) (Post : AVal UU → Prop) (a0 : Int) (a1 : Int) (a2 : Int) (a3 : Int) : exec C_ref08_enters Tryz.f37.ntmps M_ref08_straight F 0 (bo Tryz.f37) (initSt [.int .i64 a0, .int .i64 a1, .int .i64 a2, .int .i64 a3]) (AEnds C_ref08_enters false Tryz.f37 Post) = w_ref08_straight F a0 a1 a2 a3 (fun r0_X1 r0_Y1 r0_X2 r0_Y2 r1 => Post (.tup [.agg [.int .i64 r0_X1, .int .i64 r0_Y1, .int .i64 r0_X2, .int .i64 r0_Y2], .bool r1])) := by
  rw [entry_ref08_straight]
  rfl
def m_ref08_straight : Model UU
  | [.int .i64 a0, .int .i64 a1, .int .i64 a2, .int .i64 a3] => some ([], .tup [.agg [.int .i64 ((sp_ref08_straight a0 a1 a2 a3).1), .int .i64 ((sp_ref08_straight a0 a1 a2 a3).2.1), .int .i64 ((sp_ref08_straight a0 a1 a2 a3).2.2.1), .int .i64 ((sp_ref08_straight a0 a1 a2 a3).2.2.2.1)], .bool ((sp_ref08_straight a0 a1 a2 a3).2.2.2.2)])
  | _ => none
def C_ref08_straight : Cfg UU := C_ref08_enters.add 37 m_ref08_straight
theorem s_ref08_straight : SumOK C_ref08_straight := by
  refine s_ref08_enters.addD mixed (fn := Tryz.f37) (c := bo Tryz.f37) Tryz.func37 (by kernel_rfl) (by kernel_rfl) ?_
  intro xs cs r h hc
  unfold m_ref08_straight at h
  split at h
  · rename_i a0 a1 a2 a3
    cases h
    obtain ⟨F, hF⟩ := ok_ref08_straight a0 a1 a2 a3
    refine ⟨by kernel_rfl, M_ref08_straight, F, false, ⟨?_⟩⟩
    rw [exec_ref08_straight]
    refine hF _ ?_
    rfl
  · cases h
set_option maxRecDepth 100000 in
theorem entry_ref08_less (F : Nat) (Post : AVal UU → Prop) (a0_X1 : Int) (a0_Y1 : Int) (a0_X2 : Int) (a0_Y2 : Int) (a1_X1 : Int) (a1_Y1 : Int) (a1_X2 : Int) (a1_Y2 : Int) : exec C_ref08_straight Tryz.f94.ntmps M_ref08_less F 0 (bo Tryz.f94) (initSt [.agg [.int .i64 a0_X1, .int .i64 a0_Y1, .int .i64 a0_X2, .int .i64 a0_Y2], .agg [.int .i64 a1_X1, .int .i64 a1_Y1, .int .i64 a1_X2, .int .i64 a1_Y2]]) (AEnds C_ref08_straight false Tryz.f94 Post) = g_ref08_less_e a0_X1 a0_Y1 a0_X2 a0_Y2 a1_X1 a1_Y1 a1_X2 a1_Y2 (fun r0 => Post (.bool r0)) := by kernel_rfl
theorem exec_ref08_less (F : Nat) (Post : AVal UU → Prop) (a0_X1 : Int) (a0_Y1 : Int) (a0_X2 : Int) (a0_Y2 : Int) (a1_X1 : Int) (a1_Y1 : Int) (a1_X2 : Int) (a1_Y2 : Int) : exec C_ref08_straight Tryz.f94.ntmps M_ref08_less F 0 (bo Tryz.f94) (initSt [.agg [.int .i64 a0_X1, .int .i64 a0_Y1, .int .i64 a0_X2, .int .i64 a0_Y2], .agg [.int .i64 a1_X1, .int .i64 a1_Y1, .int .i64 a1_X2, .int .i64 a1_Y2]]) (AEnds C_ref08_straight false Tryz.f94 Post) = w_ref08_less F a0_X1 a0_Y1 a0_X2 a0_Y2 a1_X1 a1_Y1 a1_X2 a1_Y2 (fun r0 => Post (.bool r0)) := by
  rw [entry_ref08_less]
  rfl
def m_ref08_less : Model UU
  | [.agg [.int .i64 a0_X1, .int .i64 a0_Y1, .int .i64 a0_X2, .int .i64 a0_Y2], .agg [.int .i64 a1_X1, .int .i64 a1_Y1, .int .i64 a1_X2, .int .i64 a1_Y2]] => some ([], .bool (sp_ref08_less a0_X1 a0_Y1 a0_X2 a0_Y2 a1_X1 a1_Y1 a1_X2 a1_Y2))
  | _ => none
def C_ref08_less : Cfg UU := C_ref08_straight.add 94 m_ref08_less
theorem s_ref08_less : SumOK C_ref08_less := by
  refine s_ref08_straight.addD mixed (fn := Tryz.f94) (c := bo Tryz.f94) Tryz.func94 (by kernel_rfl) (by kernel_rfl) ?_
  intro xs cs r h hc
  unfold m_ref08_less at h
  split at h
  · rename_i a0_X1 a0_Y1 a0_X2 a0_Y2 a1_X1 a1_Y1 a1_X2 a1_Y2
    cases h
    obtain ⟨F, hF⟩ := ok_ref08_less a0_X1 a0_Y1 a0_X2 a0_Y2 a1_X1 a1_Y1 a1_X2 a1_Y2
    refine ⟨by kernel_rfl, M_ref08_less, F, false, ⟨?_⟩⟩
    rw [exec_ref08_less]
    refine hF _ ?_
    rfl
  · cases h
set_option maxRecDepth 100000 in
theorem entry_ref08_joins (F : Nat) (Post : AVal UU → Prop) (a0_X1 : Int) (a0_Y1 : Int) (a0_X2 : Int) (a0_Y2 : Int) (a1_X1 : Int) (a1_Y1 : Int) (a1_X2 : Int) (a1_Y2 : Int) : exec C_ref08_less Tryz.f95.ntmps M_ref08_joins F 0 (bo Tryz.f95) (initSt [.agg [.int .i64 a0_X1, .int .i64 a0_Y1, .int .i64 a0_X2, .int .i64 a0_Y2], .agg [.int .i64 a1_X1, .int .i64 a1_Y1, .int .i64 a1_X2, .int .i64 a1_Y2]]) (AEnds C_ref08_less false Tryz.f95 Post) = g_ref08_joins_e a0_X1 a0_Y1 a0_X2 a0_Y2 a1_X1 a1_Y1 a1_X2 a1_Y2 (fun r0 => Post (.bool r0)) := by kernel_rfl
theorem exec_ref08_joins (F : Nat) (Post : AVal UU → Prop) (a0_X1 : Int) (a0_Y1 : Int) (a0_X2 : Int) (a0_Y2 : Int) (a1_X1 : Int) (a1_Y1 : Int) (a1_X2 : Int) (a1_Y2 : Int) : exec C_ref08_less Tryz.f95.ntmps M_ref08_joins F 0 (bo Tryz.f95) (initSt [.agg [.int .i64 a0_X1, .int .i64 a0_Y1, .int .i64 a0_X2, .int .i64 a0_Y2], .agg [.int .i64 a1_X1, .int .i64 a1_Y1, .int .i64 a1_X2, .int .i64 a1_Y2]]) (AEnds C_ref08_less false Tryz.f95 Post) = w_ref08_joins F a0_X1 a0_Y1 a0_X2 a0_Y2 a1_X1 a1_Y1 a1_X2 a1_Y2 (fun r0 => Post (.bool r0)) := by
  rw [entry_ref08_joins]
  rfl
def m_ref08_joins : Model UU
  | [.agg [.int .i64 a0_X1, .int .i64 a0_Y1, .int .i64 a0_X2, .int .i64 a0_Y2], .agg [.int .i64 a1_X1, .int .i64 a1_Y1, .int .i64 a1_X2, .int .i64 a1_Y2]] => some ([], .bool (sp_ref08_joins a0_X1 a0_Y1 a0_X2 a0_Y2 a1_X1 a1_Y1 a1_X2 a1_Y2))
  | _ => none
def C_ref08_joins : Cfg UU := C_ref08_less.add 95 m_ref08_joins
theorem s_ref08_joins : SumOK C_ref08_joins := by
  refine s_ref08_less.addD mixed (fn := Tryz.f95) (c := bo Tryz.f95) Tryz.func95 (by kernel_rfl) (by kernel_rfl) ?_
  intro xs cs r h hc
  unfold m_ref08_joins at h
  split at h
  · rename_i a0_X1 a0_Y1 a0_X2 a0_Y2 a1_X1 a1_Y1 a1_X2 a1_Y2
    cases h
    obtain ⟨F, hF⟩ := ok_ref08_joins a0_X1 a0_Y1 a0_X2 a0_Y2 a1_X1 a1_Y1 a1_X2 a1_Y2
    refine ⟨by kernel_rfl, M_ref08_joins, F, false, ⟨?_⟩⟩
    rw [exec_ref08_joins]
    refine hF _ ?_
    rfl
  · cases h
set_option maxRecDepth 100000 in
theorem entry_program_after (F : Nat) (Post : AVal UU → Prop) (a0_Kind : Int) (a0_X : Int) (a0_Y : Int) (a0_W : Int) (a0_H : Int) (a0_N : Int) (a1_X : Int) (a1_Y : Int) : exec C_ref08_joins Tryz.f56.ntmps M_program_after F 0 (bo Tryz.f56) (initSt [.agg [.int .i64 a0_Kind, .int .i64 a0_X, .int .i64 a0_Y, .int .i64 a0_W, .int .i64 a0_H, .int .i64 a0_N], .agg [.int .i64 a1_X, .int .i64 a1_Y]]) (AEnds C_ref08_joins false Tryz.f56 Post) = g_program_after_e a0_Kind a0_X a0_Y a0_W a0_H a0_N a1_X a1_Y (fun r0_X r0_Y => Post (.agg [.int .i64 r0_X, .int .i64 r0_Y])) := by kernel_rfl
theorem exec_program_after (F : Nat) (Post : AVal UU → Prop) (a0_Kind : Int) (a0_X : Int) (a0_Y : Int) (a0_W : Int) (a0_H : Int) (a0_N : Int) (a1_X : Int) (a1_Y : Int) : exec C_ref08_joins Tryz.f56.ntmps M_program_after F 0 (bo Tryz.f56) (initSt [.agg [.int .i64 a0_Kind, .int .i64 a0_X, .int .i64 a0_Y, .int .i64 a0_W, .int .i64 a0_H, .int .i64 a0_N], .agg [.int .i64 a1_X, .int .i64 a1_Y]]) (AEnds C_ref08_joins false Tryz.f56 Post) = w_program_after F a0_Kind a0_X a0_Y a0_W a0_H a0_N a1_X a1_Y (fun r0_X r0_Y => Post (.agg [.int .i64 r0_X, .int .i64 r0_Y])) := by
  rw [entry_program_after]
  rfl
def m_program_after : Model UU
  | [.agg [.int .i64 a0_Kind, .int .i64 a0_X, .int .i64 a0_Y, .int .i64 a0_W, .int .i64 a0_H, .int .i64 a0_N], .agg [.int .i64 a1_X, .int .i64 a1_Y]] => some ([], .agg [.int .i64 ((sp_program_after a0_Kind a0_X a0_Y a0_W a0_H a0_N a1_X a1_Y).1), .int .i64 ((sp_program_after a0_Kind a0_X a0_Y a0_W a0_H a0_N a1_X a1_Y).2)])
  | _ => none
def C_program_after : Cfg UU := C_ref08_joins.add 56 m_program_after
theorem s_program_after : SumOK C_program_after := by
  refine s_ref08_joins.addD mixed (fn := Tryz.f56) (c := bo Tryz.f56) Tryz.func56 (by kernel_rfl) (by kernel_rfl) ?_
  intro xs cs r h hc
  unfold m_program_after at h
  split at h
  · rename_i a0_Kind a0_X a0_Y a0_W a0_H a0_N a1_X a1_Y
    cases h
    obtain ⟨F, hF⟩ := ok_program_after a0_Kind a0_X a0_Y a0_W a0_H a0_N a1_X a1_Y
    refine ⟨by kernel_rfl, M_program_after, F, false, ⟨?_⟩⟩
    rw [exec_program_after]
    refine hF _ ?_
    rfl
  · cases h
set_option maxRecDepth 100000 in
theorem entry_program_clean (F : Nat) (Post : AVal UU → Prop) (a0_Kind : Int) (a0_X : Int) (a0_Y : Int) (a0_W : Int) (a0_H : Int) (a0_N : Int) : exec C_program_after Tryz.f52.ntmps M_program_clean F 0 (bo Tryz.f52) (initSt [.agg [.int .i64 a0_Kind, .int .i64 a0_X, .int .i64 a0_Y, .int .i64 a0_W, .int .i64 a0_H, .int .i64 a0_N]]) (AEnds C_program_after false Tryz.f52 Post) = g_program_clean_e a0_Kind a0_X a0_Y a0_W a0_H a0_N (fun r0 => Post (.bool r0)) := by kernel_rfl
theorem exec_program_clean (F : Nat) (Post : AVal UU → Prop) (a0_Kind : Int) (a0_X : Int) (a0_Y : Int) (a0_W : Int) (a0_H : Int) (a0_N : Int) : exec C_program_after Tryz.f52.ntmps M_program_clean F 0 (bo Tryz.f52) (initSt [.agg [.int .i64 a0_Kind, .int .i64 a0_X, .int .i64 a0_Y, .int .i64 a0_W, .int .i64 a0_H, .int .i64 a0_N]]) (AEnds C_program_after false Tryz.f52 Post) = w_program_clean F a0_Kind a0_X a0_Y a0_W a0_H a0_N (fun r0 => Post (.bool r0)) := by
  rw [entry_program_clean]
  rfl
def m_program_clean : Model UU
  | [.agg [.int .i64 a0_Kind, .int .i64 a0_X, .int .i64 a0_Y, .int .i64 a0_W, .int .i64 a0_H, .int .i64 a0_N]] => some ([], .bool (sp_program_clean a0_Kind a0_X a0_Y a0_W a0_H a0_N))
  | _ => none
def C_program_clean : Cfg UU := C_program_after.add 52 m_program_clean
theorem s_program_clean : SumOK C_program_clean := by
  refine s_program_after.addD mixed (fn := Tryz.f52) (c := bo Tryz.f52) Tryz.func52 (by kernel_rfl) (by kernel_rfl) ?_
  intro xs cs r h hc
  unfold m_program_clean at h
  split at h
  · rename_i a0_Kind a0_X a0_Y a0_W a0_H a0_N
    cases h
    obtain ⟨F, hF⟩ := ok_program_clean a0_Kind a0_X a0_Y a0_W a0_H a0_N
    refine ⟨by kernel_rfl, M_program_clean, F, false, ⟨?_⟩⟩
    rw [exec_program_clean]
    refine hF _ ?_
    rfl
  · cases h
set_option maxRecDepth 100000 in
theorem entry_ref08_clean (F : Nat) (Post : AVal UU → Prop) (a0_Kind : Int) (a0_X : Int) (a0_Y : Int) (a0_W : Int) (a0_H : Int) (a0_N : Int) : exec C_program_clean Tryz.f58.ntmps M_ref08_clean F 0 (bo Tryz.f58) (initSt [.agg [.int .i64 a0_Kind, .int .i64 a0_X, .int .i64 a0_Y, .int .i64 a0_W, .int .i64 a0_H, .int .i64 a0_N]]) (AEnds C_program_clean false Tryz.f58 Post) = g_ref08_clean_e a0_Kind a0_X a0_Y a0_W a0_H a0_N (fun r0 => Post (.bool r0)) := by kernel_rfl
theorem exec_ref08_clean (F : Nat) (Post : AVal UU → Prop) (a0_Kind : Int) (a0_X : Int) (a0_Y : Int) (a0_W : Int) (a0_H : Int) (a0_N : Int) : exec C_program_clean Tryz.f58.ntmps M_ref08_clean F 0 (bo Tryz.f58) (initSt [.agg [.int .i64 a0_Kind, .int .i64 a0_X, .int .i64 a0_Y, .int .i64 a0_W, .int .i64 a0_H, .int .i64 a0_N]]) (AEnds C_program_clean false Tryz.f58 Post) = w_ref08_clean F a0_Kind a0_X a0_Y a0_W a0_H a0_N (fun r0 => Post (.bool r0)) := by
  rw [entry_ref08_clean]
  rfl
def m_ref08_clean : Model UU
  | [.agg [.int .i64 a0_Kind, .int .i64 a0_X, .int .i64 a0_Y, .int .i64 a0_W, .int .i64 a0_H, .int .i64 a0_N]] => some ([], .bool (sp_ref08_clean a0_Kind a0_X a0_Y a0_W a0_H a0_N))
  | _ => none
def C_ref08_clean : Cfg UU := C_program_clean.add 58 m_ref08_clean
theorem s_ref08_clean : SumOK C_ref08_clean := by
  refine s_program_clean.addD mixed (fn := Tryz.f58) (c := bo Tryz.f58) Tryz.func58 (by kernel_rfl) (by kernel_rfl) ?_
  intro xs cs r h hc
  unfold m_ref08_clean at h
  split at h
  · rename_i a0_Kind a0_X a0_Y a0_W a0_H a0_N
    cases h
    obtain ⟨F, hF⟩ := ok_ref08_clean a0_Kind a0_X a0_Y a0_W a0_H a0_N
    refine ⟨by kernel_rfl, M_ref08_clean, F, false, ⟨?_⟩⟩
    rw [exec_ref08_clean]
    refine hF _ ?_
    rfl
  · cases h
set_option maxRecDepth 100000 in
theorem entry_ref08_small (F : Nat) (Post : AVal UU → Prop) (a0 : Int) : exec C_ref08_clean Tryz.f60.ntmps M_ref08_small F 0 (bo Tryz.f60) (initSt [.int .i64 a0]) (AEnds C_ref08_clean false Tryz.f60 Post) = g_ref08_small_e a0 (fun r0 => Post (.bool r0)) := by kernel_rfl
theorem exec_ref08_small (F : Nat) (Post : AVal UU → Prop) (a0 : Int) : exec C_ref08_clean Tryz.f60.ntmps M_ref08_small F 0 (bo Tryz.f60) (initSt [.int .i64 a0]) (AEnds C_ref08_clean false Tryz.f60 Post) = w_ref08_small F a0 (fun r0 => Post (.bool r0)) := by
  rw [entry_ref08_small]
  rfl
def m_ref08_small : Model UU
  | [.int .i64 a0] => some ([], .bool (sp_ref08_small a0))
  | _ => none
def C_ref08_small : Cfg UU := C_ref08_clean.add 60 m_ref08_small
theorem s_ref08_small : SumOK C_ref08_small := by
  refine s_ref08_clean.addD mixed (fn := Tryz.f60) (c := bo Tryz.f60) Tryz.func60 (by kernel_rfl) (by kernel_rfl) ?_
  intro xs cs r h hc
  unfold m_ref08_small at h
  split at h
  · rename_i a0
    cases h
    obtain ⟨F, hF⟩ := ok_ref08_small a0
    refine ⟨by kernel_rfl, M_ref08_small, F, false, ⟨?_⟩⟩
    rw [exec_ref08_small]
    refine hF _ ?_
    rfl
  · cases h
set_option maxRecDepth 100000 in
theorem entry_ref08_speaks (F : Nat) (Post : AVal UU → Prop) (a0 : Int) (a1 : Int) : exec C_ref08_small Tryz.f59.ntmps M_ref08_speaks F 0 (bo Tryz.f59) (initSt [.int .i64 a0, .int .i64 a1]) (AEnds C_ref08_small false Tryz.f59 Post) = g_ref08_speaks_e a0 a1 (fun r0 => Post (.bool r0)) := by kernel_rfl
theorem exec_ref08_speaks (F : Nat) (Post : AVal UU → Prop) (a0 : Int) (a1 : Int) : exec C_ref08_small Tryz.f59.ntmps M_ref08_speaks F 0 (bo Tryz.f59) (initSt [.int .i64 a0, .int .i64 a1]) (AEnds C_ref08_small false Tryz.f59 Post) = w_ref08_speaks F a0 a1 (fun r0 => Post (.bool r0)) := by
  rw [entry_ref08_speaks]
  rfl
def m_ref08_speaks : Model UU
  | [.int .i64 a0, .int .i64 a1] => some ([], .bool (sp_ref08_speaks a0 a1))
  | _ => none
def C_ref08_speaks : Cfg UU := C_ref08_small.add 59 m_ref08_speaks
theorem s_ref08_speaks : SumOK C_ref08_speaks := by
  refine s_ref08_small.addD mixed (fn := Tryz.f59) (c := bo Tryz.f59) Tryz.func59 (by kernel_rfl) (by kernel_rfl) ?_
  intro xs cs r h hc
  unfold m_ref08_speaks at h
  split at h
  · rename_i a0 a1
    cases h
    obtain ⟨F, hF⟩ := ok_ref08_speaks a0 a1
    refine ⟨by kernel_rfl, M_ref08_speaks, F, false, ⟨?_⟩⟩
    rw [exec_ref08_speaks]
    refine hF _ ?_
    rfl
  · cases h
set_option maxRecDepth 100000 in
theorem entry_geom_ValidRect_1 (F : Nat) (Post : AVal UU → Prop) (a0 : Int) (a1 : Int) : exec C_ref08_speaks Tryz.f131.ntmps M_geom_ValidRect_1 F 0 (bo Tryz.f131) (initSt [.int .i64 a0, .int .i64 a1]) (AEnds C_ref08_speaks false Tryz.f131 Post) = g_geom_ValidRect_1_e a0 a1 (fun r0 => Post (.bool r0)) := by kernel_rfl
theorem exec_geom_ValidRect_1 (F : Nat) (Post : AVal UU → Prop) (a0 : Int) (a1 : Int) : exec C_ref08_speaks Tryz.f131.ntmps M_geom_ValidRect_1 F 0 (bo Tryz.f131) (initSt [.int .i64 a0, .int .i64 a1]) (AEnds C_ref08_speaks false Tryz.f131 Post) = w_geom_ValidRect_1 F a0 a1 (fun r0 => Post (.bool r0)) := by
  rw [entry_geom_ValidRect_1]
  rfl
def m_geom_ValidRect_1 : Model UU
  | [.int .i64 a0, .int .i64 a1] => some ([], .bool (sp_geom_ValidRect_1 a0 a1))
  | _ => none
def C_geom_ValidRect_1 : Cfg UU := C_ref08_speaks.add 131 m_geom_ValidRect_1
theorem s_geom_ValidRect_1 : SumOK C_geom_ValidRect_1 := by
  refine s_ref08_speaks.addD mixed (fn := Tryz.f131) (c := bo Tryz.f131) Tryz.func131 (by kernel_rfl) (by kernel_rfl) ?_
  intro xs cs r h hc
  unfold m_geom_ValidRect_1 at h
  split at h
  · rename_i a0 a1
    cases h
    obtain ⟨F, hF⟩ := ok_geom_ValidRect_1 a0 a1
    refine ⟨by kernel_rfl, M_geom_ValidRect_1, F, false, ⟨?_⟩⟩
    rw [exec_geom_ValidRect_1]
    refine hF _ ?_
    rfl
  · cases h
set_option maxRecDepth 100000 in
theorem entry_geom_ValidRect (F : Nat) (Post : AVal UU → Prop) (a0_X : Int) (a0_Y : Int) (a0_W : Int) (a0_H : Int) : exec C_geom_ValidRect_1 Tryz.f75.ntmps M_geom_ValidRect F 0 (bo Tryz.f75) (initSt [.agg [.int .i64 a0_X, .int .i64 a0_Y, .int .i64 a0_W, .int .i64 a0_H]]) (AEnds C_geom_ValidRect_1 false Tryz.f75 Post) = g_geom_ValidRect_e a0_X a0_Y a0_W a0_H (fun r0 => Post (.bool r0)) := by kernel_rfl
theorem exec_geom_ValidRect (F : Nat) (Post : AVal UU → Prop) (a0_X : Int) (a0_Y : Int) (a0_W : Int) (a0_H : Int) : exec C_geom_ValidRect_1 Tryz.f75.ntmps M_geom_ValidRect F 0 (bo Tryz.f75) (initSt [.agg [.int .i64 a0_X, .int .i64 a0_Y, .int .i64 a0_W, .int .i64 a0_H]]) (AEnds C_geom_ValidRect_1 false Tryz.f75 Post) = w_geom_ValidRect F a0_X a0_Y a0_W a0_H (fun r0 => Post (.bool r0)) := by
  rw [entry_geom_ValidRect]
  rfl
def m_geom_ValidRect : Model UU
  | [.agg [.int .i64 a0_X, .int .i64 a0_Y, .int .i64 a0_W, .int .i64 a0_H]] => some ([], .bool (sp_geom_ValidRect a0_X a0_Y a0_W a0_H))
  | _ => none
def C_geom_ValidRect : Cfg UU := C_geom_ValidRect_1.add 75 m_geom_ValidRect
theorem s_geom_ValidRect : SumOK C_geom_ValidRect := by
  refine s_geom_ValidRect_1.addD mixed (fn := Tryz.f75) (c := bo Tryz.f75) Tryz.func75 (by kernel_rfl) (by kernel_rfl) ?_
  intro xs cs r h hc
  unfold m_geom_ValidRect at h
  split at h
  · rename_i a0_X a0_Y a0_W a0_H
    cases h
    obtain ⟨F, hF⟩ := ok_geom_ValidRect a0_X a0_Y a0_W a0_H
    refine ⟨by kernel_rfl, M_geom_ValidRect, F, false, ⟨?_⟩⟩
    rw [exec_geom_ValidRect]
    refine hF _ ?_
    rfl
  · cases h
set_option maxRecDepth 100000 in
theorem entry_geom_Inside (F : Nat) (Post : AVal UU → Prop) (a0_X : Int) (a0_Y : Int) (a0_W : Int) (a0_H : Int) (a1_X : Int) (a1_Y : Int) (a1_W : Int) (a1_H : Int) : exec C_geom_ValidRect Tryz.f46.ntmps M_geom_Inside F 0 (bo Tryz.f46) (initSt [.agg [.int .i64 a0_X, .int .i64 a0_Y, .int .i64 a0_W, .int .i64 a0_H], .agg [.int .i64 a1_X, .int .i64 a1_Y, .int .i64 a1_W, .int .i64 a1_H]]) (AEnds C_geom_ValidRect false Tryz.f46 Post) = g_geom_Inside_e a0_X a0_Y a0_W a0_H a1_X a1_Y a1_W a1_H (fun r0 => Post (.bool r0)) := by kernel_rfl
theorem exec_geom_Inside (F : Nat) (Post : AVal UU → Prop) (a0_X : Int) (a0_Y : Int) (a0_W : Int) (a0_H : Int) (a1_X : Int) (a1_Y : Int) (a1_W : Int) (a1_H : Int) : exec C_geom_ValidRect Tryz.f46.ntmps M_geom_Inside F 0 (bo Tryz.f46) (initSt [.agg [.int .i64 a0_X, .int .i64 a0_Y, .int .i64 a0_W, .int .i64 a0_H], .agg [.int .i64 a1_X, .int .i64 a1_Y, .int .i64 a1_W, .int .i64 a1_H]]) (AEnds C_geom_ValidRect false Tryz.f46 Post) = w_geom_Inside F a0_X a0_Y a0_W a0_H a1_X a1_Y a1_W a1_H (fun r0 => Post (.bool r0)) := by
  rw [entry_geom_Inside]
  rfl
def m_geom_Inside : Model UU
  | [.agg [.int .i64 a0_X, .int .i64 a0_Y, .int .i64 a0_W, .int .i64 a0_H], .agg [.int .i64 a1_X, .int .i64 a1_Y, .int .i64 a1_W, .int .i64 a1_H]] => some ([], .bool (sp_geom_Inside a0_X a0_Y a0_W a0_H a1_X a1_Y a1_W a1_H))
  | _ => none
def C_geom_Inside : Cfg UU := C_geom_ValidRect.add 46 m_geom_Inside
theorem s_geom_Inside : SumOK C_geom_Inside := by
  refine s_geom_ValidRect.addD mixed (fn := Tryz.f46) (c := bo Tryz.f46) Tryz.func46 (by kernel_rfl) (by kernel_rfl) ?_
  intro xs cs r h hc
  unfold m_geom_Inside at h
  split at h
  · rename_i a0_X a0_Y a0_W a0_H a1_X a1_Y a1_W a1_H
    cases h
    obtain ⟨F, hF⟩ := ok_geom_Inside a0_X a0_Y a0_W a0_H a1_X a1_Y a1_W a1_H
    refine ⟨by kernel_rfl, M_geom_Inside, F, false, ⟨?_⟩⟩
    rw [exec_geom_Inside]
    refine hF _ ?_
    rfl
  · cases h
set_option maxRecDepth 100000 in
theorem entry_nest_plain (F : Nat) (Post : AVal UU → Prop) (a0 : Int) (a1 : Int) : exec C_geom_Inside Tryz.f77.ntmps M_nest_plain F 0 (bo Tryz.f77) (initSt [.int .i64 a0, .int .i64 a1]) (AEnds C_geom_Inside false Tryz.f77 Post) = g_nest_plain_e a0 a1 (fun r0 => Post (.bool r0)) := by kernel_rfl
theorem exec_nest_plain (F : Nat) (Post : AVal UU → Prop) (a0 : Int) (a1 : Int) : exec C_geom_Inside Tryz.f77.ntmps M_nest_plain F 0 (bo Tryz.f77) (initSt [.int .i64 a0, .int .i64 a1]) (AEnds C_geom_Inside false Tryz.f77 Post) = w_nest_plain F a0 a1 (fun r0 => Post (.bool r0)) := by
  rw [entry_nest_plain]
  rfl
def m_nest_plain : Model UU
  | [.int .i64 a0, .int .i64 a1] => some ([], .bool (sp_nest_plain a0 a1))
  | _ => none
def C_nest_plain : Cfg UU := C_geom_Inside.add 77 m_nest_plain
theorem s_nest_plain : SumOK C_nest_plain := by
  refine s_geom_Inside.addD mixed (fn := Tryz.f77) (c := bo Tryz.f77) Tryz.func77 (by kernel_rfl) (by kernel_rfl) ?_
  intro xs cs r h hc
  unfold m_nest_plain at h
  split at h
  · rename_i a0 a1
    cases h
    obtain ⟨F, hF⟩ := ok_nest_plain a0 a1
    refine ⟨by kernel_rfl, M_nest_plain, F, false, ⟨?_⟩⟩
    rw [exec_nest_plain]
    refine hF _ ?_
    rfl
  · cases h
set_option maxRecDepth 100000 in
theorem entry_nest_inner (F : Nat) (Post : AVal UU → Prop) (a0_Name : ByteArray) (a0_Material : ByteArray) (a0_Gauge : Int) (a0_Grain : Int) (a0_Width : Int) (a0_Height : Int) (a0_Clamps : List Rect) (a0_Used : List Rect) (a1 : Int) : exec C_nest_plain Tryz.f80.ntmps M_nest_inner F 0 (bo Tryz.f80) (initSt [.agg [.str a0_Name, .str a0_Material, .int .i64 a0_Gauge, .int .i64 a0_Grain, .int .i64 a0_Width, .int .i64 a0_Height, .sl .rect a0_Clamps, .sl .rect a0_Used], .int .i64 a1]) (AEnds C_nest_plain false Tryz.f80 Post) = g_nest_inner_e a0_Name a0_Material a0_Gauge a0_Grain a0_Width a0_Height a0_Clamps a0_Used a1 (fun r0_X r0_Y r0_W r0_H r1 => Post (.tup [.agg [.int .i64 r0_X, .int .i64 r0_Y, .int .i64 r0_W, .int .i64 r0_H], .bool r1])) := by kernel_rfl
theorem exec_nest_inner (F : Nat) (Post : AVal UU → Prop) (a0_Name : ByteArray) (a0_Material : ByteArray) (a0_Gauge : Int) (a0_Grain : Int) (a0_Width : Int) (a0_Height : Int) (a0_Clamps : List Rect) (a0_Used : List Rect) (a1 : Int) : exec C_nest_plain Tryz.f80.ntmps M_nest_inner F 0 (bo Tryz.f80) (initSt [.agg [.str a0_Name, .str a0_Material, .int .i64 a0_Gauge, .int .i64 a0_Grain, .int .i64 a0_Width, .int .i64 a0_Height, .sl .rect a0_Clamps, .sl .rect a0_Used], .int .i64 a1]) (AEnds C_nest_plain false Tryz.f80 Post) = w_nest_inner F a0_Name a0_Material a0_Gauge a0_Grain a0_Width a0_Height a0_Clamps a0_Used a1 (fun r0_X r0_Y r0_W r0_H r1 => Post (.tup [.agg [.int .i64 r0_X, .int .i64 r0_Y, .int .i64 r0_W, .int .i64 r0_H], .bool r1])) := by
  rw [entry_nest_inner]
  rfl
def m_nest_inner : Model UU
  | [.agg [.str a0_Name, .str a0_Material, .int .i64 a0_Gauge, .int .i64 a0_Grain, .int .i64 a0_Width, .int .i64 a0_Height, .sl .rect a0_Clamps, .sl .rect a0_Used], .int .i64 a1] => some ([], .tup [.agg [.int .i64 ((sp_nest_inner a0_Name a0_Material a0_Gauge a0_Grain a0_Width a0_Height a0_Clamps a0_Used a1).1), .int .i64 ((sp_nest_inner a0_Name a0_Material a0_Gauge a0_Grain a0_Width a0_Height a0_Clamps a0_Used a1).2.1), .int .i64 ((sp_nest_inner a0_Name a0_Material a0_Gauge a0_Grain a0_Width a0_Height a0_Clamps a0_Used a1).2.2.1), .int .i64 ((sp_nest_inner a0_Name a0_Material a0_Gauge a0_Grain a0_Width a0_Height a0_Clamps a0_Used a1).2.2.2.1)], .bool ((sp_nest_inner a0_Name a0_Material a0_Gauge a0_Grain a0_Width a0_Height a0_Clamps a0_Used a1).2.2.2.2)])
  | _ => none
def C_nest_inner : Cfg UU := C_nest_plain.add 80 m_nest_inner
theorem s_nest_inner : SumOK C_nest_inner := by
  refine s_nest_plain.addD mixed (fn := Tryz.f80) (c := bo Tryz.f80) Tryz.func80 (by kernel_rfl) (by kernel_rfl) ?_
  intro xs cs r h hc
  unfold m_nest_inner at h
  split at h
  · rename_i a0_Name a0_Material a0_Gauge a0_Grain a0_Width a0_Height a0_Clamps a0_Used a1
    cases h
    obtain ⟨F, hF⟩ := ok_nest_inner a0_Name a0_Material a0_Gauge a0_Grain a0_Width a0_Height a0_Clamps a0_Used a1
    refine ⟨by kernel_rfl, M_nest_inner, F, false, ⟨?_⟩⟩
    rw [exec_nest_inner]
    refine hF _ ?_
    rfl
  · cases h
set_option maxRecDepth 100000 in
theorem entry_ref06_Right (F : Nat) (Post : AVal UU → Prop) (a0_X : Int) (a0_Y : Int) (a0_W : Int) (a0_H : Int) : exec C_nest_inner Tryz.f93.ntmps M_ref06_Right F 0 (bo Tryz.f93) (initSt [.agg [.int .i64 a0_X, .int .i64 a0_Y, .int .i64 a0_W, .int .i64 a0_H]]) (AEnds C_nest_inner false Tryz.f93 Post) = g_ref06_Right_e a0_X a0_Y a0_W a0_H (fun r0 => Post (.bool r0)) := by kernel_rfl
theorem exec_ref06_Right (F : Nat) (Post : AVal UU → Prop) (a0_X : Int) (a0_Y : Int) (a0_W : Int) (a0_H : Int) : exec C_nest_inner Tryz.f93.ntmps M_ref06_Right F 0 (bo Tryz.f93) (initSt [.agg [.int .i64 a0_X, .int .i64 a0_Y, .int .i64 a0_W, .int .i64 a0_H]]) (AEnds C_nest_inner false Tryz.f93 Post) = w_ref06_Right F a0_X a0_Y a0_W a0_H (fun r0 => Post (.bool r0)) := by
  rw [entry_ref06_Right]
  rfl
def m_ref06_Right : Model UU
  | [.agg [.int .i64 a0_X, .int .i64 a0_Y, .int .i64 a0_W, .int .i64 a0_H]] => some ([], .bool (sp_ref06_Right a0_X a0_Y a0_W a0_H))
  | _ => none
def C_ref06_Right : Cfg UU := C_nest_inner.add 93 m_ref06_Right
theorem s_ref06_Right : SumOK C_ref06_Right := by
  refine s_nest_inner.addD mixed (fn := Tryz.f93) (c := bo Tryz.f93) Tryz.func93 (by kernel_rfl) (by kernel_rfl) ?_
  intro xs cs r h hc
  unfold m_ref06_Right at h
  split at h
  · rename_i a0_X a0_Y a0_W a0_H
    cases h
    obtain ⟨F, hF⟩ := ok_ref06_Right a0_X a0_Y a0_W a0_H
    refine ⟨by kernel_rfl, M_ref06_Right, F, false, ⟨?_⟩⟩
    rw [exec_ref06_Right]
    refine hF _ ?_
    rfl
  · cases h
set_option maxRecDepth 100000 in
theorem entry_ref06_Within (F : Nat) (Post : AVal UU → Prop) (a0_X : Int) (a0_Y : Int) (a0_W : Int) (a0_H : Int) (a1_X : Int) (a1_Y : Int) (a1_W : Int) (a1_H : Int) : exec C_ref06_Right Tryz.f35.ntmps M_ref06_Within F 0 (bo Tryz.f35) (initSt [.agg [.int .i64 a0_X, .int .i64 a0_Y, .int .i64 a0_W, .int .i64 a0_H], .agg [.int .i64 a1_X, .int .i64 a1_Y, .int .i64 a1_W, .int .i64 a1_H]]) (AEnds C_ref06_Right false Tryz.f35 Post) = g_ref06_Within_e a0_X a0_Y a0_W a0_H a1_X a1_Y a1_W a1_H (fun r0 => Post (.bool r0)) := by kernel_rfl
theorem exec_ref06_Within (F : Nat) (Post : AVal UU → Prop) (a0_X : Int) (a0_Y : Int) (a0_W : Int) (a0_H : Int) (a1_X : Int) (a1_Y : Int) (a1_W : Int) (a1_H : Int) : exec C_ref06_Right Tryz.f35.ntmps M_ref06_Within F 0 (bo Tryz.f35) (initSt [.agg [.int .i64 a0_X, .int .i64 a0_Y, .int .i64 a0_W, .int .i64 a0_H], .agg [.int .i64 a1_X, .int .i64 a1_Y, .int .i64 a1_W, .int .i64 a1_H]]) (AEnds C_ref06_Right false Tryz.f35 Post) = w_ref06_Within F a0_X a0_Y a0_W a0_H a1_X a1_Y a1_W a1_H (fun r0 => Post (.bool r0)) := by
  rw [entry_ref06_Within]
  rfl
def m_ref06_Within : Model UU
  | [.agg [.int .i64 a0_X, .int .i64 a0_Y, .int .i64 a0_W, .int .i64 a0_H], .agg [.int .i64 a1_X, .int .i64 a1_Y, .int .i64 a1_W, .int .i64 a1_H]] => some ([], .bool (sp_ref06_Within a0_X a0_Y a0_W a0_H a1_X a1_Y a1_W a1_H))
  | _ => none
def C_ref06_Within : Cfg UU := C_ref06_Right.add 35 m_ref06_Within
theorem s_ref06_Within : SumOK C_ref06_Within := by
  refine s_ref06_Right.addD mixed (fn := Tryz.f35) (c := bo Tryz.f35) Tryz.func35 (by kernel_rfl) (by kernel_rfl) ?_
  intro xs cs r h hc
  unfold m_ref06_Within at h
  split at h
  · rename_i a0_X a0_Y a0_W a0_H a1_X a1_Y a1_W a1_H
    cases h
    obtain ⟨F, hF⟩ := ok_ref06_Within a0_X a0_Y a0_W a0_H a1_X a1_Y a1_W a1_H
    refine ⟨by kernel_rfl, M_ref06_Within, F, false, ⟨?_⟩⟩
    rw [exec_ref06_Within]
    refine hF _ ?_
    rfl
  · cases h
set_option maxRecDepth 100000 in
theorem entry_ref06_stuff (F : Nat) (Post : AVal UU → Prop) (a0 : ByteArray) (a1 : ByteArray) (a2 : Int) (a3 : Int) : exec C_ref06_Within Tryz.f90.ntmps M_ref06_stuff F 0 (bo Tryz.f90) (initSt [.str a0, .str a1, .int .i64 a2, .int .i64 a3]) (AEnds C_ref06_Within false Tryz.f90 Post) = g_ref06_stuff_e a0 a1 a2 a3 (fun r0 => Post (.int .i64 r0)) := by kernel_rfl
theorem exec_ref06_stuff (F : Nat) (Post : AVal UU → Prop) (a0 : ByteArray) (a1 : ByteArray) (a2 : Int) (a3 : Int) : exec C_ref06_Within Tryz.f90.ntmps M_ref06_stuff F 0 (bo Tryz.f90) (initSt [.str a0, .str a1, .int .i64 a2, .int .i64 a3]) (AEnds C_ref06_Within false Tryz.f90 Post) = w_ref06_stuff F a0 a1 a2 a3 (fun r0 => Post (.int .i64 r0)) := by
  rw [entry_ref06_stuff]
  rfl
def m_ref06_stuff : Model UU
  | [.str a0, .str a1, .int .i64 a2, .int .i64 a3] => some ([], .int .i64 (sp_ref06_stuff a0 a1 a2 a3))
  | _ => none
def C_ref06_stuff : Cfg UU := C_ref06_Within.add 90 m_ref06_stuff
theorem s_ref06_stuff : SumOK C_ref06_stuff := by
  refine s_ref06_Within.addD mixed (fn := Tryz.f90) (c := bo Tryz.f90) Tryz.func90 (by kernel_rfl) (by kernel_rfl) ?_
  intro xs cs r h hc
  unfold m_ref06_stuff at h
  split at h
  · rename_i a0 a1 a2 a3
    cases h
    obtain ⟨F, hF⟩ := ok_ref06_stuff a0 a1 a2 a3
    refine ⟨by kernel_rfl, M_ref06_stuff, F, false, ⟨?_⟩⟩
    rw [exec_ref06_stuff]
    refine hF _ ?_
    rfl
  · cases h
end
end Go.Proofs.YteffpgliiilnjaaGreatDoor

namespace Go.Proofs.YteffpgliiilnjaaGreatDoor
open Go.Vm Go.RowKit
set_option linter.unusedVariables false
noncomputable section
def k_nest_valid_0 (F : Nat) (Post : AVal UU → Prop) : AEx → ASt UU → Prop := kBlock 0 (kSeq (inliner M_nest_valid F 0 C_ref06_stuff) C_ref06_stuff Tryz.f79.ntmps M_nest_valid F 0 (cS (cS (bo Tryz.f79))) (AEnds C_ref06_stuff false Tryz.f79 Post))
set_option maxRecDepth 100000 in
theorem step_nest_valid_0 (F n r : Nat) (K : AEx → ASt UU → Prop) (t2 : Bool) (t5 : List Rect) (t6 : Int) (t7 : Int) : iter (execG (inliner M_nest_valid F 0 C_ref06_stuff) C_ref06_stuff Tryz.f79.ntmps M_nest_valid F 0 (cL (cB (cS (cF (cS (bo Tryz.f79))))))) (M_nest_valid 0 0) (n + 1) r (st_nest_valid_0 t2 t5 t6 t7) K = g_nest_valid_s0 (fun t2 t5 t6 t7 => iter (execG (inliner M_nest_valid F 0 C_ref06_stuff) C_ref06_stuff Tryz.f79.ntmps M_nest_valid F 0 (cL (cB (cS (cF (cS (bo Tryz.f79))))))) (M_nest_valid 0 0) n (r + 1) (st_nest_valid_0 t2 t5 t6 t7) K) (fun t2 t5 t6 t7 => K .ret (st_nest_valid_0 t2 t5 t6 t7)) (fun t2 t5 t6 t7 => K (.exit 0) (st_nest_valid_0 t2 t5 t6 t7)) t2 t5 t6 t7 := by kernel_rfl
set_option maxRecDepth 100000 in
theorem cont_nest_valid_0_0 (F : Nat) (Post : AVal UU → Prop) (t2 : Bool) (t5 : List Rect) (t6 : Int) (t7 : Int) : k_nest_valid_0 F Post .ret (st_nest_valid_0 t2 t5 t6 t7) = g_nest_valid_c0_0 (fun r0 => Post (.bool r0)) t2 t5 t6 t7 := by kernel_rfl
set_option maxRecDepth 100000 in
theorem cont_nest_valid_0_1 (F : Nat) (Post : AVal UU → Prop) (t2 : Bool) (t5 : List Rect) (t6 : Int) (t7 : Int) : k_nest_valid_0 F Post (.exit 0) (st_nest_valid_0 t2 t5 t6 t7) = g_nest_valid_c0_1 (fun r0 => Post (.bool r0)) t2 t5 t6 t7 := by kernel_rfl
set_option maxRecDepth 100000 in
theorem entry_nest_valid (F : Nat) (Post : AVal UU → Prop) (a0 : List Rect) : exec C_ref06_stuff Tryz.f79.ntmps M_nest_valid F 0 (bo Tryz.f79) (initSt [.sl .rect a0]) (AEnds C_ref06_stuff false Tryz.f79 Post) = g_nest_valid_e a0 (fun r0 => Post (.bool r0)) (fun t2 t5 t6 t7 => iter (execG (inliner M_nest_valid F 0 C_ref06_stuff) C_ref06_stuff Tryz.f79.ntmps M_nest_valid F 0 (cL (cB (cS (cF (cS (bo Tryz.f79))))))) (M_nest_valid 0 0) F 0 (st_nest_valid_0 t2 t5 t6 t7) (k_nest_valid_0 F Post)) := by kernel_rfl
theorem loop_nest_valid_0 (F : Nat) (K : AEx → ASt UU → Prop) : ∀ (n r : Nat) (t2 : Bool) (t5 : List Rect) (t6 : Int) (t7 : Int), iter (execG (inliner M_nest_valid F 0 C_ref06_stuff) C_ref06_stuff Tryz.f79.ntmps M_nest_valid F 0 (cL (cB (cS (cF (cS (bo Tryz.f79))))))) (M_nest_valid 0 0) n r (st_nest_valid_0 t2 t5 t6 t7) K = w_nest_valid_0 F  (fun t2 t5 t6 t7 => K .ret (st_nest_valid_0 t2 t5 t6 t7)) (fun t2 t5 t6 t7 => K (.exit 0) (st_nest_valid_0 t2 t5 t6 t7)) n t2 t5 t6 t7 := by
  intro n
  induction n with
  | zero => intros; rfl
  | succ n ih =>
    intro r t2 t5 t6 t7
    have e : (fun t2 t5 t6 t7 => iter (execG (inliner M_nest_valid F 0 C_ref06_stuff) C_ref06_stuff Tryz.f79.ntmps M_nest_valid F 0 (cL (cB (cS (cF (cS (bo Tryz.f79))))))) (M_nest_valid 0 0) n (r + 1) (st_nest_valid_0 t2 t5 t6 t7) K) = w_nest_valid_0 F  (fun t2 t5 t6 t7 => K .ret (st_nest_valid_0 t2 t5 t6 t7)) (fun t2 t5 t6 t7 => K (.exit 0) (st_nest_valid_0 t2 t5 t6 t7)) n := by
      funext t2 t5 t6 t7
      exact ih (r + 1) t2 t5 t6 t7
    rw [step_nest_valid_0, e]
    rfl
theorem nl_nest_valid_0 (F : Nat) (Post : AVal UU → Prop) (t2 : Bool) (t5 : List Rect) (t6 : Int) (t7 : Int) : iter (execG (inliner M_nest_valid F 0 C_ref06_stuff) C_ref06_stuff Tryz.f79.ntmps M_nest_valid F 0 (cL (cB (cS (cF (cS (bo Tryz.f79))))))) (M_nest_valid 0 0) F 0 (st_nest_valid_0 t2 t5 t6 t7) (k_nest_valid_0 F Post) = n_nest_valid_0 F (fun r0 => Post (.bool r0)) t2 t5 t6 t7 := by
  rw [loop_nest_valid_0]
  have h0 : (fun t2 t5 t6 t7 => k_nest_valid_0 F Post .ret (st_nest_valid_0 t2 t5 t6 t7)) = (fun t2 t5 t6 t7 => g_nest_valid_c0_0 (fun r0 => Post (.bool r0)) t2 t5 t6 t7) := by
    funext t2 t5 t6 t7
    rw [cont_nest_valid_0_0]
  have h1 : (fun t2 t5 t6 t7 => k_nest_valid_0 F Post (.exit 0) (st_nest_valid_0 t2 t5 t6 t7)) = (fun t2 t5 t6 t7 => g_nest_valid_c0_1 (fun r0 => Post (.bool r0)) t2 t5 t6 t7) := by
    funext t2 t5 t6 t7
    rw [cont_nest_valid_0_1]
  rw [h0, h1]
  rfl
theorem exec_nest_valid (F : Nat) (Post : AVal UU → Prop) (a0 : List Rect) : exec C_ref06_stuff Tryz.f79.ntmps M_nest_valid F 0 (bo Tryz.f79) (initSt [.sl .rect a0]) (AEnds C_ref06_stuff false Tryz.f79 Post) = w_nest_valid F a0 (fun r0 => Post (.bool r0)) := by
  rw [entry_nest_valid]
  have e0 : (fun t2 t5 t6 t7 => iter (execG (inliner M_nest_valid F 0 C_ref06_stuff) C_ref06_stuff Tryz.f79.ntmps M_nest_valid F 0 (cL (cB (cS (cF (cS (bo Tryz.f79))))))) (M_nest_valid 0 0) F 0 (st_nest_valid_0 t2 t5 t6 t7) (k_nest_valid_0 F Post)) = (n_nest_valid_0 F (fun r0 => Post (.bool r0))) := by
    funext t2 t5 t6 t7
    exact nl_nest_valid_0 F Post t2 t5 t6 t7
  rw [e0]
  rfl
def m_nest_valid : Model UU
  | [.sl .rect a0] => some ([pre_nest_valid a0], .bool (sp_nest_valid a0))
  | _ => none
def C_nest_valid : Cfg UU := C_ref06_stuff.add 79 m_nest_valid
theorem s_nest_valid : SumOK C_nest_valid := by
  refine s_ref06_stuff.addD mixed (fn := Tryz.f79) (c := bo Tryz.f79) Tryz.func79 (by kernel_rfl) (by kernel_rfl) ?_
  intro xs cs r h hc
  unfold m_nest_valid at h
  split at h
  · rename_i a0
    cases h
    obtain ⟨F, hF⟩ := ok_nest_valid a0 hc
    refine ⟨by kernel_rfl, M_nest_valid, F, false, ⟨?_⟩⟩
    rw [exec_nest_valid]
    refine hF _ ?_
    rfl
  · cases h
def k_ref06_Rights_0 (F : Nat) (Post : AVal UU → Prop) : AEx → ASt UU → Prop := kBlock 0 (kSeq (inliner M_ref06_Rights F 0 C_nest_valid) C_nest_valid Tryz.f91.ntmps M_ref06_Rights F 0 (cS (cS (bo Tryz.f91))) (AEnds C_nest_valid false Tryz.f91 Post))
set_option maxRecDepth 100000 in
theorem step_ref06_Rights_0 (F n r : Nat) (K : AEx → ASt UU → Prop) (t0 : List Rect) (t2 : Bool) (t3 : Int) : iter (execG (inliner M_ref06_Rights F 0 C_nest_valid) C_nest_valid Tryz.f91.ntmps M_ref06_Rights F 0 (cL (cB (cS (cF (cS (bo Tryz.f91))))))) (M_ref06_Rights 0 0) (n + 1) r (st_ref06_Rights_0 t0 t2 t3) K = g_ref06_Rights_s0 (fun t0 t2 t3 => iter (execG (inliner M_ref06_Rights F 0 C_nest_valid) C_nest_valid Tryz.f91.ntmps M_ref06_Rights F 0 (cL (cB (cS (cF (cS (bo Tryz.f91))))))) (M_ref06_Rights 0 0) n (r + 1) (st_ref06_Rights_0 t0 t2 t3) K) (fun t0 t2 t3 => K .ret (st_ref06_Rights_0 t0 t2 t3)) (fun t0 t2 t3 => K (.exit 0) (st_ref06_Rights_0 t0 t2 t3)) t0 t2 t3 := by kernel_rfl
set_option maxRecDepth 100000 in
theorem cont_ref06_Rights_0_0 (F : Nat) (Post : AVal UU → Prop) (t0 : List Rect) (t2 : Bool) (t3 : Int) : k_ref06_Rights_0 F Post .ret (st_ref06_Rights_0 t0 t2 t3) = g_ref06_Rights_c0_0 (fun r0 => Post (.bool r0)) t0 t2 t3 := by kernel_rfl
set_option maxRecDepth 100000 in
theorem cont_ref06_Rights_0_1 (F : Nat) (Post : AVal UU → Prop) (t0 : List Rect) (t2 : Bool) (t3 : Int) : k_ref06_Rights_0 F Post (.exit 0) (st_ref06_Rights_0 t0 t2 t3) = g_ref06_Rights_c0_1 (fun r0 => Post (.bool r0)) t0 t2 t3 := by kernel_rfl
set_option maxRecDepth 100000 in
theorem entry_ref06_Rights (F : Nat) (Post : AVal UU → Prop) (a0 : List Rect) : exec C_nest_valid Tryz.f91.ntmps M_ref06_Rights F 0 (bo Tryz.f91) (initSt [.sl .rect a0]) (AEnds C_nest_valid false Tryz.f91 Post) = g_ref06_Rights_e a0 (fun r0 => Post (.bool r0)) (fun t0 t2 t3 => iter (execG (inliner M_ref06_Rights F 0 C_nest_valid) C_nest_valid Tryz.f91.ntmps M_ref06_Rights F 0 (cL (cB (cS (cF (cS (bo Tryz.f91))))))) (M_ref06_Rights 0 0) F 0 (st_ref06_Rights_0 t0 t2 t3) (k_ref06_Rights_0 F Post)) := by kernel_rfl
theorem loop_ref06_Rights_0 (F : Nat) (K : AEx → ASt UU → Prop) : ∀ (n r : Nat) (t0 : List Rect) (t2 : Bool) (t3 : Int), iter (execG (inliner M_ref06_Rights F 0 C_nest_valid) C_nest_valid Tryz.f91.ntmps M_ref06_Rights F 0 (cL (cB (cS (cF (cS (bo Tryz.f91))))))) (M_ref06_Rights 0 0) n r (st_ref06_Rights_0 t0 t2 t3) K = w_ref06_Rights_0 F  (fun t0 t2 t3 => K .ret (st_ref06_Rights_0 t0 t2 t3)) (fun t0 t2 t3 => K (.exit 0) (st_ref06_Rights_0 t0 t2 t3)) n t0 t2 t3 := by
  intro n
  induction n with
  | zero => intros; rfl
  | succ n ih =>
    intro r t0 t2 t3
    have e : (fun t0 t2 t3 => iter (execG (inliner M_ref06_Rights F 0 C_nest_valid) C_nest_valid Tryz.f91.ntmps M_ref06_Rights F 0 (cL (cB (cS (cF (cS (bo Tryz.f91))))))) (M_ref06_Rights 0 0) n (r + 1) (st_ref06_Rights_0 t0 t2 t3) K) = w_ref06_Rights_0 F  (fun t0 t2 t3 => K .ret (st_ref06_Rights_0 t0 t2 t3)) (fun t0 t2 t3 => K (.exit 0) (st_ref06_Rights_0 t0 t2 t3)) n := by
      funext t0 t2 t3
      exact ih (r + 1) t0 t2 t3
    rw [step_ref06_Rights_0, e]
    rfl
theorem nl_ref06_Rights_0 (F : Nat) (Post : AVal UU → Prop) (t0 : List Rect) (t2 : Bool) (t3 : Int) : iter (execG (inliner M_ref06_Rights F 0 C_nest_valid) C_nest_valid Tryz.f91.ntmps M_ref06_Rights F 0 (cL (cB (cS (cF (cS (bo Tryz.f91))))))) (M_ref06_Rights 0 0) F 0 (st_ref06_Rights_0 t0 t2 t3) (k_ref06_Rights_0 F Post) = n_ref06_Rights_0 F (fun r0 => Post (.bool r0)) t0 t2 t3 := by
  rw [loop_ref06_Rights_0]
  have h0 : (fun t0 t2 t3 => k_ref06_Rights_0 F Post .ret (st_ref06_Rights_0 t0 t2 t3)) = (fun t0 t2 t3 => g_ref06_Rights_c0_0 (fun r0 => Post (.bool r0)) t0 t2 t3) := by
    funext t0 t2 t3
    rw [cont_ref06_Rights_0_0]
  have h1 : (fun t0 t2 t3 => k_ref06_Rights_0 F Post (.exit 0) (st_ref06_Rights_0 t0 t2 t3)) = (fun t0 t2 t3 => g_ref06_Rights_c0_1 (fun r0 => Post (.bool r0)) t0 t2 t3) := by
    funext t0 t2 t3
    rw [cont_ref06_Rights_0_1]
  rw [h0, h1]
  rfl
theorem exec_ref06_Rights (F : Nat) (Post : AVal UU → Prop) (a0 : List Rect) : exec C_nest_valid Tryz.f91.ntmps M_ref06_Rights F 0 (bo Tryz.f91) (initSt [.sl .rect a0]) (AEnds C_nest_valid false Tryz.f91 Post) = w_ref06_Rights F a0 (fun r0 => Post (.bool r0)) := by
  rw [entry_ref06_Rights]
  have e0 : (fun t0 t2 t3 => iter (execG (inliner M_ref06_Rights F 0 C_nest_valid) C_nest_valid Tryz.f91.ntmps M_ref06_Rights F 0 (cL (cB (cS (cF (cS (bo Tryz.f91))))))) (M_ref06_Rights 0 0) F 0 (st_ref06_Rights_0 t0 t2 t3) (k_ref06_Rights_0 F Post)) = (n_ref06_Rights_0 F (fun r0 => Post (.bool r0))) := by
    funext t0 t2 t3
    exact nl_ref06_Rights_0 F Post t0 t2 t3
  rw [e0]
  rfl
def m_ref06_Rights : Model UU
  | [.sl .rect a0] => some ([pre_ref06_Rights a0], .bool (sp_ref06_Rights a0))
  | _ => none
def C_ref06_Rights : Cfg UU := C_nest_valid.add 91 m_ref06_Rights
theorem s_ref06_Rights : SumOK C_ref06_Rights := by
  refine s_nest_valid.addD mixed (fn := Tryz.f91) (c := bo Tryz.f91) Tryz.func91 (by kernel_rfl) (by kernel_rfl) ?_
  intro xs cs r h hc
  unfold m_ref06_Rights at h
  split at h
  · rename_i a0
    cases h
    obtain ⟨F, hF⟩ := ok_ref06_Rights a0 hc
    refine ⟨by kernel_rfl, M_ref06_Rights, F, false, ⟨?_⟩⟩
    rw [exec_ref06_Rights]
    refine hF _ ?_
    rfl
  · cases h
def k_ref06_inside_0 (F : Nat) (Post : AVal UU → Prop) : AEx → ASt UU → Prop := kBlock 0 (kSeq (inliner M_ref06_inside F 0 C_ref06_Rights) C_ref06_Rights Tryz.f92.ntmps M_ref06_inside F 0 (cS (cS (bo Tryz.f92))) (AEnds C_ref06_Rights false Tryz.f92 Post))
set_option maxRecDepth 100000 in
theorem step_ref06_inside_0 (F n r : Nat) (K : AEx → ASt UU → Prop) (t1 : List Rect) (t4 : Bool) (t5 : Int) (c2_0 : ByteArray) (c2_1 : ByteArray) (c2_2 : Int) (c2_3 : Int) (c2_4 : Int) (c2_5 : Int) (c2_6 : List Rect) (c2_7 : List Rect) : iter (execG (inliner M_ref06_inside F 0 C_ref06_Rights) C_ref06_Rights Tryz.f92.ntmps M_ref06_inside F 0 (cL (cB (cS (cF (cS (bo Tryz.f92))))))) (M_ref06_inside 0 0) (n + 1) r (st_ref06_inside_0 t1 t4 t5 c2_0 c2_1 c2_2 c2_3 c2_4 c2_5 c2_6 c2_7) K = g_ref06_inside_s0 (fun t1 t4 t5 c2_0 c2_1 c2_2 c2_3 c2_4 c2_5 c2_6 c2_7 => iter (execG (inliner M_ref06_inside F 0 C_ref06_Rights) C_ref06_Rights Tryz.f92.ntmps M_ref06_inside F 0 (cL (cB (cS (cF (cS (bo Tryz.f92))))))) (M_ref06_inside 0 0) n (r + 1) (st_ref06_inside_0 t1 t4 t5 c2_0 c2_1 c2_2 c2_3 c2_4 c2_5 c2_6 c2_7) K) (fun t1 t4 t5 c2_0 c2_1 c2_2 c2_3 c2_4 c2_5 c2_6 c2_7 => K .ret (st_ref06_inside_0 t1 t4 t5 c2_0 c2_1 c2_2 c2_3 c2_4 c2_5 c2_6 c2_7)) (fun t1 t4 t5 c2_0 c2_1 c2_2 c2_3 c2_4 c2_5 c2_6 c2_7 => K (.exit 0) (st_ref06_inside_0 t1 t4 t5 c2_0 c2_1 c2_2 c2_3 c2_4 c2_5 c2_6 c2_7)) t1 t4 t5 c2_0 c2_1 c2_2 c2_3 c2_4 c2_5 c2_6 c2_7 := by kernel_rfl
set_option maxRecDepth 100000 in
theorem cont_ref06_inside_0_0 (F : Nat) (Post : AVal UU → Prop) (t1 : List Rect) (t4 : Bool) (t5 : Int) (c2_0 : ByteArray) (c2_1 : ByteArray) (c2_2 : Int) (c2_3 : Int) (c2_4 : Int) (c2_5 : Int) (c2_6 : List Rect) (c2_7 : List Rect) : k_ref06_inside_0 F Post .ret (st_ref06_inside_0 t1 t4 t5 c2_0 c2_1 c2_2 c2_3 c2_4 c2_5 c2_6 c2_7) = g_ref06_inside_c0_0 (fun r0 => Post (.bool r0)) t1 t4 t5 c2_0 c2_1 c2_2 c2_3 c2_4 c2_5 c2_6 c2_7 := by kernel_rfl
set_option maxRecDepth 100000 in
theorem cont_ref06_inside_0_1 (F : Nat) (Post : AVal UU → Prop) (t1 : List Rect) (t4 : Bool) (t5 : Int) (c2_0 : ByteArray) (c2_1 : ByteArray) (c2_2 : Int) (c2_3 : Int) (c2_4 : Int) (c2_5 : Int) (c2_6 : List Rect) (c2_7 : List Rect) : k_ref06_inside_0 F Post (.exit 0) (st_ref06_inside_0 t1 t4 t5 c2_0 c2_1 c2_2 c2_3 c2_4 c2_5 c2_6 c2_7) = g_ref06_inside_c0_1 (fun r0 => Post (.bool r0)) t1 t4 t5 c2_0 c2_1 c2_2 c2_3 c2_4 c2_5 c2_6 c2_7 := by kernel_rfl
set_option maxRecDepth 100000 in
theorem entry_ref06_inside (F : Nat) (Post : AVal UU → Prop) (a0_Name : ByteArray) (a0_Material : ByteArray) (a0_Gauge : Int) (a0_Grain : Int) (a0_Width : Int) (a0_Height : Int) (a0_Clamps : List Rect) (a0_Used : List Rect) (a1 : List Rect) : exec C_ref06_Rights Tryz.f92.ntmps M_ref06_inside F 0 (bo Tryz.f92) (initSt [.agg [.str a0_Name, .str a0_Material, .int .i64 a0_Gauge, .int .i64 a0_Grain, .int .i64 a0_Width, .int .i64 a0_Height, .sl .rect a0_Clamps, .sl .rect a0_Used], .sl .rect a1]) (AEnds C_ref06_Rights false Tryz.f92 Post) = g_ref06_inside_e a0_Name a0_Material a0_Gauge a0_Grain a0_Width a0_Height a0_Clamps a0_Used a1 (fun r0 => Post (.bool r0)) (fun t1 t4 t5 c2_0 c2_1 c2_2 c2_3 c2_4 c2_5 c2_6 c2_7 => iter (execG (inliner M_ref06_inside F 0 C_ref06_Rights) C_ref06_Rights Tryz.f92.ntmps M_ref06_inside F 0 (cL (cB (cS (cF (cS (bo Tryz.f92))))))) (M_ref06_inside 0 0) F 0 (st_ref06_inside_0 t1 t4 t5 c2_0 c2_1 c2_2 c2_3 c2_4 c2_5 c2_6 c2_7) (k_ref06_inside_0 F Post)) := by kernel_rfl
theorem loop_ref06_inside_0 (F : Nat) (K : AEx → ASt UU → Prop) : ∀ (n r : Nat) (t1 : List Rect) (t4 : Bool) (t5 : Int) (c2_0 : ByteArray) (c2_1 : ByteArray) (c2_2 : Int) (c2_3 : Int) (c2_4 : Int) (c2_5 : Int) (c2_6 : List Rect) (c2_7 : List Rect), iter (execG (inliner M_ref06_inside F 0 C_ref06_Rights) C_ref06_Rights Tryz.f92.ntmps M_ref06_inside F 0 (cL (cB (cS (cF (cS (bo Tryz.f92))))))) (M_ref06_inside 0 0) n r (st_ref06_inside_0 t1 t4 t5 c2_0 c2_1 c2_2 c2_3 c2_4 c2_5 c2_6 c2_7) K = w_ref06_inside_0 F  (fun t1 t4 t5 c2_0 c2_1 c2_2 c2_3 c2_4 c2_5 c2_6 c2_7 => K .ret (st_ref06_inside_0 t1 t4 t5 c2_0 c2_1 c2_2 c2_3 c2_4 c2_5 c2_6 c2_7)) (fun t1 t4 t5 c2_0 c2_1 c2_2 c2_3 c2_4 c2_5 c2_6 c2_7 => K (.exit 0) (st_ref06_inside_0 t1 t4 t5 c2_0 c2_1 c2_2 c2_3 c2_4 c2_5 c2_6 c2_7)) n t1 t4 t5 c2_0 c2_1 c2_2 c2_3 c2_4 c2_5 c2_6 c2_7 := by
  intro n
  induction n with
  | zero => intros; rfl
  | succ n ih =>
    intro r t1 t4 t5 c2_0 c2_1 c2_2 c2_3 c2_4 c2_5 c2_6 c2_7
    have e : (fun t1 t4 t5 c2_0 c2_1 c2_2 c2_3 c2_4 c2_5 c2_6 c2_7 => iter (execG (inliner M_ref06_inside F 0 C_ref06_Rights) C_ref06_Rights Tryz.f92.ntmps M_ref06_inside F 0 (cL (cB (cS (cF (cS (bo Tryz.f92))))))) (M_ref06_inside 0 0) n (r + 1) (st_ref06_inside_0 t1 t4 t5 c2_0 c2_1 c2_2 c2_3 c2_4 c2_5 c2_6 c2_7) K) = w_ref06_inside_0 F  (fun t1 t4 t5 c2_0 c2_1 c2_2 c2_3 c2_4 c2_5 c2_6 c2_7 => K .ret (st_ref06_inside_0 t1 t4 t5 c2_0 c2_1 c2_2 c2_3 c2_4 c2_5 c2_6 c2_7)) (fun t1 t4 t5 c2_0 c2_1 c2_2 c2_3 c2_4 c2_5 c2_6 c2_7 => K (.exit 0) (st_ref06_inside_0 t1 t4 t5 c2_0 c2_1 c2_2 c2_3 c2_4 c2_5 c2_6 c2_7)) n := by
      funext t1 t4 t5 c2_0 c2_1 c2_2 c2_3 c2_4 c2_5 c2_6 c2_7
      exact ih (r + 1) t1 t4 t5 c2_0 c2_1 c2_2 c2_3 c2_4 c2_5 c2_6 c2_7
    rw [step_ref06_inside_0, e]
    rfl
theorem nl_ref06_inside_0 (F : Nat) (Post : AVal UU → Prop) (t1 : List Rect) (t4 : Bool) (t5 : Int) (c2_0 : ByteArray) (c2_1 : ByteArray) (c2_2 : Int) (c2_3 : Int) (c2_4 : Int) (c2_5 : Int) (c2_6 : List Rect) (c2_7 : List Rect) : iter (execG (inliner M_ref06_inside F 0 C_ref06_Rights) C_ref06_Rights Tryz.f92.ntmps M_ref06_inside F 0 (cL (cB (cS (cF (cS (bo Tryz.f92))))))) (M_ref06_inside 0 0) F 0 (st_ref06_inside_0 t1 t4 t5 c2_0 c2_1 c2_2 c2_3 c2_4 c2_5 c2_6 c2_7) (k_ref06_inside_0 F Post) = n_ref06_inside_0 F (fun r0 => Post (.bool r0)) t1 t4 t5 c2_0 c2_1 c2_2 c2_3 c2_4 c2_5 c2_6 c2_7 := by
  rw [loop_ref06_inside_0]
  have h0 : (fun t1 t4 t5 c2_0 c2_1 c2_2 c2_3 c2_4 c2_5 c2_6 c2_7 => k_ref06_inside_0 F Post .ret (st_ref06_inside_0 t1 t4 t5 c2_0 c2_1 c2_2 c2_3 c2_4 c2_5 c2_6 c2_7)) = (fun t1 t4 t5 c2_0 c2_1 c2_2 c2_3 c2_4 c2_5 c2_6 c2_7 => g_ref06_inside_c0_0 (fun r0 => Post (.bool r0)) t1 t4 t5 c2_0 c2_1 c2_2 c2_3 c2_4 c2_5 c2_6 c2_7) := by
    funext t1 t4 t5 c2_0 c2_1 c2_2 c2_3 c2_4 c2_5 c2_6 c2_7
    rw [cont_ref06_inside_0_0]
  have h1 : (fun t1 t4 t5 c2_0 c2_1 c2_2 c2_3 c2_4 c2_5 c2_6 c2_7 => k_ref06_inside_0 F Post (.exit 0) (st_ref06_inside_0 t1 t4 t5 c2_0 c2_1 c2_2 c2_3 c2_4 c2_5 c2_6 c2_7)) = (fun t1 t4 t5 c2_0 c2_1 c2_2 c2_3 c2_4 c2_5 c2_6 c2_7 => g_ref06_inside_c0_1 (fun r0 => Post (.bool r0)) t1 t4 t5 c2_0 c2_1 c2_2 c2_3 c2_4 c2_5 c2_6 c2_7) := by
    funext t1 t4 t5 c2_0 c2_1 c2_2 c2_3 c2_4 c2_5 c2_6 c2_7
    rw [cont_ref06_inside_0_1]
  rw [h0, h1]
  rfl
theorem exec_ref06_inside (F : Nat) (Post : AVal UU → Prop) (a0_Name : ByteArray) (a0_Material : ByteArray) (a0_Gauge : Int) (a0_Grain : Int) (a0_Width : Int) (a0_Height : Int) (a0_Clamps : List Rect) (a0_Used : List Rect) (a1 : List Rect) : exec C_ref06_Rights Tryz.f92.ntmps M_ref06_inside F 0 (bo Tryz.f92) (initSt [.agg [.str a0_Name, .str a0_Material, .int .i64 a0_Gauge, .int .i64 a0_Grain, .int .i64 a0_Width, .int .i64 a0_Height, .sl .rect a0_Clamps, .sl .rect a0_Used], .sl .rect a1]) (AEnds C_ref06_Rights false Tryz.f92 Post) = w_ref06_inside F a0_Name a0_Material a0_Gauge a0_Grain a0_Width a0_Height a0_Clamps a0_Used a1 (fun r0 => Post (.bool r0)) := by
  rw [entry_ref06_inside]
  have e0 : (fun t1 t4 t5 c2_0 c2_1 c2_2 c2_3 c2_4 c2_5 c2_6 c2_7 => iter (execG (inliner M_ref06_inside F 0 C_ref06_Rights) C_ref06_Rights Tryz.f92.ntmps M_ref06_inside F 0 (cL (cB (cS (cF (cS (bo Tryz.f92))))))) (M_ref06_inside 0 0) F 0 (st_ref06_inside_0 t1 t4 t5 c2_0 c2_1 c2_2 c2_3 c2_4 c2_5 c2_6 c2_7) (k_ref06_inside_0 F Post)) = (n_ref06_inside_0 F (fun r0 => Post (.bool r0))) := by
    funext t1 t4 t5 c2_0 c2_1 c2_2 c2_3 c2_4 c2_5 c2_6 c2_7
    exact nl_ref06_inside_0 F Post t1 t4 t5 c2_0 c2_1 c2_2 c2_3 c2_4 c2_5 c2_6 c2_7
  rw [e0]
  rfl
def m_ref06_inside : Model UU
  | [.agg [.str a0_Name, .str a0_Material, .int .i64 a0_Gauge, .int .i64 a0_Grain, .int .i64 a0_Width, .int .i64 a0_Height, .sl .rect a0_Clamps, .sl .rect a0_Used], .sl .rect a1] => some ([pre_ref06_inside a0_Name a0_Material a0_Gauge a0_Grain a0_Width a0_Height a0_Clamps a0_Used a1], .bool (sp_ref06_inside a0_Name a0_Material a0_Gauge a0_Grain a0_Width a0_Height a0_Clamps a0_Used a1))
  | _ => none
def C_ref06_inside : Cfg UU := C_ref06_Rights.add 92 m_ref06_inside
theorem s_ref06_inside : SumOK C_ref06_inside := by
  refine s_ref06_Rights.addD mixed (fn := Tryz.f92) (c := bo Tryz.f92) Tryz.func92 (by kernel_rfl) (by kernel_rfl) ?_
  intro xs cs r h hc
  unfold m_ref06_inside at h
  split at h
  · rename_i a0_Name a0_Material a0_Gauge a0_Grain a0_Width a0_Height a0_Clamps a0_Used a1
    cases h
    obtain ⟨F, hF⟩ := ok_ref06_inside a0_Name a0_Material a0_Gauge a0_Grain a0_Width a0_Height a0_Clamps a0_Used a1 hc
    refine ⟨by kernel_rfl, M_ref06_inside, F, false, ⟨?_⟩⟩
    rw [exec_ref06_inside]
    refine hF _ ?_
    rfl
  · cases h
end
end Go.Proofs.YteffpgliiilnjaaGreatDoor

namespace Go.Proofs.YteffpgliiilnjaaGreatDoor
open Go.Vm Go.RowKit
set_option linter.unusedVariables false
noncomputable section
def k_nest_ValidateSheet_0 (F : Nat) (Post : AVal UU → Prop) : AEx → ASt UU → Prop := kBlock 1 (kSeq (inliner M_nest_ValidateSheet F 0 C_ref06_inside) C_ref06_inside Tryz.f29.ntmps M_nest_ValidateSheet F 0 (cS (cS (cS (cS (bo Tryz.f29))))) (AEnds C_ref06_inside false Tryz.f29 Post))
def k_nest_ValidateSheet_1 (F n r : Nat) (K : AEx → ASt UU → Prop) : AEx → ASt UU → Prop := kBlock 3 (kBlock 2 (kSeq (inliner M_nest_ValidateSheet F 0 C_ref06_inside) C_ref06_inside Tryz.f29.ntmps M_nest_ValidateSheet F 1 (cS (cS (cS (cL (cB (cS (cF (cS (cS (cS (bo Tryz.f29))))))))))) (kIter (execG (inliner M_nest_ValidateSheet F 0 C_ref06_inside) C_ref06_inside Tryz.f29.ntmps M_nest_ValidateSheet F 1 (cL (cB (cS (cF (cS (cS (cS (bo Tryz.f29))))))))) (M_nest_ValidateSheet 0 1) n r K)))
set_option maxRecDepth 100000 in
theorem step_nest_ValidateSheet_0 (F n r : Nat) (K : AEx → ASt UU → Prop) (t2 : Int) (t70 : List (List Rect)) (t71 : Int) (t72 : Int) (c3_0 : Int) (c3_1 : Int) (c3_2 : Int) (c3_3 : Int) : iter (execG (inliner M_nest_ValidateSheet F 0 C_ref06_inside) C_ref06_inside Tryz.f29.ntmps M_nest_ValidateSheet F 1 (cL (cB (cS (cF (cS (cS (cS (bo Tryz.f29))))))))) (M_nest_ValidateSheet 0 1) (n + 1) r (st_nest_ValidateSheet_0 t2 t70 t71 t72 c3_0 c3_1 c3_2 c3_3) K = g_nest_ValidateSheet_s0 (fun t2 t70 t71 t72 c3_0 c3_1 c3_2 c3_3 => iter (execG (inliner M_nest_ValidateSheet F 0 C_ref06_inside) C_ref06_inside Tryz.f29.ntmps M_nest_ValidateSheet F 1 (cL (cB (cS (cF (cS (cS (cS (bo Tryz.f29))))))))) (M_nest_ValidateSheet 0 1) n (r + 1) (st_nest_ValidateSheet_0 t2 t70 t71 t72 c3_0 c3_1 c3_2 c3_3) K) (fun t2 t70 t71 t72 c3_0 c3_1 c3_2 c3_3 => K (.exit 1) (st_nest_ValidateSheet_0 t2 t70 t71 t72 c3_0 c3_1 c3_2 c3_3)) (fun t2 t70 t71 t72 c3_0 c3_1 c3_2 c3_3 => K .ret (st_nest_ValidateSheet_0 t2 t70 t71 t72 c3_0 c3_1 c3_2 c3_3)) t2 t70 t71 t72 c3_0 c3_1 c3_2 c3_3 (fun t2 t70 t71 t72 t76 t77 t78 c3_0 c3_1 c3_2 c3_3 => iter (execG (inliner M_nest_ValidateSheet F 0 C_ref06_inside) C_ref06_inside Tryz.f29.ntmps M_nest_ValidateSheet F 3 (cL (cB (cS (cS (cB (cF (cS (cS (cL (cB (cS (cF (cS (cS (cS (bo Tryz.f29))))))))))))))))) (M_nest_ValidateSheet 0 3) F 0 (st_nest_ValidateSheet_1 t2 t70 t71 t72 t76 t77 t78 c3_0 c3_1 c3_2 c3_3) (k_nest_ValidateSheet_1 F n r K)) := by kernel_rfl
set_option maxRecDepth 100000 in
theorem cont_nest_ValidateSheet_0_0 (F : Nat) (Post : AVal UU → Prop) (t2 : Int) (t70 : List (List Rect)) (t71 : Int) (t72 : Int) (c3_0 : Int) (c3_1 : Int) (c3_2 : Int) (c3_3 : Int) : k_nest_ValidateSheet_0 F Post (.exit 1) (st_nest_ValidateSheet_0 t2 t70 t71 t72 c3_0 c3_1 c3_2 c3_3) = g_nest_ValidateSheet_c0_0 (fun r0 => Post (.int .i64 r0)) t2 t70 t71 t72 c3_0 c3_1 c3_2 c3_3 := by kernel_rfl
set_option maxRecDepth 100000 in
theorem cont_nest_ValidateSheet_0_1 (F : Nat) (Post : AVal UU → Prop) (t2 : Int) (t70 : List (List Rect)) (t71 : Int) (t72 : Int) (c3_0 : Int) (c3_1 : Int) (c3_2 : Int) (c3_3 : Int) : k_nest_ValidateSheet_0 F Post .ret (st_nest_ValidateSheet_0 t2 t70 t71 t72 c3_0 c3_1 c3_2 c3_3) = g_nest_ValidateSheet_c0_1 (fun r0 => Post (.int .i64 r0)) t2 t70 t71 t72 c3_0 c3_1 c3_2 c3_3 := by kernel_rfl
set_option maxRecDepth 100000 in
theorem step_nest_ValidateSheet_1 (F n r : Nat) (K : AEx → ASt UU → Prop) (t2 : Int) (t70 : List (List Rect)) (t71 : Int) (t72 : Int) (t76 : List Rect) (t77 : Int) (t78 : Int) (c3_0 : Int) (c3_1 : Int) (c3_2 : Int) (c3_3 : Int) : iter (execG (inliner M_nest_ValidateSheet F 0 C_ref06_inside) C_ref06_inside Tryz.f29.ntmps M_nest_ValidateSheet F 3 (cL (cB (cS (cS (cB (cF (cS (cS (cL (cB (cS (cF (cS (cS (cS (bo Tryz.f29))))))))))))))))) (M_nest_ValidateSheet 0 3) (n + 1) r (st_nest_ValidateSheet_1 t2 t70 t71 t72 t76 t77 t78 c3_0 c3_1 c3_2 c3_3) K = g_nest_ValidateSheet_s1 (fun t2 t70 t71 t72 t76 t77 t78 c3_0 c3_1 c3_2 c3_3 => iter (execG (inliner M_nest_ValidateSheet F 0 C_ref06_inside) C_ref06_inside Tryz.f29.ntmps M_nest_ValidateSheet F 3 (cL (cB (cS (cS (cB (cF (cS (cS (cL (cB (cS (cF (cS (cS (cS (bo Tryz.f29))))))))))))))))) (M_nest_ValidateSheet 0 3) n (r + 1) (st_nest_ValidateSheet_1 t2 t70 t71 t72 t76 t77 t78 c3_0 c3_1 c3_2 c3_3) K) (fun t2 t70 t71 t72 t76 t77 t78 c3_0 c3_1 c3_2 c3_3 => K .ret (st_nest_ValidateSheet_1 t2 t70 t71 t72 t76 t77 t78 c3_0 c3_1 c3_2 c3_3)) (fun t2 t70 t71 t72 t76 t77 t78 c3_0 c3_1 c3_2 c3_3 => K (.exit 3) (st_nest_ValidateSheet_1 t2 t70 t71 t72 t76 t77 t78 c3_0 c3_1 c3_2 c3_3)) t2 t70 t71 t72 t76 t77 t78 c3_0 c3_1 c3_2 c3_3 := by kernel_rfl
set_option maxRecDepth 100000 in
theorem cont_nest_ValidateSheet_1_0 (F n r : Nat) (K : AEx → ASt UU → Prop) (t2 : Int) (t70 : List (List Rect)) (t71 : Int) (t72 : Int) (t76 : List Rect) (t77 : Int) (t78 : Int) (c3_0 : Int) (c3_1 : Int) (c3_2 : Int) (c3_3 : Int) : k_nest_ValidateSheet_1 F n r K .ret (st_nest_ValidateSheet_1 t2 t70 t71 t72 t76 t77 t78 c3_0 c3_1 c3_2 c3_3) = g_nest_ValidateSheet_c1_0 (fun t2 t70 t71 t72 c3_0 c3_1 c3_2 c3_3 => iter (execG (inliner M_nest_ValidateSheet F 0 C_ref06_inside) C_ref06_inside Tryz.f29.ntmps M_nest_ValidateSheet F 1 (cL (cB (cS (cF (cS (cS (cS (bo Tryz.f29))))))))) (M_nest_ValidateSheet 0 1) n (r + 1) (st_nest_ValidateSheet_0 t2 t70 t71 t72 c3_0 c3_1 c3_2 c3_3) K) (fun t2 t70 t71 t72 c3_0 c3_1 c3_2 c3_3 => K (.exit 1) (st_nest_ValidateSheet_0 t2 t70 t71 t72 c3_0 c3_1 c3_2 c3_3)) (fun t2 t70 t71 t72 c3_0 c3_1 c3_2 c3_3 => K .ret (st_nest_ValidateSheet_0 t2 t70 t71 t72 c3_0 c3_1 c3_2 c3_3)) t2 t70 t71 t72 t76 t77 t78 c3_0 c3_1 c3_2 c3_3 := by kernel_rfl
set_option maxRecDepth 100000 in
theorem cont_nest_ValidateSheet_1_1 (F n r : Nat) (K : AEx → ASt UU → Prop) (t2 : Int) (t70 : List (List Rect)) (t71 : Int) (t72 : Int) (t76 : List Rect) (t77 : Int) (t78 : Int) (c3_0 : Int) (c3_1 : Int) (c3_2 : Int) (c3_3 : Int) : k_nest_ValidateSheet_1 F n r K (.exit 3) (st_nest_ValidateSheet_1 t2 t70 t71 t72 t76 t77 t78 c3_0 c3_1 c3_2 c3_3) = g_nest_ValidateSheet_c1_1 (fun t2 t70 t71 t72 c3_0 c3_1 c3_2 c3_3 => iter (execG (inliner M_nest_ValidateSheet F 0 C_ref06_inside) C_ref06_inside Tryz.f29.ntmps M_nest_ValidateSheet F 1 (cL (cB (cS (cF (cS (cS (cS (bo Tryz.f29))))))))) (M_nest_ValidateSheet 0 1) n (r + 1) (st_nest_ValidateSheet_0 t2 t70 t71 t72 c3_0 c3_1 c3_2 c3_3) K) (fun t2 t70 t71 t72 c3_0 c3_1 c3_2 c3_3 => K (.exit 1) (st_nest_ValidateSheet_0 t2 t70 t71 t72 c3_0 c3_1 c3_2 c3_3)) (fun t2 t70 t71 t72 c3_0 c3_1 c3_2 c3_3 => K .ret (st_nest_ValidateSheet_0 t2 t70 t71 t72 c3_0 c3_1 c3_2 c3_3)) t2 t70 t71 t72 t76 t77 t78 c3_0 c3_1 c3_2 c3_3 := by kernel_rfl
set_option maxRecDepth 100000 in
theorem entry_nest_ValidateSheet (F : Nat) (Post : AVal UU → Prop) (a0_Name : ByteArray) (a0_Material : ByteArray) (a0_Gauge : Int) (a0_Grain : Int) (a0_Width : Int) (a0_Height : Int) (a0_Clamps : List Rect) (a0_Used : List Rect) : exec C_ref06_inside Tryz.f29.ntmps M_nest_ValidateSheet F 0 (bo Tryz.f29) (initSt [.agg [.str a0_Name, .str a0_Material, .int .i64 a0_Gauge, .int .i64 a0_Grain, .int .i64 a0_Width, .int .i64 a0_Height, .sl .rect a0_Clamps, .sl .rect a0_Used]]) (AEnds C_ref06_inside false Tryz.f29 Post) = g_nest_ValidateSheet_e a0_Name a0_Material a0_Gauge a0_Grain a0_Width a0_Height a0_Clamps a0_Used (fun r0 => Post (.int .i64 r0)) (fun t2 t70 t71 t72 c3_0 c3_1 c3_2 c3_3 => iter (execG (inliner M_nest_ValidateSheet F 0 C_ref06_inside) C_ref06_inside Tryz.f29.ntmps M_nest_ValidateSheet F 1 (cL (cB (cS (cF (cS (cS (cS (bo Tryz.f29))))))))) (M_nest_ValidateSheet 0 1) F 0 (st_nest_ValidateSheet_0 t2 t70 t71 t72 c3_0 c3_1 c3_2 c3_3) (k_nest_ValidateSheet_0 F Post)) := by kernel_rfl
theorem loop_nest_ValidateSheet_1 (F : Nat) (K : AEx → ASt UU → Prop) : ∀ (n r : Nat) (t2 : Int) (t70 : List (List Rect)) (t71 : Int) (t72 : Int) (t76 : List Rect) (t77 : Int) (t78 : Int) (c3_0 : Int) (c3_1 : Int) (c3_2 : Int) (c3_3 : Int), iter (execG (inliner M_nest_ValidateSheet F 0 C_ref06_inside) C_ref06_inside Tryz.f29.ntmps M_nest_ValidateSheet F 3 (cL (cB (cS (cS (cB (cF (cS (cS (cL (cB (cS (cF (cS (cS (cS (bo Tryz.f29))))))))))))))))) (M_nest_ValidateSheet 0 3) n r (st_nest_ValidateSheet_1 t2 t70 t71 t72 t76 t77 t78 c3_0 c3_1 c3_2 c3_3) K = w_nest_ValidateSheet_1 F  (fun t2 t70 t71 t72 t76 t77 t78 c3_0 c3_1 c3_2 c3_3 => K .ret (st_nest_ValidateSheet_1 t2 t70 t71 t72 t76 t77 t78 c3_0 c3_1 c3_2 c3_3)) (fun t2 t70 t71 t72 t76 t77 t78 c3_0 c3_1 c3_2 c3_3 => K (.exit 3) (st_nest_ValidateSheet_1 t2 t70 t71 t72 t76 t77 t78 c3_0 c3_1 c3_2 c3_3)) n t2 t70 t71 t72 t76 t77 t78 c3_0 c3_1 c3_2 c3_3 := by
  intro n
  induction n with
  | zero => intros; rfl
  | succ n ih =>
    intro r t2 t70 t71 t72 t76 t77 t78 c3_0 c3_1 c3_2 c3_3
    have e : (fun t2 t70 t71 t72 t76 t77 t78 c3_0 c3_1 c3_2 c3_3 => iter (execG (inliner M_nest_ValidateSheet F 0 C_ref06_inside) C_ref06_inside Tryz.f29.ntmps M_nest_ValidateSheet F 3 (cL (cB (cS (cS (cB (cF (cS (cS (cL (cB (cS (cF (cS (cS (cS (bo Tryz.f29))))))))))))))))) (M_nest_ValidateSheet 0 3) n (r + 1) (st_nest_ValidateSheet_1 t2 t70 t71 t72 t76 t77 t78 c3_0 c3_1 c3_2 c3_3) K) = w_nest_ValidateSheet_1 F  (fun t2 t70 t71 t72 t76 t77 t78 c3_0 c3_1 c3_2 c3_3 => K .ret (st_nest_ValidateSheet_1 t2 t70 t71 t72 t76 t77 t78 c3_0 c3_1 c3_2 c3_3)) (fun t2 t70 t71 t72 t76 t77 t78 c3_0 c3_1 c3_2 c3_3 => K (.exit 3) (st_nest_ValidateSheet_1 t2 t70 t71 t72 t76 t77 t78 c3_0 c3_1 c3_2 c3_3)) n := by
      funext t2 t70 t71 t72 t76 t77 t78 c3_0 c3_1 c3_2 c3_3
      exact ih (r + 1) t2 t70 t71 t72 t76 t77 t78 c3_0 c3_1 c3_2 c3_3
    rw [step_nest_ValidateSheet_1, e]
    rfl
theorem nl_nest_ValidateSheet_1 (F n r : Nat) (K : AEx → ASt UU → Prop) (t2 : Int) (t70 : List (List Rect)) (t71 : Int) (t72 : Int) (t76 : List Rect) (t77 : Int) (t78 : Int) (c3_0 : Int) (c3_1 : Int) (c3_2 : Int) (c3_3 : Int) : iter (execG (inliner M_nest_ValidateSheet F 0 C_ref06_inside) C_ref06_inside Tryz.f29.ntmps M_nest_ValidateSheet F 3 (cL (cB (cS (cS (cB (cF (cS (cS (cL (cB (cS (cF (cS (cS (cS (bo Tryz.f29))))))))))))))))) (M_nest_ValidateSheet 0 3) F 0 (st_nest_ValidateSheet_1 t2 t70 t71 t72 t76 t77 t78 c3_0 c3_1 c3_2 c3_3) (k_nest_ValidateSheet_1 F n r K) = n_nest_ValidateSheet_1 F (fun t2 t70 t71 t72 c3_0 c3_1 c3_2 c3_3 => iter (execG (inliner M_nest_ValidateSheet F 0 C_ref06_inside) C_ref06_inside Tryz.f29.ntmps M_nest_ValidateSheet F 1 (cL (cB (cS (cF (cS (cS (cS (bo Tryz.f29))))))))) (M_nest_ValidateSheet 0 1) n (r + 1) (st_nest_ValidateSheet_0 t2 t70 t71 t72 c3_0 c3_1 c3_2 c3_3) K) (fun t2 t70 t71 t72 c3_0 c3_1 c3_2 c3_3 => K (.exit 1) (st_nest_ValidateSheet_0 t2 t70 t71 t72 c3_0 c3_1 c3_2 c3_3)) (fun t2 t70 t71 t72 c3_0 c3_1 c3_2 c3_3 => K .ret (st_nest_ValidateSheet_0 t2 t70 t71 t72 c3_0 c3_1 c3_2 c3_3)) t2 t70 t71 t72 t76 t77 t78 c3_0 c3_1 c3_2 c3_3 := by
  rw [loop_nest_ValidateSheet_1]
  have h0 : (fun t2 t70 t71 t72 t76 t77 t78 c3_0 c3_1 c3_2 c3_3 => k_nest_ValidateSheet_1 F n r K .ret (st_nest_ValidateSheet_1 t2 t70 t71 t72 t76 t77 t78 c3_0 c3_1 c3_2 c3_3)) = (fun t2 t70 t71 t72 t76 t77 t78 c3_0 c3_1 c3_2 c3_3 => g_nest_ValidateSheet_c1_0 (fun t2 t70 t71 t72 c3_0 c3_1 c3_2 c3_3 => iter (execG (inliner M_nest_ValidateSheet F 0 C_ref06_inside) C_ref06_inside Tryz.f29.ntmps M_nest_ValidateSheet F 1 (cL (cB (cS (cF (cS (cS (cS (bo Tryz.f29))))))))) (M_nest_ValidateSheet 0 1) n (r + 1) (st_nest_ValidateSheet_0 t2 t70 t71 t72 c3_0 c3_1 c3_2 c3_3) K) (fun t2 t70 t71 t72 c3_0 c3_1 c3_2 c3_3 => K (.exit 1) (st_nest_ValidateSheet_0 t2 t70 t71 t72 c3_0 c3_1 c3_2 c3_3)) (fun t2 t70 t71 t72 c3_0 c3_1 c3_2 c3_3 => K .ret (st_nest_ValidateSheet_0 t2 t70 t71 t72 c3_0 c3_1 c3_2 c3_3)) t2 t70 t71 t72 t76 t77 t78 c3_0 c3_1 c3_2 c3_3) := by
    funext t2 t70 t71 t72 t76 t77 t78 c3_0 c3_1 c3_2 c3_3
    rw [cont_nest_ValidateSheet_1_0]
  have h1 : (fun t2 t70 t71 t72 t76 t77 t78 c3_0 c3_1 c3_2 c3_3 => k_nest_ValidateSheet_1 F n r K (.exit 3) (st_nest_ValidateSheet_1 t2 t70 t71 t72 t76 t77 t78 c3_0 c3_1 c3_2 c3_3)) = (fun t2 t70 t71 t72 t76 t77 t78 c3_0 c3_1 c3_2 c3_3 => g_nest_ValidateSheet_c1_1 (fun t2 t70 t71 t72 c3_0 c3_1 c3_2 c3_3 => iter (execG (inliner M_nest_ValidateSheet F 0 C_ref06_inside) C_ref06_inside Tryz.f29.ntmps M_nest_ValidateSheet F 1 (cL (cB (cS (cF (cS (cS (cS (bo Tryz.f29))))))))) (M_nest_ValidateSheet 0 1) n (r + 1) (st_nest_ValidateSheet_0 t2 t70 t71 t72 c3_0 c3_1 c3_2 c3_3) K) (fun t2 t70 t71 t72 c3_0 c3_1 c3_2 c3_3 => K (.exit 1) (st_nest_ValidateSheet_0 t2 t70 t71 t72 c3_0 c3_1 c3_2 c3_3)) (fun t2 t70 t71 t72 c3_0 c3_1 c3_2 c3_3 => K .ret (st_nest_ValidateSheet_0 t2 t70 t71 t72 c3_0 c3_1 c3_2 c3_3)) t2 t70 t71 t72 t76 t77 t78 c3_0 c3_1 c3_2 c3_3) := by
    funext t2 t70 t71 t72 t76 t77 t78 c3_0 c3_1 c3_2 c3_3
    rw [cont_nest_ValidateSheet_1_1]
  rw [h0, h1]
  rfl
theorem loop_nest_ValidateSheet_0 (F : Nat) (K : AEx → ASt UU → Prop) : ∀ (n r : Nat) (t2 : Int) (t70 : List (List Rect)) (t71 : Int) (t72 : Int) (c3_0 : Int) (c3_1 : Int) (c3_2 : Int) (c3_3 : Int), iter (execG (inliner M_nest_ValidateSheet F 0 C_ref06_inside) C_ref06_inside Tryz.f29.ntmps M_nest_ValidateSheet F 1 (cL (cB (cS (cF (cS (cS (cS (bo Tryz.f29))))))))) (M_nest_ValidateSheet 0 1) n r (st_nest_ValidateSheet_0 t2 t70 t71 t72 c3_0 c3_1 c3_2 c3_3) K = w_nest_ValidateSheet_0 F  (fun t2 t70 t71 t72 c3_0 c3_1 c3_2 c3_3 => K (.exit 1) (st_nest_ValidateSheet_0 t2 t70 t71 t72 c3_0 c3_1 c3_2 c3_3)) (fun t2 t70 t71 t72 c3_0 c3_1 c3_2 c3_3 => K .ret (st_nest_ValidateSheet_0 t2 t70 t71 t72 c3_0 c3_1 c3_2 c3_3)) n t2 t70 t71 t72 c3_0 c3_1 c3_2 c3_3 := by
  intro n
  induction n with
  | zero => intros; rfl
  | succ n ih =>
    intro r t2 t70 t71 t72 c3_0 c3_1 c3_2 c3_3
    have e : (fun t2 t70 t71 t72 c3_0 c3_1 c3_2 c3_3 => iter (execG (inliner M_nest_ValidateSheet F 0 C_ref06_inside) C_ref06_inside Tryz.f29.ntmps M_nest_ValidateSheet F 1 (cL (cB (cS (cF (cS (cS (cS (bo Tryz.f29))))))))) (M_nest_ValidateSheet 0 1) n (r + 1) (st_nest_ValidateSheet_0 t2 t70 t71 t72 c3_0 c3_1 c3_2 c3_3) K) = w_nest_ValidateSheet_0 F  (fun t2 t70 t71 t72 c3_0 c3_1 c3_2 c3_3 => K (.exit 1) (st_nest_ValidateSheet_0 t2 t70 t71 t72 c3_0 c3_1 c3_2 c3_3)) (fun t2 t70 t71 t72 c3_0 c3_1 c3_2 c3_3 => K .ret (st_nest_ValidateSheet_0 t2 t70 t71 t72 c3_0 c3_1 c3_2 c3_3)) n := by
      funext t2 t70 t71 t72 c3_0 c3_1 c3_2 c3_3
      exact ih (r + 1) t2 t70 t71 t72 c3_0 c3_1 c3_2 c3_3
    have e1 : (fun t2 t70 t71 t72 t76 t77 t78 c3_0 c3_1 c3_2 c3_3 => iter (execG (inliner M_nest_ValidateSheet F 0 C_ref06_inside) C_ref06_inside Tryz.f29.ntmps M_nest_ValidateSheet F 3 (cL (cB (cS (cS (cB (cF (cS (cS (cL (cB (cS (cF (cS (cS (cS (bo Tryz.f29))))))))))))))))) (M_nest_ValidateSheet 0 3) F 0 (st_nest_ValidateSheet_1 t2 t70 t71 t72 t76 t77 t78 c3_0 c3_1 c3_2 c3_3) (k_nest_ValidateSheet_1 F n r K)) = (n_nest_ValidateSheet_1 F (fun t2 t70 t71 t72 c3_0 c3_1 c3_2 c3_3 => iter (execG (inliner M_nest_ValidateSheet F 0 C_ref06_inside) C_ref06_inside Tryz.f29.ntmps M_nest_ValidateSheet F 1 (cL (cB (cS (cF (cS (cS (cS (bo Tryz.f29))))))))) (M_nest_ValidateSheet 0 1) n (r + 1) (st_nest_ValidateSheet_0 t2 t70 t71 t72 c3_0 c3_1 c3_2 c3_3) K) (fun t2 t70 t71 t72 c3_0 c3_1 c3_2 c3_3 => K (.exit 1) (st_nest_ValidateSheet_0 t2 t70 t71 t72 c3_0 c3_1 c3_2 c3_3)) (fun t2 t70 t71 t72 c3_0 c3_1 c3_2 c3_3 => K .ret (st_nest_ValidateSheet_0 t2 t70 t71 t72 c3_0 c3_1 c3_2 c3_3))) := by
      funext t2 t70 t71 t72 t76 t77 t78 c3_0 c3_1 c3_2 c3_3
      exact nl_nest_ValidateSheet_1 F n r K t2 t70 t71 t72 t76 t77 t78 c3_0 c3_1 c3_2 c3_3
    rw [step_nest_ValidateSheet_0, e1, e]
    rfl
theorem nl_nest_ValidateSheet_0 (F : Nat) (Post : AVal UU → Prop) (t2 : Int) (t70 : List (List Rect)) (t71 : Int) (t72 : Int) (c3_0 : Int) (c3_1 : Int) (c3_2 : Int) (c3_3 : Int) : iter (execG (inliner M_nest_ValidateSheet F 0 C_ref06_inside) C_ref06_inside Tryz.f29.ntmps M_nest_ValidateSheet F 1 (cL (cB (cS (cF (cS (cS (cS (bo Tryz.f29))))))))) (M_nest_ValidateSheet 0 1) F 0 (st_nest_ValidateSheet_0 t2 t70 t71 t72 c3_0 c3_1 c3_2 c3_3) (k_nest_ValidateSheet_0 F Post) = n_nest_ValidateSheet_0 F (fun r0 => Post (.int .i64 r0)) t2 t70 t71 t72 c3_0 c3_1 c3_2 c3_3 := by
  rw [loop_nest_ValidateSheet_0]
  have h0 : (fun t2 t70 t71 t72 c3_0 c3_1 c3_2 c3_3 => k_nest_ValidateSheet_0 F Post (.exit 1) (st_nest_ValidateSheet_0 t2 t70 t71 t72 c3_0 c3_1 c3_2 c3_3)) = (fun t2 t70 t71 t72 c3_0 c3_1 c3_2 c3_3 => g_nest_ValidateSheet_c0_0 (fun r0 => Post (.int .i64 r0)) t2 t70 t71 t72 c3_0 c3_1 c3_2 c3_3) := by
    funext t2 t70 t71 t72 c3_0 c3_1 c3_2 c3_3
    rw [cont_nest_ValidateSheet_0_0]
  have h1 : (fun t2 t70 t71 t72 c3_0 c3_1 c3_2 c3_3 => k_nest_ValidateSheet_0 F Post .ret (st_nest_ValidateSheet_0 t2 t70 t71 t72 c3_0 c3_1 c3_2 c3_3)) = (fun t2 t70 t71 t72 c3_0 c3_1 c3_2 c3_3 => g_nest_ValidateSheet_c0_1 (fun r0 => Post (.int .i64 r0)) t2 t70 t71 t72 c3_0 c3_1 c3_2 c3_3) := by
    funext t2 t70 t71 t72 c3_0 c3_1 c3_2 c3_3
    rw [cont_nest_ValidateSheet_0_1]
  rw [h0, h1]
  rfl
theorem exec_nest_ValidateSheet (F : Nat) (Post : AVal UU → Prop) (a0_Name : ByteArray) (a0_Material : ByteArray) (a0_Gauge : Int) (a0_Grain : Int) (a0_Width : Int) (a0_Height : Int) (a0_Clamps : List Rect) (a0_Used : List Rect) : exec C_ref06_inside Tryz.f29.ntmps M_nest_ValidateSheet F 0 (bo Tryz.f29) (initSt [.agg [.str a0_Name, .str a0_Material, .int .i64 a0_Gauge, .int .i64 a0_Grain, .int .i64 a0_Width, .int .i64 a0_Height, .sl .rect a0_Clamps, .sl .rect a0_Used]]) (AEnds C_ref06_inside false Tryz.f29 Post) = w_nest_ValidateSheet F a0_Name a0_Material a0_Gauge a0_Grain a0_Width a0_Height a0_Clamps a0_Used (fun r0 => Post (.int .i64 r0)) := by
  rw [entry_nest_ValidateSheet]
  have e0 : (fun t2 t70 t71 t72 c3_0 c3_1 c3_2 c3_3 => iter (execG (inliner M_nest_ValidateSheet F 0 C_ref06_inside) C_ref06_inside Tryz.f29.ntmps M_nest_ValidateSheet F 1 (cL (cB (cS (cF (cS (cS (cS (bo Tryz.f29))))))))) (M_nest_ValidateSheet 0 1) F 0 (st_nest_ValidateSheet_0 t2 t70 t71 t72 c3_0 c3_1 c3_2 c3_3) (k_nest_ValidateSheet_0 F Post)) = (n_nest_ValidateSheet_0 F (fun r0 => Post (.int .i64 r0))) := by
    funext t2 t70 t71 t72 c3_0 c3_1 c3_2 c3_3
    exact nl_nest_ValidateSheet_0 F Post t2 t70 t71 t72 c3_0 c3_1 c3_2 c3_3
  rw [e0]
  rfl
def m_nest_ValidateSheet : Model UU
  | [.agg [.str a0_Name, .str a0_Material, .int .i64 a0_Gauge, .int .i64 a0_Grain, .int .i64 a0_Width, .int .i64 a0_Height, .sl .rect a0_Clamps, .sl .rect a0_Used]] => some ([], .int .i64 (sp_nest_ValidateSheet a0_Name a0_Material a0_Gauge a0_Grain a0_Width a0_Height a0_Clamps a0_Used))
  | _ => none
def C_nest_ValidateSheet : Cfg UU := C_ref06_inside.add 29 m_nest_ValidateSheet
theorem s_nest_ValidateSheet : SumOK C_nest_ValidateSheet := by
  refine s_ref06_inside.addD mixed (fn := Tryz.f29) (c := bo Tryz.f29) Tryz.func29 (by kernel_rfl) (by kernel_rfl) ?_
  intro xs cs r h hc
  unfold m_nest_ValidateSheet at h
  split at h
  · rename_i a0_Name a0_Material a0_Gauge a0_Grain a0_Width a0_Height a0_Clamps a0_Used
    cases h
    obtain ⟨F, hF⟩ := ok_nest_ValidateSheet a0_Name a0_Material a0_Gauge a0_Grain a0_Width a0_Height a0_Clamps a0_Used
    refine ⟨by kernel_rfl, M_nest_ValidateSheet, F, false, ⟨?_⟩⟩
    rw [exec_nest_ValidateSheet]
    refine hF _ ?_
    rfl
  · cases h
set_option maxRecDepth 100000 in
theorem entry_ref06_ValidateSheet (F : Nat) (Post : AVal UU → Prop) (a0_Name : ByteArray) (a0_Material : ByteArray) (a0_Gauge : Int) (a0_Grain : Int) (a0_Width : Int) (a0_Height : Int) (a0_Clamps : List Rect) (a0_Used : List Rect) : exec C_nest_ValidateSheet Tryz.f34.ntmps M_ref06_ValidateSheet F 0 (bo Tryz.f34) (initSt [.agg [.str a0_Name, .str a0_Material, .int .i64 a0_Gauge, .int .i64 a0_Grain, .int .i64 a0_Width, .int .i64 a0_Height, .sl .rect a0_Clamps, .sl .rect a0_Used]]) (AEnds C_nest_ValidateSheet false Tryz.f34 Post) = g_ref06_ValidateSheet_e a0_Name a0_Material a0_Gauge a0_Grain a0_Width a0_Height a0_Clamps a0_Used (fun r0 => Post (.int .i64 r0)) := by kernel_rfl
theorem exec_ref06_ValidateSheet (F : Nat) (Post : AVal UU → Prop) (a0_Name : ByteArray) (a0_Material : ByteArray) (a0_Gauge : Int) (a0_Grain : Int) (a0_Width : Int) (a0_Height : Int) (a0_Clamps : List Rect) (a0_Used : List Rect) : exec C_nest_ValidateSheet Tryz.f34.ntmps M_ref06_ValidateSheet F 0 (bo Tryz.f34) (initSt [.agg [.str a0_Name, .str a0_Material, .int .i64 a0_Gauge, .int .i64 a0_Grain, .int .i64 a0_Width, .int .i64 a0_Height, .sl .rect a0_Clamps, .sl .rect a0_Used]]) (AEnds C_nest_ValidateSheet false Tryz.f34 Post) = w_ref06_ValidateSheet F a0_Name a0_Material a0_Gauge a0_Grain a0_Width a0_Height a0_Clamps a0_Used (fun r0 => Post (.int .i64 r0)) := by
  rw [entry_ref06_ValidateSheet]
  rfl
def m_ref06_ValidateSheet : Model UU
  | [.agg [.str a0_Name, .str a0_Material, .int .i64 a0_Gauge, .int .i64 a0_Grain, .int .i64 a0_Width, .int .i64 a0_Height, .sl .rect a0_Clamps, .sl .rect a0_Used]] => some ([pre_ref06_ValidateSheet a0_Name a0_Material a0_Gauge a0_Grain a0_Width a0_Height a0_Clamps a0_Used], .int .i64 (sp_ref06_ValidateSheet a0_Name a0_Material a0_Gauge a0_Grain a0_Width a0_Height a0_Clamps a0_Used))
  | _ => none
def C_ref06_ValidateSheet : Cfg UU := C_nest_ValidateSheet.add 34 m_ref06_ValidateSheet
theorem s_ref06_ValidateSheet : SumOK C_ref06_ValidateSheet := by
  refine s_nest_ValidateSheet.addD mixed (fn := Tryz.f34) (c := bo Tryz.f34) Tryz.func34 (by kernel_rfl) (by kernel_rfl) ?_
  intro xs cs r h hc
  unfold m_ref06_ValidateSheet at h
  split at h
  · rename_i a0_Name a0_Material a0_Gauge a0_Grain a0_Width a0_Height a0_Clamps a0_Used
    cases h
    obtain ⟨F, hF⟩ := ok_ref06_ValidateSheet a0_Name a0_Material a0_Gauge a0_Grain a0_Width a0_Height a0_Clamps a0_Used hc
    refine ⟨by kernel_rfl, M_ref06_ValidateSheet, F, false, ⟨?_⟩⟩
    rw [exec_ref06_ValidateSheet]
    refine hF _ ?_
    rfl
  · cases h
end
end Go.Proofs.YteffpgliiilnjaaGreatDoor

namespace Go.Proofs.YteffpgliiilnjaaGreatDoor
open Go.Vm Go.RowKit
set_option linter.unusedVariables false
noncomputable section
def k_ref06_SameSegments_0 (F : Nat) (Post : AVal UU → Prop) : AEx → ASt UU → Prop := kBlock 0 (kSeq (inliner M_ref06_SameSegments F 0 C_ref06_ValidateSheet) C_ref06_ValidateSheet Tryz.f11.ntmps M_ref06_SameSegments F 0 (cS (cS (cS (bo Tryz.f11)))) (AEnds C_ref06_ValidateSheet false Tryz.f11 Post))
set_option maxRecDepth 100000 in
theorem step_ref06_SameSegments_0 (F n r : Nat) (K : AEx → ASt UU → Prop) (t0 : List Seg) (t1 : List Seg) (t4 : Bool) (t5 : Int) : iter (execG (inliner M_ref06_SameSegments F 0 C_ref06_ValidateSheet) C_ref06_ValidateSheet Tryz.f11.ntmps M_ref06_SameSegments F 0 (cL (cB (cS (cF (cS (cS (bo Tryz.f11)))))))) (M_ref06_SameSegments 0 0) (n + 1) r (st_ref06_SameSegments_0 t0 t1 t4 t5) K = g_ref06_SameSegments_s0 (fun t0 t1 t4 t5 => iter (execG (inliner M_ref06_SameSegments F 0 C_ref06_ValidateSheet) C_ref06_ValidateSheet Tryz.f11.ntmps M_ref06_SameSegments F 0 (cL (cB (cS (cF (cS (cS (bo Tryz.f11)))))))) (M_ref06_SameSegments 0 0) n (r + 1) (st_ref06_SameSegments_0 t0 t1 t4 t5) K) (fun t0 t1 t4 t5 => K .ret (st_ref06_SameSegments_0 t0 t1 t4 t5)) (fun t0 t1 t4 t5 => K (.exit 0) (st_ref06_SameSegments_0 t0 t1 t4 t5)) t0 t1 t4 t5 := by kernel_rfl
set_option maxRecDepth 100000 in
theorem cont_ref06_SameSegments_0_0 (F : Nat) (Post : AVal UU → Prop) (t0 : List Seg) (t1 : List Seg) (t4 : Bool) (t5 : Int) : k_ref06_SameSegments_0 F Post .ret (st_ref06_SameSegments_0 t0 t1 t4 t5) = g_ref06_SameSegments_c0_0 (fun r0 => Post (.bool r0)) t0 t1 t4 t5 := by kernel_rfl
set_option maxRecDepth 100000 in
theorem cont_ref06_SameSegments_0_1 (F : Nat) (Post : AVal UU → Prop) (t0 : List Seg) (t1 : List Seg) (t4 : Bool) (t5 : Int) : k_ref06_SameSegments_0 F Post (.exit 0) (st_ref06_SameSegments_0 t0 t1 t4 t5) = g_ref06_SameSegments_c0_1 (fun r0 => Post (.bool r0)) t0 t1 t4 t5 := by kernel_rfl
set_option maxRecDepth 100000 in
theorem entry_ref06_SameSegments (F : Nat) (Post : AVal UU → Prop) (a0 : List Seg) (a1 : List Seg) : exec C_ref06_ValidateSheet Tryz.f11.ntmps M_ref06_SameSegments F 0 (bo Tryz.f11) (initSt [.sl .seg a0, .sl .seg a1]) (AEnds C_ref06_ValidateSheet false Tryz.f11 Post) = g_ref06_SameSegments_e a0 a1 (fun r0 => Post (.bool r0)) (fun t0 t1 t4 t5 => iter (execG (inliner M_ref06_SameSegments F 0 C_ref06_ValidateSheet) C_ref06_ValidateSheet Tryz.f11.ntmps M_ref06_SameSegments F 0 (cL (cB (cS (cF (cS (cS (bo Tryz.f11)))))))) (M_ref06_SameSegments 0 0) F 0 (st_ref06_SameSegments_0 t0 t1 t4 t5) (k_ref06_SameSegments_0 F Post)) := by kernel_rfl
theorem loop_ref06_SameSegments_0 (F : Nat) (K : AEx → ASt UU → Prop) : ∀ (n r : Nat) (t0 : List Seg) (t1 : List Seg) (t4 : Bool) (t5 : Int), iter (execG (inliner M_ref06_SameSegments F 0 C_ref06_ValidateSheet) C_ref06_ValidateSheet Tryz.f11.ntmps M_ref06_SameSegments F 0 (cL (cB (cS (cF (cS (cS (bo Tryz.f11)))))))) (M_ref06_SameSegments 0 0) n r (st_ref06_SameSegments_0 t0 t1 t4 t5) K = w_ref06_SameSegments_0 F  (fun t0 t1 t4 t5 => K .ret (st_ref06_SameSegments_0 t0 t1 t4 t5)) (fun t0 t1 t4 t5 => K (.exit 0) (st_ref06_SameSegments_0 t0 t1 t4 t5)) n t0 t1 t4 t5 := by
  intro n
  induction n with
  | zero => intros; rfl
  | succ n ih =>
    intro r t0 t1 t4 t5
    have e : (fun t0 t1 t4 t5 => iter (execG (inliner M_ref06_SameSegments F 0 C_ref06_ValidateSheet) C_ref06_ValidateSheet Tryz.f11.ntmps M_ref06_SameSegments F 0 (cL (cB (cS (cF (cS (cS (bo Tryz.f11)))))))) (M_ref06_SameSegments 0 0) n (r + 1) (st_ref06_SameSegments_0 t0 t1 t4 t5) K) = w_ref06_SameSegments_0 F  (fun t0 t1 t4 t5 => K .ret (st_ref06_SameSegments_0 t0 t1 t4 t5)) (fun t0 t1 t4 t5 => K (.exit 0) (st_ref06_SameSegments_0 t0 t1 t4 t5)) n := by
      funext t0 t1 t4 t5
      exact ih (r + 1) t0 t1 t4 t5
    rw [step_ref06_SameSegments_0, e]
    rfl
theorem nl_ref06_SameSegments_0 (F : Nat) (Post : AVal UU → Prop) (t0 : List Seg) (t1 : List Seg) (t4 : Bool) (t5 : Int) : iter (execG (inliner M_ref06_SameSegments F 0 C_ref06_ValidateSheet) C_ref06_ValidateSheet Tryz.f11.ntmps M_ref06_SameSegments F 0 (cL (cB (cS (cF (cS (cS (bo Tryz.f11)))))))) (M_ref06_SameSegments 0 0) F 0 (st_ref06_SameSegments_0 t0 t1 t4 t5) (k_ref06_SameSegments_0 F Post) = n_ref06_SameSegments_0 F (fun r0 => Post (.bool r0)) t0 t1 t4 t5 := by
  rw [loop_ref06_SameSegments_0]
  have h0 : (fun t0 t1 t4 t5 => k_ref06_SameSegments_0 F Post .ret (st_ref06_SameSegments_0 t0 t1 t4 t5)) = (fun t0 t1 t4 t5 => g_ref06_SameSegments_c0_0 (fun r0 => Post (.bool r0)) t0 t1 t4 t5) := by
    funext t0 t1 t4 t5
    rw [cont_ref06_SameSegments_0_0]
  have h1 : (fun t0 t1 t4 t5 => k_ref06_SameSegments_0 F Post (.exit 0) (st_ref06_SameSegments_0 t0 t1 t4 t5)) = (fun t0 t1 t4 t5 => g_ref06_SameSegments_c0_1 (fun r0 => Post (.bool r0)) t0 t1 t4 t5) := by
    funext t0 t1 t4 t5
    rw [cont_ref06_SameSegments_0_1]
  rw [h0, h1]
  rfl
theorem exec_ref06_SameSegments (F : Nat) (Post : AVal UU → Prop) (a0 : List Seg) (a1 : List Seg) : exec C_ref06_ValidateSheet Tryz.f11.ntmps M_ref06_SameSegments F 0 (bo Tryz.f11) (initSt [.sl .seg a0, .sl .seg a1]) (AEnds C_ref06_ValidateSheet false Tryz.f11 Post) = w_ref06_SameSegments F a0 a1 (fun r0 => Post (.bool r0)) := by
  rw [entry_ref06_SameSegments]
  have e0 : (fun t0 t1 t4 t5 => iter (execG (inliner M_ref06_SameSegments F 0 C_ref06_ValidateSheet) C_ref06_ValidateSheet Tryz.f11.ntmps M_ref06_SameSegments F 0 (cL (cB (cS (cF (cS (cS (bo Tryz.f11)))))))) (M_ref06_SameSegments 0 0) F 0 (st_ref06_SameSegments_0 t0 t1 t4 t5) (k_ref06_SameSegments_0 F Post)) = (n_ref06_SameSegments_0 F (fun r0 => Post (.bool r0))) := by
    funext t0 t1 t4 t5
    exact nl_ref06_SameSegments_0 F Post t0 t1 t4 t5
  rw [e0]
  rfl
def m_ref06_SameSegments : Model UU
  | [.sl .seg a0, .sl .seg a1] => some ([pre_ref06_SameSegments a0 a1], .bool (sp_ref06_SameSegments a0 a1))
  | _ => none
def C_ref06_SameSegments : Cfg UU := C_ref06_ValidateSheet.add 11 m_ref06_SameSegments
theorem s_ref06_SameSegments : SumOK C_ref06_SameSegments := by
  refine s_ref06_ValidateSheet.addD mixed (fn := Tryz.f11) (c := bo Tryz.f11) Tryz.func11 (by kernel_rfl) (by kernel_rfl) ?_
  intro xs cs r h hc
  unfold m_ref06_SameSegments at h
  split at h
  · rename_i a0 a1
    cases h
    obtain ⟨F, hF⟩ := ok_ref06_SameSegments a0 a1 hc
    refine ⟨by kernel_rfl, M_ref06_SameSegments, F, false, ⟨?_⟩⟩
    rw [exec_ref06_SameSegments]
    refine hF _ ?_
    rfl
  · cases h
def k_ref06_SameRects_0 (F : Nat) (Post : AVal UU → Prop) : AEx → ASt UU → Prop := kBlock 0 (kSeq (inliner M_ref06_SameRects F 0 C_ref06_SameSegments) C_ref06_SameSegments Tryz.f12.ntmps M_ref06_SameRects F 0 (cS (cS (cS (bo Tryz.f12)))) (AEnds C_ref06_SameSegments false Tryz.f12 Post))
set_option maxRecDepth 100000 in
theorem step_ref06_SameRects_0 (F n r : Nat) (K : AEx → ASt UU → Prop) (t0 : List Rect) (t1 : List Rect) (t4 : Bool) (t5 : Int) : iter (execG (inliner M_ref06_SameRects F 0 C_ref06_SameSegments) C_ref06_SameSegments Tryz.f12.ntmps M_ref06_SameRects F 0 (cL (cB (cS (cF (cS (cS (bo Tryz.f12)))))))) (M_ref06_SameRects 0 0) (n + 1) r (st_ref06_SameRects_0 t0 t1 t4 t5) K = g_ref06_SameRects_s0 (fun t0 t1 t4 t5 => iter (execG (inliner M_ref06_SameRects F 0 C_ref06_SameSegments) C_ref06_SameSegments Tryz.f12.ntmps M_ref06_SameRects F 0 (cL (cB (cS (cF (cS (cS (bo Tryz.f12)))))))) (M_ref06_SameRects 0 0) n (r + 1) (st_ref06_SameRects_0 t0 t1 t4 t5) K) (fun t0 t1 t4 t5 => K .ret (st_ref06_SameRects_0 t0 t1 t4 t5)) (fun t0 t1 t4 t5 => K (.exit 0) (st_ref06_SameRects_0 t0 t1 t4 t5)) t0 t1 t4 t5 := by kernel_rfl
set_option maxRecDepth 100000 in
theorem cont_ref06_SameRects_0_0 (F : Nat) (Post : AVal UU → Prop) (t0 : List Rect) (t1 : List Rect) (t4 : Bool) (t5 : Int) : k_ref06_SameRects_0 F Post .ret (st_ref06_SameRects_0 t0 t1 t4 t5) = g_ref06_SameRects_c0_0 (fun r0 => Post (.bool r0)) t0 t1 t4 t5 := by kernel_rfl
set_option maxRecDepth 100000 in
theorem cont_ref06_SameRects_0_1 (F : Nat) (Post : AVal UU → Prop) (t0 : List Rect) (t1 : List Rect) (t4 : Bool) (t5 : Int) : k_ref06_SameRects_0 F Post (.exit 0) (st_ref06_SameRects_0 t0 t1 t4 t5) = g_ref06_SameRects_c0_1 (fun r0 => Post (.bool r0)) t0 t1 t4 t5 := by kernel_rfl
set_option maxRecDepth 100000 in
theorem entry_ref06_SameRects (F : Nat) (Post : AVal UU → Prop) (a0 : List Rect) (a1 : List Rect) : exec C_ref06_SameSegments Tryz.f12.ntmps M_ref06_SameRects F 0 (bo Tryz.f12) (initSt [.sl .rect a0, .sl .rect a1]) (AEnds C_ref06_SameSegments false Tryz.f12 Post) = g_ref06_SameRects_e a0 a1 (fun r0 => Post (.bool r0)) (fun t0 t1 t4 t5 => iter (execG (inliner M_ref06_SameRects F 0 C_ref06_SameSegments) C_ref06_SameSegments Tryz.f12.ntmps M_ref06_SameRects F 0 (cL (cB (cS (cF (cS (cS (bo Tryz.f12)))))))) (M_ref06_SameRects 0 0) F 0 (st_ref06_SameRects_0 t0 t1 t4 t5) (k_ref06_SameRects_0 F Post)) := by kernel_rfl
theorem loop_ref06_SameRects_0 (F : Nat) (K : AEx → ASt UU → Prop) : ∀ (n r : Nat) (t0 : List Rect) (t1 : List Rect) (t4 : Bool) (t5 : Int), iter (execG (inliner M_ref06_SameRects F 0 C_ref06_SameSegments) C_ref06_SameSegments Tryz.f12.ntmps M_ref06_SameRects F 0 (cL (cB (cS (cF (cS (cS (bo Tryz.f12)))))))) (M_ref06_SameRects 0 0) n r (st_ref06_SameRects_0 t0 t1 t4 t5) K = w_ref06_SameRects_0 F  (fun t0 t1 t4 t5 => K .ret (st_ref06_SameRects_0 t0 t1 t4 t5)) (fun t0 t1 t4 t5 => K (.exit 0) (st_ref06_SameRects_0 t0 t1 t4 t5)) n t0 t1 t4 t5 := by
  intro n
  induction n with
  | zero => intros; rfl
  | succ n ih =>
    intro r t0 t1 t4 t5
    have e : (fun t0 t1 t4 t5 => iter (execG (inliner M_ref06_SameRects F 0 C_ref06_SameSegments) C_ref06_SameSegments Tryz.f12.ntmps M_ref06_SameRects F 0 (cL (cB (cS (cF (cS (cS (bo Tryz.f12)))))))) (M_ref06_SameRects 0 0) n (r + 1) (st_ref06_SameRects_0 t0 t1 t4 t5) K) = w_ref06_SameRects_0 F  (fun t0 t1 t4 t5 => K .ret (st_ref06_SameRects_0 t0 t1 t4 t5)) (fun t0 t1 t4 t5 => K (.exit 0) (st_ref06_SameRects_0 t0 t1 t4 t5)) n := by
      funext t0 t1 t4 t5
      exact ih (r + 1) t0 t1 t4 t5
    rw [step_ref06_SameRects_0, e]
    rfl
theorem nl_ref06_SameRects_0 (F : Nat) (Post : AVal UU → Prop) (t0 : List Rect) (t1 : List Rect) (t4 : Bool) (t5 : Int) : iter (execG (inliner M_ref06_SameRects F 0 C_ref06_SameSegments) C_ref06_SameSegments Tryz.f12.ntmps M_ref06_SameRects F 0 (cL (cB (cS (cF (cS (cS (bo Tryz.f12)))))))) (M_ref06_SameRects 0 0) F 0 (st_ref06_SameRects_0 t0 t1 t4 t5) (k_ref06_SameRects_0 F Post) = n_ref06_SameRects_0 F (fun r0 => Post (.bool r0)) t0 t1 t4 t5 := by
  rw [loop_ref06_SameRects_0]
  have h0 : (fun t0 t1 t4 t5 => k_ref06_SameRects_0 F Post .ret (st_ref06_SameRects_0 t0 t1 t4 t5)) = (fun t0 t1 t4 t5 => g_ref06_SameRects_c0_0 (fun r0 => Post (.bool r0)) t0 t1 t4 t5) := by
    funext t0 t1 t4 t5
    rw [cont_ref06_SameRects_0_0]
  have h1 : (fun t0 t1 t4 t5 => k_ref06_SameRects_0 F Post (.exit 0) (st_ref06_SameRects_0 t0 t1 t4 t5)) = (fun t0 t1 t4 t5 => g_ref06_SameRects_c0_1 (fun r0 => Post (.bool r0)) t0 t1 t4 t5) := by
    funext t0 t1 t4 t5
    rw [cont_ref06_SameRects_0_1]
  rw [h0, h1]
  rfl
theorem exec_ref06_SameRects (F : Nat) (Post : AVal UU → Prop) (a0 : List Rect) (a1 : List Rect) : exec C_ref06_SameSegments Tryz.f12.ntmps M_ref06_SameRects F 0 (bo Tryz.f12) (initSt [.sl .rect a0, .sl .rect a1]) (AEnds C_ref06_SameSegments false Tryz.f12 Post) = w_ref06_SameRects F a0 a1 (fun r0 => Post (.bool r0)) := by
  rw [entry_ref06_SameRects]
  have e0 : (fun t0 t1 t4 t5 => iter (execG (inliner M_ref06_SameRects F 0 C_ref06_SameSegments) C_ref06_SameSegments Tryz.f12.ntmps M_ref06_SameRects F 0 (cL (cB (cS (cF (cS (cS (bo Tryz.f12)))))))) (M_ref06_SameRects 0 0) F 0 (st_ref06_SameRects_0 t0 t1 t4 t5) (k_ref06_SameRects_0 F Post)) = (n_ref06_SameRects_0 F (fun r0 => Post (.bool r0))) := by
    funext t0 t1 t4 t5
    exact nl_ref06_SameRects_0 F Post t0 t1 t4 t5
  rw [e0]
  rfl
def m_ref06_SameRects : Model UU
  | [.sl .rect a0, .sl .rect a1] => some ([pre_ref06_SameRects a0 a1], .bool (sp_ref06_SameRects a0 a1))
  | _ => none
def C_ref06_SameRects : Cfg UU := C_ref06_SameSegments.add 12 m_ref06_SameRects
theorem s_ref06_SameRects : SumOK C_ref06_SameRects := by
  refine s_ref06_SameSegments.addD mixed (fn := Tryz.f12) (c := bo Tryz.f12) Tryz.func12 (by kernel_rfl) (by kernel_rfl) ?_
  intro xs cs r h hc
  unfold m_ref06_SameRects at h
  split at h
  · rename_i a0 a1
    cases h
    obtain ⟨F, hF⟩ := ok_ref06_SameRects a0 a1 hc
    refine ⟨by kernel_rfl, M_ref06_SameRects, F, false, ⟨?_⟩⟩
    rw [exec_ref06_SameRects]
    refine hF _ ?_
    rfl
  · cases h
def k_ref08_Merge_0 (F : Nat) (Post : AVal UU → Prop) : AEx → ASt UU → Prop := kBlock 0 (kSeq (inliner M_ref08_Merge F 0 C_ref06_SameRects) C_ref06_SameRects Tryz.f39.ntmps M_ref08_Merge F 0 (cS (cS (cS (bo Tryz.f39)))) (AEnds C_ref06_SameRects true Tryz.f39 Post))
def k_ref08_Merge_1 (F n r : Nat) (K : AEx → ASt UU → Prop) : AEx → ASt UU → Prop := kBlock 2 (kBlock 1 (kSeq (inliner M_ref08_Merge F 0 C_ref06_SameRects) C_ref06_SameRects Tryz.f39.ntmps M_ref08_Merge F 0 (cS (cS (cL (cB (cS (cF (cS (cS (bo Tryz.f39))))))))) (kIter (execG (inliner M_ref08_Merge F 0 C_ref06_SameRects) C_ref06_SameRects Tryz.f39.ntmps M_ref08_Merge F 0 (cL (cB (cS (cF (cS (cS (bo Tryz.f39)))))))) (M_ref08_Merge 0 0) n r K)))
def k_ref08_Merge_2 (F : Nat) (Post : AVal UU → Prop) : AEx → ASt UU → Prop := kBlock 4 (kSeq (inliner M_ref08_Merge F 0 C_ref06_SameRects) C_ref06_SameRects Tryz.f39.ntmps M_ref08_Merge F 0 (cS (cS (cS (cS (bo Tryz.f39))))) (AEnds C_ref06_SameRects true Tryz.f39 Post))
set_option maxRecDepth 100000 in
theorem step_ref08_Merge_0 (F n r : Nat) (K : AEx → ASt UU → Prop) (t0 : List Seg) (t5 : Int) (l119 : List Seg) : iter (execG (inliner M_ref08_Merge F 0 C_ref06_SameRects) C_ref06_SameRects Tryz.f39.ntmps M_ref08_Merge F 0 (cL (cB (cS (cF (cS (cS (bo Tryz.f39)))))))) (M_ref08_Merge 0 0) (n + 1) r (st_ref08_Merge_0 t0 t5 l119) K = g_ref08_Merge_s0 (fun t0 t5 l119 => iter (execG (inliner M_ref08_Merge F 0 C_ref06_SameRects) C_ref06_SameRects Tryz.f39.ntmps M_ref08_Merge F 0 (cL (cB (cS (cF (cS (cS (bo Tryz.f39)))))))) (M_ref08_Merge 0 0) n (r + 1) (st_ref08_Merge_0 t0 t5 l119) K) (fun t0 t5 l119 => K (.exit 0) (st_ref08_Merge_0 t0 t5 l119)) t0 t5 l119 (fun t0 t5 t6 l119 => iter (execG (inliner M_ref08_Merge F 0 C_ref06_SameRects) C_ref06_SameRects Tryz.f39.ntmps M_ref08_Merge F 2 (cL (cB (cS (cS (cB (cF (cS (cL (cB (cS (cF (cS (cS (bo Tryz.f39))))))))))))))) (M_ref08_Merge 0 2) F 0 (st_ref08_Merge_1 t0 t5 t6 l119) (k_ref08_Merge_1 F n r K)) := by kernel_rfl
set_option maxRecDepth 100000 in
theorem cont_ref08_Merge_0_0 (F : Nat) (Post : AVal UU → Prop) (t0 : List Seg) (t5 : Int) (l119 : List Seg) : k_ref08_Merge_0 F Post (.exit 0) (st_ref08_Merge_0 t0 t5 l119) = g_ref08_Merge_c0_0 (fun r0 => Post (.new .seg r0)) t0 t5 l119 (fun t8 l119 l120 => iter (execG (inliner M_ref08_Merge F 0 C_ref06_SameRects) C_ref06_SameRects Tryz.f39.ntmps M_ref08_Merge F 4 (cL (cB (cS (cF (cS (cS (cS (bo Tryz.f39))))))))) (M_ref08_Merge 0 4) F 0 (st_ref08_Merge_2 t8 l119 l120) (k_ref08_Merge_2 F Post)) := by kernel_rfl
set_option maxRecDepth 100000 in
theorem step_ref08_Merge_1 (F n r : Nat) (K : AEx → ASt UU → Prop) (t0 : List Seg) (t5 : Int) (t6 : Int) (l119 : List Seg) : iter (execG (inliner M_ref08_Merge F 0 C_ref06_SameRects) C_ref06_SameRects Tryz.f39.ntmps M_ref08_Merge F 2 (cL (cB (cS (cS (cB (cF (cS (cL (cB (cS (cF (cS (cS (bo Tryz.f39))))))))))))))) (M_ref08_Merge 0 2) (n + 1) r (st_ref08_Merge_1 t0 t5 t6 l119) K = g_ref08_Merge_s1 (fun t0 t5 t6 l119 => iter (execG (inliner M_ref08_Merge F 0 C_ref06_SameRects) C_ref06_SameRects Tryz.f39.ntmps M_ref08_Merge F 2 (cL (cB (cS (cS (cB (cF (cS (cL (cB (cS (cF (cS (cS (bo Tryz.f39))))))))))))))) (M_ref08_Merge 0 2) n (r + 1) (st_ref08_Merge_1 t0 t5 t6 l119) K) (fun t0 t5 t6 l119 => K (.exit 2) (st_ref08_Merge_1 t0 t5 t6 l119)) t0 t5 t6 l119 := by kernel_rfl
set_option maxRecDepth 100000 in
theorem cont_ref08_Merge_1_0 (F n r : Nat) (K : AEx → ASt UU → Prop) (t0 : List Seg) (t5 : Int) (t6 : Int) (l119 : List Seg) : k_ref08_Merge_1 F n r K (.exit 2) (st_ref08_Merge_1 t0 t5 t6 l119) = g_ref08_Merge_c1_0 (fun t0 t5 l119 => iter (execG (inliner M_ref08_Merge F 0 C_ref06_SameRects) C_ref06_SameRects Tryz.f39.ntmps M_ref08_Merge F 0 (cL (cB (cS (cF (cS (cS (bo Tryz.f39)))))))) (M_ref08_Merge 0 0) n (r + 1) (st_ref08_Merge_0 t0 t5 l119) K) (fun t0 t5 l119 => K (.exit 0) (st_ref08_Merge_0 t0 t5 l119)) t0 t5 t6 l119 := by kernel_rfl
set_option maxRecDepth 100000 in
theorem step_ref08_Merge_2 (F n r : Nat) (K : AEx → ASt UU → Prop) (t8 : Int) (l119 : List Seg) (l120 : List Seg) : iter (execG (inliner M_ref08_Merge F 0 C_ref06_SameRects) C_ref06_SameRects Tryz.f39.ntmps M_ref08_Merge F 4 (cL (cB (cS (cF (cS (cS (cS (bo Tryz.f39))))))))) (M_ref08_Merge 0 4) (n + 1) r (st_ref08_Merge_2 t8 l119 l120) K = g_ref08_Merge_s2 (fun t8 l119 l120 => iter (execG (inliner M_ref08_Merge F 0 C_ref06_SameRects) C_ref06_SameRects Tryz.f39.ntmps M_ref08_Merge F 4 (cL (cB (cS (cF (cS (cS (cS (bo Tryz.f39))))))))) (M_ref08_Merge 0 4) n (r + 1) (st_ref08_Merge_2 t8 l119 l120) K) (fun t8 l119 l120 => K (.exit 4) (st_ref08_Merge_2 t8 l119 l120)) t8 l119 l120 := by kernel_rfl
set_option maxRecDepth 100000 in
theorem cont_ref08_Merge_2_0 (F : Nat) (Post : AVal UU → Prop) (t8 : Int) (l119 : List Seg) (l120 : List Seg) : k_ref08_Merge_2 F Post (.exit 4) (st_ref08_Merge_2 t8 l119 l120) = g_ref08_Merge_c2_0 (fun r0 => Post (.new .seg r0)) t8 l119 l120 := by kernel_rfl
set_option maxRecDepth 100000 in
theorem entry_ref08_Merge (F : Nat) (Post : AVal UU → Prop) (a0 : List Seg) : exec C_ref06_SameRects Tryz.f39.ntmps M_ref08_Merge F 0 (bo Tryz.f39) (initSt [.sl .seg a0]) (AEnds C_ref06_SameRects true Tryz.f39 Post) = g_ref08_Merge_e a0 (fun r0 => Post (.new .seg r0)) (fun t0 t5 l119 => iter (execG (inliner M_ref08_Merge F 0 C_ref06_SameRects) C_ref06_SameRects Tryz.f39.ntmps M_ref08_Merge F 0 (cL (cB (cS (cF (cS (cS (bo Tryz.f39)))))))) (M_ref08_Merge 0 0) F 0 (st_ref08_Merge_0 t0 t5 l119) (k_ref08_Merge_0 F Post)) := by kernel_rfl
theorem loop_ref08_Merge_1 (F : Nat) (K : AEx → ASt UU → Prop) : ∀ (n r : Nat) (t0 : List Seg) (t5 : Int) (t6 : Int) (l119 : List Seg), iter (execG (inliner M_ref08_Merge F 0 C_ref06_SameRects) C_ref06_SameRects Tryz.f39.ntmps M_ref08_Merge F 2 (cL (cB (cS (cS (cB (cF (cS (cL (cB (cS (cF (cS (cS (bo Tryz.f39))))))))))))))) (M_ref08_Merge 0 2) n r (st_ref08_Merge_1 t0 t5 t6 l119) K = w_ref08_Merge_1 F  (fun t0 t5 t6 l119 => K (.exit 2) (st_ref08_Merge_1 t0 t5 t6 l119)) n t0 t5 t6 l119 := by
  intro n
  induction n with
  | zero => intros; rfl
  | succ n ih =>
    intro r t0 t5 t6 l119
    have e : (fun t0 t5 t6 l119 => iter (execG (inliner M_ref08_Merge F 0 C_ref06_SameRects) C_ref06_SameRects Tryz.f39.ntmps M_ref08_Merge F 2 (cL (cB (cS (cS (cB (cF (cS (cL (cB (cS (cF (cS (cS (bo Tryz.f39))))))))))))))) (M_ref08_Merge 0 2) n (r + 1) (st_ref08_Merge_1 t0 t5 t6 l119) K) = w_ref08_Merge_1 F  (fun t0 t5 t6 l119 => K (.exit 2) (st_ref08_Merge_1 t0 t5 t6 l119)) n := by
      funext t0 t5 t6 l119
      exact ih (r + 1) t0 t5 t6 l119
    rw [step_ref08_Merge_1, e]
    rfl
theorem nl_ref08_Merge_1 (F n r : Nat) (K : AEx → ASt UU → Prop) (t0 : List Seg) (t5 : Int) (t6 : Int) (l119 : List Seg) : iter (execG (inliner M_ref08_Merge F 0 C_ref06_SameRects) C_ref06_SameRects Tryz.f39.ntmps M_ref08_Merge F 2 (cL (cB (cS (cS (cB (cF (cS (cL (cB (cS (cF (cS (cS (bo Tryz.f39))))))))))))))) (M_ref08_Merge 0 2) F 0 (st_ref08_Merge_1 t0 t5 t6 l119) (k_ref08_Merge_1 F n r K) = n_ref08_Merge_1 F (fun t0 t5 l119 => iter (execG (inliner M_ref08_Merge F 0 C_ref06_SameRects) C_ref06_SameRects Tryz.f39.ntmps M_ref08_Merge F 0 (cL (cB (cS (cF (cS (cS (bo Tryz.f39)))))))) (M_ref08_Merge 0 0) n (r + 1) (st_ref08_Merge_0 t0 t5 l119) K) (fun t0 t5 l119 => K (.exit 0) (st_ref08_Merge_0 t0 t5 l119)) t0 t5 t6 l119 := by
  rw [loop_ref08_Merge_1]
  have h0 : (fun t0 t5 t6 l119 => k_ref08_Merge_1 F n r K (.exit 2) (st_ref08_Merge_1 t0 t5 t6 l119)) = (fun t0 t5 t6 l119 => g_ref08_Merge_c1_0 (fun t0 t5 l119 => iter (execG (inliner M_ref08_Merge F 0 C_ref06_SameRects) C_ref06_SameRects Tryz.f39.ntmps M_ref08_Merge F 0 (cL (cB (cS (cF (cS (cS (bo Tryz.f39)))))))) (M_ref08_Merge 0 0) n (r + 1) (st_ref08_Merge_0 t0 t5 l119) K) (fun t0 t5 l119 => K (.exit 0) (st_ref08_Merge_0 t0 t5 l119)) t0 t5 t6 l119) := by
    funext t0 t5 t6 l119
    rw [cont_ref08_Merge_1_0]
  rw [h0]
  rfl
theorem loop_ref08_Merge_2 (F : Nat) (K : AEx → ASt UU → Prop) : ∀ (n r : Nat) (t8 : Int) (l119 : List Seg) (l120 : List Seg), iter (execG (inliner M_ref08_Merge F 0 C_ref06_SameRects) C_ref06_SameRects Tryz.f39.ntmps M_ref08_Merge F 4 (cL (cB (cS (cF (cS (cS (cS (bo Tryz.f39))))))))) (M_ref08_Merge 0 4) n r (st_ref08_Merge_2 t8 l119 l120) K = w_ref08_Merge_2 F  (fun t8 l119 l120 => K (.exit 4) (st_ref08_Merge_2 t8 l119 l120)) n t8 l119 l120 := by
  intro n
  induction n with
  | zero => intros; rfl
  | succ n ih =>
    intro r t8 l119 l120
    have e : (fun t8 l119 l120 => iter (execG (inliner M_ref08_Merge F 0 C_ref06_SameRects) C_ref06_SameRects Tryz.f39.ntmps M_ref08_Merge F 4 (cL (cB (cS (cF (cS (cS (cS (bo Tryz.f39))))))))) (M_ref08_Merge 0 4) n (r + 1) (st_ref08_Merge_2 t8 l119 l120) K) = w_ref08_Merge_2 F  (fun t8 l119 l120 => K (.exit 4) (st_ref08_Merge_2 t8 l119 l120)) n := by
      funext t8 l119 l120
      exact ih (r + 1) t8 l119 l120
    rw [step_ref08_Merge_2, e]
    rfl
theorem nl_ref08_Merge_2 (F : Nat) (Post : AVal UU → Prop) (t8 : Int) (l119 : List Seg) (l120 : List Seg) : iter (execG (inliner M_ref08_Merge F 0 C_ref06_SameRects) C_ref06_SameRects Tryz.f39.ntmps M_ref08_Merge F 4 (cL (cB (cS (cF (cS (cS (cS (bo Tryz.f39))))))))) (M_ref08_Merge 0 4) F 0 (st_ref08_Merge_2 t8 l119 l120) (k_ref08_Merge_2 F Post) = n_ref08_Merge_2 F (fun r0 => Post (.new .seg r0)) t8 l119 l120 := by
  rw [loop_ref08_Merge_2]
  have h0 : (fun t8 l119 l120 => k_ref08_Merge_2 F Post (.exit 4) (st_ref08_Merge_2 t8 l119 l120)) = (fun t8 l119 l120 => g_ref08_Merge_c2_0 (fun r0 => Post (.new .seg r0)) t8 l119 l120) := by
    funext t8 l119 l120
    rw [cont_ref08_Merge_2_0]
  rw [h0]
  rfl
theorem loop_ref08_Merge_0 (F : Nat) (K : AEx → ASt UU → Prop) : ∀ (n r : Nat) (t0 : List Seg) (t5 : Int) (l119 : List Seg), iter (execG (inliner M_ref08_Merge F 0 C_ref06_SameRects) C_ref06_SameRects Tryz.f39.ntmps M_ref08_Merge F 0 (cL (cB (cS (cF (cS (cS (bo Tryz.f39)))))))) (M_ref08_Merge 0 0) n r (st_ref08_Merge_0 t0 t5 l119) K = w_ref08_Merge_0 F  (fun t0 t5 l119 => K (.exit 0) (st_ref08_Merge_0 t0 t5 l119)) n t0 t5 l119 := by
  intro n
  induction n with
  | zero => intros; rfl
  | succ n ih =>
    intro r t0 t5 l119
    have e : (fun t0 t5 l119 => iter (execG (inliner M_ref08_Merge F 0 C_ref06_SameRects) C_ref06_SameRects Tryz.f39.ntmps M_ref08_Merge F 0 (cL (cB (cS (cF (cS (cS (bo Tryz.f39)))))))) (M_ref08_Merge 0 0) n (r + 1) (st_ref08_Merge_0 t0 t5 l119) K) = w_ref08_Merge_0 F  (fun t0 t5 l119 => K (.exit 0) (st_ref08_Merge_0 t0 t5 l119)) n := by
      funext t0 t5 l119
      exact ih (r + 1) t0 t5 l119
    have e1 : (fun t0 t5 t6 l119 => iter (execG (inliner M_ref08_Merge F 0 C_ref06_SameRects) C_ref06_SameRects Tryz.f39.ntmps M_ref08_Merge F 2 (cL (cB (cS (cS (cB (cF (cS (cL (cB (cS (cF (cS (cS (bo Tryz.f39))))))))))))))) (M_ref08_Merge 0 2) F 0 (st_ref08_Merge_1 t0 t5 t6 l119) (k_ref08_Merge_1 F n r K)) = (n_ref08_Merge_1 F (fun t0 t5 l119 => iter (execG (inliner M_ref08_Merge F 0 C_ref06_SameRects) C_ref06_SameRects Tryz.f39.ntmps M_ref08_Merge F 0 (cL (cB (cS (cF (cS (cS (bo Tryz.f39)))))))) (M_ref08_Merge 0 0) n (r + 1) (st_ref08_Merge_0 t0 t5 l119) K) (fun t0 t5 l119 => K (.exit 0) (st_ref08_Merge_0 t0 t5 l119))) := by
      funext t0 t5 t6 l119
      exact nl_ref08_Merge_1 F n r K t0 t5 t6 l119
    rw [step_ref08_Merge_0, e1, e]
    rfl
theorem nl_ref08_Merge_0 (F : Nat) (Post : AVal UU → Prop) (t0 : List Seg) (t5 : Int) (l119 : List Seg) : iter (execG (inliner M_ref08_Merge F 0 C_ref06_SameRects) C_ref06_SameRects Tryz.f39.ntmps M_ref08_Merge F 0 (cL (cB (cS (cF (cS (cS (bo Tryz.f39)))))))) (M_ref08_Merge 0 0) F 0 (st_ref08_Merge_0 t0 t5 l119) (k_ref08_Merge_0 F Post) = n_ref08_Merge_0 F (fun r0 => Post (.new .seg r0)) t0 t5 l119 := by
  rw [loop_ref08_Merge_0]
  have e2 : (fun t8 l119 l120 => iter (execG (inliner M_ref08_Merge F 0 C_ref06_SameRects) C_ref06_SameRects Tryz.f39.ntmps M_ref08_Merge F 4 (cL (cB (cS (cF (cS (cS (cS (bo Tryz.f39))))))))) (M_ref08_Merge 0 4) F 0 (st_ref08_Merge_2 t8 l119 l120) (k_ref08_Merge_2 F Post)) = (n_ref08_Merge_2 F (fun r0 => Post (.new .seg r0))) := by
    funext t8 l119 l120
    exact nl_ref08_Merge_2 F Post t8 l119 l120
  have h0 : (fun t0 t5 l119 => k_ref08_Merge_0 F Post (.exit 0) (st_ref08_Merge_0 t0 t5 l119)) = (fun t0 t5 l119 => g_ref08_Merge_c0_0 (fun r0 => Post (.new .seg r0)) t0 t5 l119 (n_ref08_Merge_2 F (fun r0 => Post (.new .seg r0)))) := by
    funext t0 t5 l119
    rw [cont_ref08_Merge_0_0, e2]
  rw [h0]
  rfl
theorem exec_ref08_Merge (F : Nat) (Post : AVal UU → Prop) (a0 : List Seg) : exec C_ref06_SameRects Tryz.f39.ntmps M_ref08_Merge F 0 (bo Tryz.f39) (initSt [.sl .seg a0]) (AEnds C_ref06_SameRects true Tryz.f39 Post) = w_ref08_Merge F a0 (fun r0 => Post (.new .seg r0)) := by
  rw [entry_ref08_Merge]
  have e0 : (fun t0 t5 l119 => iter (execG (inliner M_ref08_Merge F 0 C_ref06_SameRects) C_ref06_SameRects Tryz.f39.ntmps M_ref08_Merge F 0 (cL (cB (cS (cF (cS (cS (bo Tryz.f39)))))))) (M_ref08_Merge 0 0) F 0 (st_ref08_Merge_0 t0 t5 l119) (k_ref08_Merge_0 F Post)) = (n_ref08_Merge_0 F (fun r0 => Post (.new .seg r0))) := by
    funext t0 t5 l119
    exact nl_ref08_Merge_0 F Post t0 t5 l119
  rw [e0]
  rfl
def m_ref08_Merge : Model UU
  | [.sl .seg a0] => some ([pre_ref08_Merge a0], .new .seg (sp_ref08_Merge a0))
  | _ => none
def C_ref08_Merge : Cfg UU := C_ref06_SameRects.add 39 m_ref08_Merge
theorem s_ref08_Merge : SumOK C_ref08_Merge := by
  refine s_ref06_SameRects.addD mixed (fn := Tryz.f39) (c := bo Tryz.f39) Tryz.func39 (by kernel_rfl) (by kernel_rfl) ?_
  intro xs cs r h hc
  unfold m_ref08_Merge at h
  split at h
  · rename_i a0
    cases h
    obtain ⟨F, hF⟩ := ok_ref08_Merge a0 hc
    refine ⟨by kernel_rfl, M_ref08_Merge, F, true, ⟨?_⟩⟩
    rw [exec_ref08_Merge]
    refine hF _ ?_
    rfl
  · cases h
def k_program_inRange_0 (F : Nat) (Post : AVal UU → Prop) : AEx → ASt UU → Prop := kBlock 0 (kSeq (inliner M_program_inRange F 0 C_ref08_Merge) C_ref08_Merge Tryz.f53.ntmps M_program_inRange F 0 (cS (cS (bo Tryz.f53))) (AEnds C_ref08_Merge false Tryz.f53 Post))
set_option maxRecDepth 100000 in
theorem step_program_inRange_0 (F n r : Nat) (K : AEx → ASt UU → Prop) (t2 : Bool) (t16 : Int) (t17 : Int) (l28 : List Int) : iter (execG (inliner M_program_inRange F 0 C_ref08_Merge) C_ref08_Merge Tryz.f53.ntmps M_program_inRange F 0 (cL (cB (cS (cF (cS (bo Tryz.f53))))))) (M_program_inRange 0 0) (n + 1) r (st_program_inRange_0 t2 t16 t17 l28) K = g_program_inRange_s0 (fun t2 t16 t17 l28 => iter (execG (inliner M_program_inRange F 0 C_ref08_Merge) C_ref08_Merge Tryz.f53.ntmps M_program_inRange F 0 (cL (cB (cS (cF (cS (bo Tryz.f53))))))) (M_program_inRange 0 0) n (r + 1) (st_program_inRange_0 t2 t16 t17 l28) K) (fun t2 t16 t17 l28 => K .ret (st_program_inRange_0 t2 t16 t17 l28)) (fun t2 t16 t17 l28 => K (.exit 0) (st_program_inRange_0 t2 t16 t17 l28)) t2 t16 t17 l28 := by kernel_rfl
set_option maxRecDepth 100000 in
theorem cont_program_inRange_0_0 (F : Nat) (Post : AVal UU → Prop) (t2 : Bool) (t16 : Int) (t17 : Int) (l28 : List Int) : k_program_inRange_0 F Post .ret (st_program_inRange_0 t2 t16 t17 l28) = g_program_inRange_c0_0 (fun r0 => Post (.bool r0)) t2 t16 t17 l28 := by kernel_rfl
set_option maxRecDepth 100000 in
theorem cont_program_inRange_0_1 (F : Nat) (Post : AVal UU → Prop) (t2 : Bool) (t16 : Int) (t17 : Int) (l28 : List Int) : k_program_inRange_0 F Post (.exit 0) (st_program_inRange_0 t2 t16 t17 l28) = g_program_inRange_c0_1 (fun r0 => Post (.bool r0)) t2 t16 t17 l28 := by kernel_rfl
set_option maxRecDepth 100000 in
theorem entry_program_inRange (F : Nat) (Post : AVal UU → Prop) (a0_Kind : Int) (a0_X : Int) (a0_Y : Int) (a0_W : Int) (a0_H : Int) (a0_N : Int) : exec C_ref08_Merge Tryz.f53.ntmps M_program_inRange F 0 (bo Tryz.f53) (initSt [.agg [.int .i64 a0_Kind, .int .i64 a0_X, .int .i64 a0_Y, .int .i64 a0_W, .int .i64 a0_H, .int .i64 a0_N]]) (AEnds C_ref08_Merge false Tryz.f53 Post) = g_program_inRange_e a0_Kind a0_X a0_Y a0_W a0_H a0_N (fun r0 => Post (.bool r0)) (fun t2 t16 t17 l28 => iter (execG (inliner M_program_inRange F 0 C_ref08_Merge) C_ref08_Merge Tryz.f53.ntmps M_program_inRange F 0 (cL (cB (cS (cF (cS (bo Tryz.f53))))))) (M_program_inRange 0 0) F 0 (st_program_inRange_0 t2 t16 t17 l28) (k_program_inRange_0 F Post)) := by kernel_rfl
theorem loop_program_inRange_0 (F : Nat) (K : AEx → ASt UU → Prop) : ∀ (n r : Nat) (t2 : Bool) (t16 : Int) (t17 : Int) (l28 : List Int), iter (execG (inliner M_program_inRange F 0 C_ref08_Merge) C_ref08_Merge Tryz.f53.ntmps M_program_inRange F 0 (cL (cB (cS (cF (cS (bo Tryz.f53))))))) (M_program_inRange 0 0) n r (st_program_inRange_0 t2 t16 t17 l28) K = w_program_inRange_0 F  (fun t2 t16 t17 l28 => K .ret (st_program_inRange_0 t2 t16 t17 l28)) (fun t2 t16 t17 l28 => K (.exit 0) (st_program_inRange_0 t2 t16 t17 l28)) n t2 t16 t17 l28 := by
  intro n
  induction n with
  | zero => intros; rfl
  | succ n ih =>
    intro r t2 t16 t17 l28
    have e : (fun t2 t16 t17 l28 => iter (execG (inliner M_program_inRange F 0 C_ref08_Merge) C_ref08_Merge Tryz.f53.ntmps M_program_inRange F 0 (cL (cB (cS (cF (cS (bo Tryz.f53))))))) (M_program_inRange 0 0) n (r + 1) (st_program_inRange_0 t2 t16 t17 l28) K) = w_program_inRange_0 F  (fun t2 t16 t17 l28 => K .ret (st_program_inRange_0 t2 t16 t17 l28)) (fun t2 t16 t17 l28 => K (.exit 0) (st_program_inRange_0 t2 t16 t17 l28)) n := by
      funext t2 t16 t17 l28
      exact ih (r + 1) t2 t16 t17 l28
    rw [step_program_inRange_0, e]
    rfl
theorem nl_program_inRange_0 (F : Nat) (Post : AVal UU → Prop) (t2 : Bool) (t16 : Int) (t17 : Int) (l28 : List Int) : iter (execG (inliner M_program_inRange F 0 C_ref08_Merge) C_ref08_Merge Tryz.f53.ntmps M_program_inRange F 0 (cL (cB (cS (cF (cS (bo Tryz.f53))))))) (M_program_inRange 0 0) F 0 (st_program_inRange_0 t2 t16 t17 l28) (k_program_inRange_0 F Post) = n_program_inRange_0 F (fun r0 => Post (.bool r0)) t2 t16 t17 l28 := by
  rw [loop_program_inRange_0]
  have h0 : (fun t2 t16 t17 l28 => k_program_inRange_0 F Post .ret (st_program_inRange_0 t2 t16 t17 l28)) = (fun t2 t16 t17 l28 => g_program_inRange_c0_0 (fun r0 => Post (.bool r0)) t2 t16 t17 l28) := by
    funext t2 t16 t17 l28
    rw [cont_program_inRange_0_0]
  have h1 : (fun t2 t16 t17 l28 => k_program_inRange_0 F Post (.exit 0) (st_program_inRange_0 t2 t16 t17 l28)) = (fun t2 t16 t17 l28 => g_program_inRange_c0_1 (fun r0 => Post (.bool r0)) t2 t16 t17 l28) := by
    funext t2 t16 t17 l28
    rw [cont_program_inRange_0_1]
  rw [h0, h1]
  rfl
theorem exec_program_inRange (F : Nat) (Post : AVal UU → Prop) (a0_Kind : Int) (a0_X : Int) (a0_Y : Int) (a0_W : Int) (a0_H : Int) (a0_N : Int) : exec C_ref08_Merge Tryz.f53.ntmps M_program_inRange F 0 (bo Tryz.f53) (initSt [.agg [.int .i64 a0_Kind, .int .i64 a0_X, .int .i64 a0_Y, .int .i64 a0_W, .int .i64 a0_H, .int .i64 a0_N]]) (AEnds C_ref08_Merge false Tryz.f53 Post) = w_program_inRange F a0_Kind a0_X a0_Y a0_W a0_H a0_N (fun r0 => Post (.bool r0)) := by
  rw [entry_program_inRange]
  have e0 : (fun t2 t16 t17 l28 => iter (execG (inliner M_program_inRange F 0 C_ref08_Merge) C_ref08_Merge Tryz.f53.ntmps M_program_inRange F 0 (cL (cB (cS (cF (cS (bo Tryz.f53))))))) (M_program_inRange 0 0) F 0 (st_program_inRange_0 t2 t16 t17 l28) (k_program_inRange_0 F Post)) = (n_program_inRange_0 F (fun r0 => Post (.bool r0))) := by
    funext t2 t16 t17 l28
    exact nl_program_inRange_0 F Post t2 t16 t17 l28
  rw [e0]
  rfl
def m_program_inRange : Model UU
  | [.agg [.int .i64 a0_Kind, .int .i64 a0_X, .int .i64 a0_Y, .int .i64 a0_W, .int .i64 a0_H, .int .i64 a0_N]] => some ([], .bool (sp_program_inRange a0_Kind a0_X a0_Y a0_W a0_H a0_N))
  | _ => none
def C_program_inRange : Cfg UU := C_ref08_Merge.add 53 m_program_inRange
theorem s_program_inRange : SumOK C_program_inRange := by
  refine s_ref08_Merge.addD mixed (fn := Tryz.f53) (c := bo Tryz.f53) Tryz.func53 (by kernel_rfl) (by kernel_rfl) ?_
  intro xs cs r h hc
  unfold m_program_inRange at h
  split at h
  · rename_i a0_Kind a0_X a0_Y a0_W a0_H a0_N
    cases h
    obtain ⟨F, hF⟩ := ok_program_inRange a0_Kind a0_X a0_Y a0_W a0_H a0_N
    refine ⟨by kernel_rfl, M_program_inRange, F, false, ⟨?_⟩⟩
    rw [exec_program_inRange]
    refine hF _ ?_
    rfl
  · cases h
end
end Go.Proofs.YteffpgliiilnjaaGreatDoor

namespace Go.Proofs.YteffpgliiilnjaaGreatDoor
open Go.Vm Go.RowKit
set_option linter.unusedVariables false
noncomputable section
set_option maxRecDepth 100000 in
theorem entry_do1 (F : Nat) (Post : AVal UU → Prop) (a_0 : Int) (a_1 : Int) (a_2 : Int) (a_3 : Int) (c_0 : Int) (c_1 : Int) (c_2 : Int) (c_3 : Int) : exec C_program_inRange Tryz.f84.ntmps M_do1 F 0 (bo Tryz.f84) (initSt [.agg [.int .i64 a_0, .int .i64 a_1, .int .i64 a_2, .int .i64 a_3], .ref [.int .i64 c_0, .int .i64 c_1, .int .i64 c_2, .int .i64 c_3] 0]) (AEnds C_program_inRange false Tryz.f84 Post) = g_do1_e a_0 a_1 a_2 a_3 c_0 c_1 c_2 c_3 (fun r0 => Post (.bool r0)) := by kernel_rfl
theorem exec_do1 (F : Nat) (Post : AVal UU → Prop) (a_0 : Int) (a_1 : Int) (a_2 : Int) (a_3 : Int) (c_0 : Int) (c_1 : Int) (c_2 : Int) (c_3 : Int) : exec C_program_inRange Tryz.f84.ntmps M_do1 F 0 (bo Tryz.f84) (initSt [.agg [.int .i64 a_0, .int .i64 a_1, .int .i64 a_2, .int .i64 a_3], .ref [.int .i64 c_0, .int .i64 c_1, .int .i64 c_2, .int .i64 c_3] 0]) (AEnds C_program_inRange false Tryz.f84 Post) = w_do1 F a_0 a_1 a_2 a_3 c_0 c_1 c_2 c_3 (fun r0 => Post (.bool r0)) := by
  rw [entry_do1]
  rfl
def m_do1 : Model UU
  | [.agg [.int .i64 a_0, .int .i64 a_1, .int .i64 a_2, .int .i64 a_3], .ref [.int .i64 c_0, .int .i64 c_1, .int .i64 c_2, .int .i64 c_3] 0] => some ([], .bool (sp_do1 a_0 a_1 a_2 a_3 c_0 c_1 c_2 c_3))
  | _ => none
def C_do1 : Cfg UU := C_program_inRange.add 84 m_do1
theorem s_do1 : SumOK C_do1 := by
  refine s_program_inRange.addD mixed (fn := Tryz.f84) (c := bo Tryz.f84) Tryz.func84 (by kernel_rfl) (by kernel_rfl) ?_
  intro xs cs r h hc
  unfold m_do1 at h
  split at h
  · rename_i a_0 a_1 a_2 a_3 c_0 c_1 c_2 c_3
    cases h
    obtain ⟨F, hF⟩ := ok_do1 a_0 a_1 a_2 a_3 c_0 c_1 c_2 c_3
    refine ⟨by kernel_rfl, M_do1, F, false, ⟨?_⟩⟩
    rw [exec_do1]
    refine hF _ ?_
    rfl
  · cases h
def k_ixf1_0 (F : Nat) (Post : AVal UU → Prop) : AEx → ASt UU → Prop := kBlock 0 (kSeq (inliner M_ixf1 F 0 C_do1) C_do1 Tryz.f44.ntmps M_ixf1 F 0 (cS (cS (bo Tryz.f44))) (AEnds C_do1 false Tryz.f44 Post))
set_option maxRecDepth 100000 in
theorem step_ixf1_0 (F n r : Nat) (K : AEx → ASt UU → Prop) (t0 : List Rect) (t1_0_0 : Int) (t1_0_1 : Int) (t1_0_2 : Int) (t1_0_3 : Int) (t4 : Int) (t7 : Int) (t8 : Int) : iter (execG (inliner M_ixf1 F 0 C_do1) C_do1 Tryz.f44.ntmps M_ixf1 F 0 (cL (cB (cS (cF (cS (bo Tryz.f44))))))) (M_ixf1 0 0) (n + 1) r (st_ixf1_0 t0 t1_0_0 t1_0_1 t1_0_2 t1_0_3 t4 t7 t8) K = g_ixf1_s0 (fun t0 t1_0_0 t1_0_1 t1_0_2 t1_0_3 t4 t7 t8 => iter (execG (inliner M_ixf1 F 0 C_do1) C_do1 Tryz.f44.ntmps M_ixf1 F 0 (cL (cB (cS (cF (cS (bo Tryz.f44))))))) (M_ixf1 0 0) n (r + 1) (st_ixf1_0 t0 t1_0_0 t1_0_1 t1_0_2 t1_0_3 t4 t7 t8) K) (fun t0 t1_0_0 t1_0_1 t1_0_2 t1_0_3 t4 t7 t8 => K .ret (st_ixf1_0 t0 t1_0_0 t1_0_1 t1_0_2 t1_0_3 t4 t7 t8)) (fun t0 t1_0_0 t1_0_1 t1_0_2 t1_0_3 t4 t7 t8 => K (.exit 0) (st_ixf1_0 t0 t1_0_0 t1_0_1 t1_0_2 t1_0_3 t4 t7 t8)) t0 t1_0_0 t1_0_1 t1_0_2 t1_0_3 t4 t7 t8 := by kernel_rfl
set_option maxRecDepth 100000 in
theorem cont_ixf1_0_0 (F : Nat) (Post : AVal UU → Prop) (t0 : List Rect) (t1_0_0 : Int) (t1_0_1 : Int) (t1_0_2 : Int) (t1_0_3 : Int) (t4 : Int) (t7 : Int) (t8 : Int) : k_ixf1_0 F Post .ret (st_ixf1_0 t0 t1_0_0 t1_0_1 t1_0_2 t1_0_3 t4 t7 t8) = g_ixf1_c0_0 (fun r0 => Post (.int .i64 r0)) t0 t1_0_0 t1_0_1 t1_0_2 t1_0_3 t4 t7 t8 := by kernel_rfl
set_option maxRecDepth 100000 in
theorem cont_ixf1_0_1 (F : Nat) (Post : AVal UU → Prop) (t0 : List Rect) (t1_0_0 : Int) (t1_0_1 : Int) (t1_0_2 : Int) (t1_0_3 : Int) (t4 : Int) (t7 : Int) (t8 : Int) : k_ixf1_0 F Post (.exit 0) (st_ixf1_0 t0 t1_0_0 t1_0_1 t1_0_2 t1_0_3 t4 t7 t8) = g_ixf1_c0_1 (fun r0 => Post (.int .i64 r0)) t0 t1_0_0 t1_0_1 t1_0_2 t1_0_3 t4 t7 t8 := by kernel_rfl
set_option maxRecDepth 100000 in
theorem entry_ixf1 (F : Nat) (Post : AVal UU → Prop) (l : List Rect) (c_0 : Int) (c_1 : Int) (c_2 : Int) (c_3 : Int) : exec C_do1 Tryz.f44.ntmps M_ixf1 F 0 (bo Tryz.f44) (initSt [.sl .rect l, .fn 84 [.ref [.int .i64 c_0, .int .i64 c_1, .int .i64 c_2, .int .i64 c_3] 0]]) (AEnds C_do1 false Tryz.f44 Post) = g_ixf1_e l c_0 c_1 c_2 c_3 (fun r0 => Post (.int .i64 r0)) (fun t0 t1_0_0 t1_0_1 t1_0_2 t1_0_3 t4 t7 t8 => iter (execG (inliner M_ixf1 F 0 C_do1) C_do1 Tryz.f44.ntmps M_ixf1 F 0 (cL (cB (cS (cF (cS (bo Tryz.f44))))))) (M_ixf1 0 0) F 0 (st_ixf1_0 t0 t1_0_0 t1_0_1 t1_0_2 t1_0_3 t4 t7 t8) (k_ixf1_0 F Post)) := by kernel_rfl
theorem loop_ixf1_0 (F : Nat) (K : AEx → ASt UU → Prop) : ∀ (n r : Nat) (t0 : List Rect) (t1_0_0 : Int) (t1_0_1 : Int) (t1_0_2 : Int) (t1_0_3 : Int) (t4 : Int) (t7 : Int) (t8 : Int), iter (execG (inliner M_ixf1 F 0 C_do1) C_do1 Tryz.f44.ntmps M_ixf1 F 0 (cL (cB (cS (cF (cS (bo Tryz.f44))))))) (M_ixf1 0 0) n r (st_ixf1_0 t0 t1_0_0 t1_0_1 t1_0_2 t1_0_3 t4 t7 t8) K = w_ixf1_0 F  (fun t0 t1_0_0 t1_0_1 t1_0_2 t1_0_3 t4 t7 t8 => K .ret (st_ixf1_0 t0 t1_0_0 t1_0_1 t1_0_2 t1_0_3 t4 t7 t8)) (fun t0 t1_0_0 t1_0_1 t1_0_2 t1_0_3 t4 t7 t8 => K (.exit 0) (st_ixf1_0 t0 t1_0_0 t1_0_1 t1_0_2 t1_0_3 t4 t7 t8)) n t0 t1_0_0 t1_0_1 t1_0_2 t1_0_3 t4 t7 t8 := by
  intro n
  induction n with
  | zero => intros; rfl
  | succ n ih =>
    intro r t0 t1_0_0 t1_0_1 t1_0_2 t1_0_3 t4 t7 t8
    have e : (fun t0 t1_0_0 t1_0_1 t1_0_2 t1_0_3 t4 t7 t8 => iter (execG (inliner M_ixf1 F 0 C_do1) C_do1 Tryz.f44.ntmps M_ixf1 F 0 (cL (cB (cS (cF (cS (bo Tryz.f44))))))) (M_ixf1 0 0) n (r + 1) (st_ixf1_0 t0 t1_0_0 t1_0_1 t1_0_2 t1_0_3 t4 t7 t8) K) = w_ixf1_0 F  (fun t0 t1_0_0 t1_0_1 t1_0_2 t1_0_3 t4 t7 t8 => K .ret (st_ixf1_0 t0 t1_0_0 t1_0_1 t1_0_2 t1_0_3 t4 t7 t8)) (fun t0 t1_0_0 t1_0_1 t1_0_2 t1_0_3 t4 t7 t8 => K (.exit 0) (st_ixf1_0 t0 t1_0_0 t1_0_1 t1_0_2 t1_0_3 t4 t7 t8)) n := by
      funext t0 t1_0_0 t1_0_1 t1_0_2 t1_0_3 t4 t7 t8
      exact ih (r + 1) t0 t1_0_0 t1_0_1 t1_0_2 t1_0_3 t4 t7 t8
    rw [step_ixf1_0, e]
    rfl
theorem nl_ixf1_0 (F : Nat) (Post : AVal UU → Prop) (t0 : List Rect) (t1_0_0 : Int) (t1_0_1 : Int) (t1_0_2 : Int) (t1_0_3 : Int) (t4 : Int) (t7 : Int) (t8 : Int) : iter (execG (inliner M_ixf1 F 0 C_do1) C_do1 Tryz.f44.ntmps M_ixf1 F 0 (cL (cB (cS (cF (cS (bo Tryz.f44))))))) (M_ixf1 0 0) F 0 (st_ixf1_0 t0 t1_0_0 t1_0_1 t1_0_2 t1_0_3 t4 t7 t8) (k_ixf1_0 F Post) = n_ixf1_0 F (fun r0 => Post (.int .i64 r0)) t0 t1_0_0 t1_0_1 t1_0_2 t1_0_3 t4 t7 t8 := by
  rw [loop_ixf1_0]
  have h0 : (fun t0 t1_0_0 t1_0_1 t1_0_2 t1_0_3 t4 t7 t8 => k_ixf1_0 F Post .ret (st_ixf1_0 t0 t1_0_0 t1_0_1 t1_0_2 t1_0_3 t4 t7 t8)) = (fun t0 t1_0_0 t1_0_1 t1_0_2 t1_0_3 t4 t7 t8 => g_ixf1_c0_0 (fun r0 => Post (.int .i64 r0)) t0 t1_0_0 t1_0_1 t1_0_2 t1_0_3 t4 t7 t8) := by
    funext t0 t1_0_0 t1_0_1 t1_0_2 t1_0_3 t4 t7 t8
    rw [cont_ixf1_0_0]
  have h1 : (fun t0 t1_0_0 t1_0_1 t1_0_2 t1_0_3 t4 t7 t8 => k_ixf1_0 F Post (.exit 0) (st_ixf1_0 t0 t1_0_0 t1_0_1 t1_0_2 t1_0_3 t4 t7 t8)) = (fun t0 t1_0_0 t1_0_1 t1_0_2 t1_0_3 t4 t7 t8 => g_ixf1_c0_1 (fun r0 => Post (.int .i64 r0)) t0 t1_0_0 t1_0_1 t1_0_2 t1_0_3 t4 t7 t8) := by
    funext t0 t1_0_0 t1_0_1 t1_0_2 t1_0_3 t4 t7 t8
    rw [cont_ixf1_0_1]
  rw [h0, h1]
  rfl
theorem exec_ixf1 (F : Nat) (Post : AVal UU → Prop) (l : List Rect) (c_0 : Int) (c_1 : Int) (c_2 : Int) (c_3 : Int) : exec C_do1 Tryz.f44.ntmps M_ixf1 F 0 (bo Tryz.f44) (initSt [.sl .rect l, .fn 84 [.ref [.int .i64 c_0, .int .i64 c_1, .int .i64 c_2, .int .i64 c_3] 0]]) (AEnds C_do1 false Tryz.f44 Post) = w_ixf1 F l c_0 c_1 c_2 c_3 (fun r0 => Post (.int .i64 r0)) := by
  rw [entry_ixf1]
  have e0 : (fun t0 t1_0_0 t1_0_1 t1_0_2 t1_0_3 t4 t7 t8 => iter (execG (inliner M_ixf1 F 0 C_do1) C_do1 Tryz.f44.ntmps M_ixf1 F 0 (cL (cB (cS (cF (cS (bo Tryz.f44))))))) (M_ixf1 0 0) F 0 (st_ixf1_0 t0 t1_0_0 t1_0_1 t1_0_2 t1_0_3 t4 t7 t8) (k_ixf1_0 F Post)) = (n_ixf1_0 F (fun r0 => Post (.int .i64 r0))) := by
    funext t0 t1_0_0 t1_0_1 t1_0_2 t1_0_3 t4 t7 t8
    exact nl_ixf1_0 F Post t0 t1_0_0 t1_0_1 t1_0_2 t1_0_3 t4 t7 t8
  rw [e0]
  rfl
def m_ixf1 : Model UU
  | [.sl .rect l, .fn 84 [.ref [.int .i64 c_0, .int .i64 c_1, .int .i64 c_2, .int .i64 c_3] 0]] => some ([pre_ixf1 l c_0 c_1 c_2 c_3], .int .i64 (sp_ixf1 l c_0 c_1 c_2 c_3))
  | _ => none
def C_ixf1 : Cfg UU := C_do1.add 44 m_ixf1
theorem s_ixf1 : SumOK C_ixf1 := by
  refine s_do1.addD mixed (fn := Tryz.f44) (c := bo Tryz.f44) Tryz.func44 (by kernel_rfl) (by kernel_rfl) ?_
  intro xs cs r h hc
  unfold m_ixf1 at h
  split at h
  · rename_i l c_0 c_1 c_2 c_3
    cases h
    obtain ⟨F, hF⟩ := ok_ixf1 l c_0 c_1 c_2 c_3 hc
    refine ⟨by kernel_rfl, M_ixf1, F, false, ⟨?_⟩⟩
    rw [exec_ixf1]
    refine hF _ ?_
    rfl
  · cases h
end
end Go.Proofs.YteffpgliiilnjaaGreatDoor

namespace Go.Proofs.YteffpgliiilnjaaGreatDoor
open Go.Vm Go.RowKit
set_option linter.unusedVariables false
noncomputable section
set_option maxRecDepth 100000 in
theorem entry_cof1 (F : Nat) (Post : AVal UU → Prop) (l : List Rect) (c_0 : Int) (c_1 : Int) (c_2 : Int) (c_3 : Int) : exec C_ixf1 Tryz.f83.ntmps M_cof1 F 0 (bo Tryz.f83) (initSt [.sl .rect l, .fn 84 [.ref [.int .i64 c_0, .int .i64 c_1, .int .i64 c_2, .int .i64 c_3] 0]]) (AEnds C_ixf1 false Tryz.f83 Post) = g_cof1_e l c_0 c_1 c_2 c_3 (fun r0 => Post (.bool r0)) := by kernel_rfl
theorem exec_cof1 (F : Nat) (Post : AVal UU → Prop) (l : List Rect) (c_0 : Int) (c_1 : Int) (c_2 : Int) (c_3 : Int) : exec C_ixf1 Tryz.f83.ntmps M_cof1 F 0 (bo Tryz.f83) (initSt [.sl .rect l, .fn 84 [.ref [.int .i64 c_0, .int .i64 c_1, .int .i64 c_2, .int .i64 c_3] 0]]) (AEnds C_ixf1 false Tryz.f83 Post) = w_cof1 F l c_0 c_1 c_2 c_3 (fun r0 => Post (.bool r0)) := by
  rw [entry_cof1]
  rfl
def m_cof1 : Model UU
  | [.sl .rect l, .fn 84 [.ref [.int .i64 c_0, .int .i64 c_1, .int .i64 c_2, .int .i64 c_3] 0]] => some ([pre_cof1 l c_0 c_1 c_2 c_3], .bool (sp_cof1 l c_0 c_1 c_2 c_3))
  | _ => none
def C_cof1 : Cfg UU := C_ixf1.add 83 m_cof1
theorem s_cof1 : SumOK C_cof1 := by
  refine s_ixf1.addD mixed (fn := Tryz.f83) (c := bo Tryz.f83) Tryz.func83 (by kernel_rfl) (by kernel_rfl) ?_
  intro xs cs r h hc
  unfold m_cof1 at h
  split at h
  · rename_i l c_0 c_1 c_2 c_3
    cases h
    obtain ⟨F, hF⟩ := ok_cof1 l c_0 c_1 c_2 c_3 hc
    refine ⟨by kernel_rfl, M_cof1, F, false, ⟨?_⟩⟩
    rw [exec_cof1]
    refine hF _ ?_
    rfl
  · cases h
end
end Go.Proofs.YteffpgliiilnjaaGreatDoor

namespace Go.Proofs.YteffpgliiilnjaaGreatDoor
open Go.Vm Go.RowKit Go.Lib
set_option linter.unusedVariables false
noncomputable section

/-- A new slice with elements that the arguments had. -/
theorem fresh_new {w0 w : World} {N : Nat → Prop} {τ : Knd} {xs : List (UU.T τ)} {v : Value} {cs : List Value} (hb : Below w0.heap.size w0 w)
    (ho : w.ownsRow w0.heap.size (UU.ety τ) (UU.size τ) v xs.length cs) (hp : ∀ a, v ≠ .pointer a)
    (hr : ∀ i (h : i < xs.length) k (hk : k < (EE.enc τ xs[i]).length), Rel EE w0 noOwn (Out' N w0) (EE.enc τ xs[i])[k] (cs.getD (i * UU.size τ + k) undef)) : Fresh EE w0.heap.size N w (.new τ xs) v := by
  have hblk : ∀ b, blk v = some b → w0.heap.size ≤ b ∧ b < w.heap.size := (ownsRow_oneCell ho hp).2
  refine ⟨fun k => if k = .ob 0 then some (0, v) else none, .osl 0 0 _ (by simp) hp, fun k x hk => ?_, fun k g u hk => ?_, fun i j g g' u u' b hi hj hne => ?_⟩
  · cases k with
    | zero =>
      have : (⟨false, τ, xs⟩ : NewRow UU) = x := by simpa [AVal.news, news2, news1] using hk
      subst this
      refine ⟨_, _, by simp, hp, ho, fun i hi k hk' => ?_⟩
      refine ((hr i hi k hk').flat (ρ' := fun k => if k = .ob 0 then some (0, v) else none) (EE.enc_flat _ _ _ (List.getElem_mem hk')).1).mono (fun b hb' => ⟨⟨?_, hb'.2, fun nm g u hnm => ?_⟩, hb.block b hb'.1⟩) (fun nm g u h => .inl h)
      · have := hb.size
        have := hb'.1
        omega
      · by_cases hnm0 : nm = .ob 0
        · subst hnm0
          simp only [if_true, Option.some.injEq, Prod.mk.injEq] at hnm
          obtain ⟨_, rfl⟩ := hnm
          intro e
          have := (hblk b e).1
          have := hb'.1
          omega
        · simp [hnm0] at hnm
    | succ k => simp [AVal.news, news2, news1] at hk
  · by_cases hk0 : k = .ob 0
    · subst hk0
      exact ⟨⟨false, τ, xs⟩, by simp [AVal.news, news2, news1, Name.id], fun _ => ⟨0, rfl⟩⟩
    · simp [hk0] at hk
  · by_cases hi0 : i = .ob 0
    · by_cases hj0 : j = .ob 0
      · exact absurd (hi0.trans hj0.symm) hne
      · simp [hj0] at hj
    · simp [hi0] at hi
theorem map_range_getD (f : Nat → Value) (n i : Nat) (h : i < n) : ((List.range n).map f).getD i undef = f i := by simp [List.getD_eq_getElem?_getD, h]

set_option maxHeartbeats 2000000 in
set_option maxRecDepth 100000 in
theorem clone87_some (b off n c : Nat) (f : Nat → Value) (w : World) (hbig : n * 32 ≤ 140737488355328) (hc : ∀ j, j < n * 4 → w.cell? ⟨b, off + j, none⟩ = some (f j)) (h1 : ∀ j, j < n * 4 → (f j).oneCell' = true) :
    Calls Tryz.prog 87 #[.slice (some ⟨b, off, none⟩) n c] w fun e w' => ∃ v', e = .returned v' ∧ w'.ownsRow w.heap.size 43 4 v' n ((List.range (n * 4)).map f) ∧ (∀ a, v' ≠ .pointer a) ∧ Below w.heap.size w w' := by
  have q26 : ∀ (w : World) (a : Option Addr) (n c n' c' : Nat), (binOp .eql 26 (.slice a n c) (.slice none n' c')).run Tryz.prog w = .ok (.bool a.isNone) w := fun w a n c n' c' => Lib.run_eql_slice_nil w _ _ a n c n' c' Tryz.underlying26
  obtain ⟨i0, hi, hz0, hz1, hz2⟩ := info_parts (P := Tryz.prog) (e := 43) (z := .agg #[.int .i64 0, .int .i64 0, .int .i64 0, .int .i64 0]) (size := 4) (bytes := 32) (by kernel_rfl)
  have A : Aside ((∀ j, j < n * 4 → w.cell? ⟨b, off + j, none⟩ = some (f j)) ∧ ∀ j, j < n * 4 → (f j).oneCell' = true) := ⟨hc, h1⟩
  clear hc h1
  go_enter Tryz.func87, Tryz.ntmps87
  go_wp2_with (at_builtin; refine wpList_append_own _ rfl _ _ 26 rfl w.heap.size 43 i0 (.agg #[.int .i64 0, .int .i64 0, .int .i64 0, .int .i64 0]) 4 32 Tryz.underlying26 hi hz0 hz1 hz2 rfl (by decide) _ _ _ rfl (World.ownsRow_made w #[] 0 (Nat.le_refl _) (Nat.zero_le _) rfl) ⟨b, off, none⟩ n c ((List.range (n * 4)).map f) rfl ?qc1 ?qc2 ?qc3 ?qc4 ?qc5 ?qc6 ?_)
  case qc1 => simp
  case qc2 =>
    intro j u hj
    have hjn : j < n * 4 := by
      have := (List.getElem?_eq_some_iff.1 hj).1
      simpa using this
    rw [Addr.add_lit]
    refine Lib.cell?_alloc_some _ ?_
    rw [A.out.1 j hjn]
    simpa [hjn] using hj
  case qc3 =>
    intro u hu
    obtain ⟨x, hx, rfl⟩ := List.mem_map.1 hu
    exact A.out.2 x (List.mem_range.1 hx)
  case qc4 => unfold maxLen; omega
  case qc5 => omega
  case qc6 => simp
  intro v' w1 hown hgrow hnil
  go_wp2
  go_ret
  refine ⟨v', rfl, by simpa using hown, ?_, ?_⟩
  · intro a e
    subst e
    rcases hown.2 with ⟨h, _⟩ | ⟨_, _, _, h, _⟩ <;> cases h
  · exact ((Below.refl _ w).alloc (Nat.le_refl _) _).grown hgrow (by simp) (by intro k hk; simp [Value.ownBlock] at hk; omega)
set_option maxHeartbeats 1000000 in
theorem clone87_nil (w : World) :
    Calls Tryz.prog 87 #[.slice none 0 0] w fun e w' => e = .returned (.slice none 0 0) ∧ w' = w := by
  have q26 : ∀ (w : World) (a : Option Addr) (n c n' c' : Nat), (binOp .eql 26 (.slice a n c) (.slice none n' c')).run Tryz.prog w = .ok (.bool a.isNone) w := fun w a n c n' c' => Lib.run_eql_slice_nil w _ _ a n c n' c' Tryz.underlying26
  go_enter Tryz.func87, Tryz.ntmps87
  go_wp2
  go_ret
  exact ⟨rfl, rfl⟩
def mClone87 : Model UU
  | [.sl .seg xs] => some ([xs.length ≤ 100000], .new .seg xs)
  | _ => none
theorem sClone87 {C : Cfg UU} (hE : C.E = EE) (hs : SumOK C) (hP : C.P = Tryz.prog) : SumOK (C.add 87 mClone87) := by
  refine hs.put ⟨fun args w => by rw [hP]; exact callFunc_run (fn := Tryz.f87) Tryz.func87 (by kernel_rfl) rfl args w, ?_⟩
  intro N w args xs cs r hinv hN hargs hm hc
  unfold mClone87 at hm
  split at hm
  · rename_i l
    cases hm
    have hc' : l.length ≤ 100000 := hc
    obtain ⟨a, rfl, ha⟩ := args1 hargs
    rw [hP]
    rw [hE] at ha ⊢
    cases ha with
    | sl0 =>
      refine (clone87_nil w).mono ?_
      rintro e w' ⟨rfl, rfl⟩
      refine ⟨_, rfl, fresh_new (cs := []) (Below.refl _ _) (World.ownsRow_nil _ _ _ _) (by intro a e; cases e) (fun i h => absurd h (by simp)), Below.refl _ _⟩
    | sl _ _ b o cap f hb hcap hc hl =>
      have hidx : ∀ j, j < l.length * 4 → ∃ i k, ∃ (hi : i < l.length) (hk : k < (EE.enc .seg l[i]).length), j = i * UU.size .seg + k := fun j hj => by
        have hi : j / 4 < l.length := by omega
        refine ⟨j / 4, j % 4, hi, by rw [EE.enc_len]; exact Nat.mod_lt _ (by decide), ?_⟩
        show j = j / 4 * 4 + j % 4
        omega
      refine (clone87_some b o l.length cap f w (by omega) hc (fun j hj => ?_)).mono ?_
      · obtain ⟨i, k, hi, hk, rfl⟩ := hidx j hj
        have hfl := EE.enc_flat _ _ _ (List.getElem_mem hk)
        exact (hl i hi k hk).oneCell hfl.2 (fun nm g u h => by cases h) (fun id g h => by rw [h] at hfl; cases hfl.1) (fun id g i off sz h => by rw [h] at hfl; cases hfl.1) (fun id i g h => by rw [h] at hfl; cases hfl.1) (fun id i g j off sz h => by rw [h] at hfl; cases hfl.1)
      · rintro e w' ⟨v', rfl, h1, h2, h3⟩
        refine ⟨_, rfl, fresh_new h3 h1 h2 (fun i hi k hk => ?_), h3⟩
        have hk' : k < 4 := by
          have := hk
          rw [EE.enc_len] at this
          exact this
        rw [show i * UU.size .seg + k = i * 4 + k from rfl, map_range_getD _ _ _ (by
          have : i * 4 + 4 ≤ l.length * 4 := by
            have := Nat.mul_le_mul_right 4 (show i + 1 ≤ l.length from hi)
            omega
          omega)]
        exact hl i hi k hk
  · cases hm

set_option maxHeartbeats 2000000 in
set_option maxRecDepth 100000 in
theorem clone33_some (b off n c : Nat) (f : Nat → Value) (w : World) (hbig : n * 32 ≤ 140737488355328) (hc : ∀ j, j < n * 4 → w.cell? ⟨b, off + j, none⟩ = some (f j)) (h1 : ∀ j, j < n * 4 → (f j).oneCell' = true) :
    Calls Tryz.prog 33 #[.slice (some ⟨b, off, none⟩) n c] w fun e w' => ∃ v', e = .returned v' ∧ w'.ownsRow w.heap.size 65 4 v' n ((List.range (n * 4)).map f) ∧ (∀ a, v' ≠ .pointer a) ∧ Below w.heap.size w w' := by
  have q26 : ∀ (w : World) (a : Option Addr) (n c n' c' : Nat), (binOp .eql 22 (.slice a n c) (.slice none n' c')).run Tryz.prog w = .ok (.bool a.isNone) w := fun w a n c n' c' => Lib.run_eql_slice_nil w _ _ a n c n' c' Tryz.underlying22
  obtain ⟨i0, hi, hz0, hz1, hz2⟩ := info_parts (P := Tryz.prog) (e := 65) (z := .agg #[.int .i64 0, .int .i64 0, .int .i64 0, .int .i64 0]) (size := 4) (bytes := 32) (by kernel_rfl)
  have A : Aside ((∀ j, j < n * 4 → w.cell? ⟨b, off + j, none⟩ = some (f j)) ∧ ∀ j, j < n * 4 → (f j).oneCell' = true) := ⟨hc, h1⟩
  clear hc h1
  go_enter Tryz.func33, Tryz.ntmps33
  go_wp2_with (at_builtin; refine wpList_append_own _ rfl _ _ 22 rfl w.heap.size 65 i0 (.agg #[.int .i64 0, .int .i64 0, .int .i64 0, .int .i64 0]) 4 32 Tryz.underlying22 hi hz0 hz1 hz2 rfl (by decide) _ _ _ rfl (World.ownsRow_made w #[] 0 (Nat.le_refl _) (Nat.zero_le _) rfl) ⟨b, off, none⟩ n c ((List.range (n * 4)).map f) rfl ?qc1 ?qc2 ?qc3 ?qc4 ?qc5 ?qc6 ?_)
  case qc1 => simp
  case qc2 =>
    intro j u hj
    have hjn : j < n * 4 := by
      have := (List.getElem?_eq_some_iff.1 hj).1
      simpa using this
    rw [Addr.add_lit]
    refine Lib.cell?_alloc_some _ ?_
    rw [A.out.1 j hjn]
    simpa [hjn] using hj
  case qc3 =>
    intro u hu
    obtain ⟨x, hx, rfl⟩ := List.mem_map.1 hu
    exact A.out.2 x (List.mem_range.1 hx)
  case qc4 => unfold maxLen; omega
  case qc5 => omega
  case qc6 => simp
  intro v' w1 hown hgrow hnil
  go_wp2
  go_ret
  refine ⟨v', rfl, by simpa using hown, ?_, ?_⟩
  · intro a e
    subst e
    rcases hown.2 with ⟨h, _⟩ | ⟨_, _, _, h, _⟩ <;> cases h
  · exact ((Below.refl _ w).alloc (Nat.le_refl _) _).grown hgrow (by simp) (by intro k hk; simp [Value.ownBlock] at hk; omega)
set_option maxHeartbeats 1000000 in
theorem clone33_nil (w : World) :
    Calls Tryz.prog 33 #[.slice none 0 0] w fun e w' => e = .returned (.slice none 0 0) ∧ w' = w := by
  have q26 : ∀ (w : World) (a : Option Addr) (n c n' c' : Nat), (binOp .eql 22 (.slice a n c) (.slice none n' c')).run Tryz.prog w = .ok (.bool a.isNone) w := fun w a n c n' c' => Lib.run_eql_slice_nil w _ _ a n c n' c' Tryz.underlying22
  go_enter Tryz.func33, Tryz.ntmps33
  go_wp2
  go_ret
  exact ⟨rfl, rfl⟩
def mClone33 : Model UU
  | [.sl .rect xs] => some ([xs.length ≤ 100000], .new .rect xs)
  | _ => none
theorem sClone33 {C : Cfg UU} (hE : C.E = EE) (hs : SumOK C) (hP : C.P = Tryz.prog) : SumOK (C.add 33 mClone33) := by
  refine hs.put ⟨fun args w => by rw [hP]; exact callFunc_run (fn := Tryz.f33) Tryz.func33 (by kernel_rfl) rfl args w, ?_⟩
  intro N w args xs cs r hinv hN hargs hm hc
  unfold mClone33 at hm
  split at hm
  · rename_i l
    cases hm
    have hc' : l.length ≤ 100000 := hc
    obtain ⟨a, rfl, ha⟩ := args1 hargs
    rw [hP]
    rw [hE] at ha ⊢
    cases ha with
    | sl0 =>
      refine (clone33_nil w).mono ?_
      rintro e w' ⟨rfl, rfl⟩
      refine ⟨_, rfl, fresh_new (cs := []) (Below.refl _ _) (World.ownsRow_nil _ _ _ _) (by intro a e; cases e) (fun i h => absurd h (by simp)), Below.refl _ _⟩
    | sl _ _ b o cap f hb hcap hc hl =>
      have hidx : ∀ j, j < l.length * 4 → ∃ i k, ∃ (hi : i < l.length) (hk : k < (EE.enc .rect l[i]).length), j = i * UU.size .rect + k := fun j hj => by
        have hi : j / 4 < l.length := by omega
        refine ⟨j / 4, j % 4, hi, by rw [EE.enc_len]; exact Nat.mod_lt _ (by decide), ?_⟩
        show j = j / 4 * 4 + j % 4
        omega
      refine (clone33_some b o l.length cap f w (by omega) hc (fun j hj => ?_)).mono ?_
      · obtain ⟨i, k, hi, hk, rfl⟩ := hidx j hj
        have hfl := EE.enc_flat _ _ _ (List.getElem_mem hk)
        exact (hl i hi k hk).oneCell hfl.2 (fun nm g u h => by cases h) (fun id g h => by rw [h] at hfl; cases hfl.1) (fun id g i off sz h => by rw [h] at hfl; cases hfl.1) (fun id i g h => by rw [h] at hfl; cases hfl.1) (fun id i g j off sz h => by rw [h] at hfl; cases hfl.1)
      · rintro e w' ⟨v', rfl, h1, h2, h3⟩
        refine ⟨_, rfl, fresh_new h3 h1 h2 (fun i hi k hk => ?_), h3⟩
        have hk' : k < 4 := by
          have := hk
          rw [EE.enc_len] at this
          exact this
        rw [show i * UU.size .rect + k = i * 4 + k from rfl, map_range_getD _ _ _ (by
          have : i * 4 + 4 ≤ l.length * 4 := by
            have := Nat.mul_le_mul_right 4 (show i + 1 ≤ l.length from hi)
            omega
          omega)]
        exact hl i hi k hk
  · cases hm
end
end Go.Proofs.YteffpgliiilnjaaGreatDoor
