/- Texts of this proof, one behind another: What pieces of code must make hold, in plain Lean; printed by gen.py. Conditions: none; de; program.FormatOps: the text of a program in a dialect. Conditions: none.; What pieces of code must make hold, in plain Lean; printed by gen.py. Conditions: none; de; The chapter's second example. Conditions: none.; What pieces of code must make hold, in plain Lean; printed by gen.py. Conditions: none; de; The law ProgramRuns, in plain words. Conditions: none.; That the code says what the printed pieces say, by the kernel; printed by gen.py. Conditio; That the code says what the printed pieces say, by the kernel; printed by gen.py. Conditio; That the code says what the printed pieces say, by the kernel; printed by gen.py. Conditio; That the code says what the printed pieces say, by the kernel; printed by gen.py. Conditio; That the code says what the printed pieces say, by the kernel; printed by gen.py. Conditio; That the code says what the printed pieces say, by the kernel; printed by gen.py. Conditio; slices.Clone of lines and of rectangles: a new slice of the same elements. Conditions: non; errors.As at a refusal, and program.code: the refusal's code. Conditions: none.; errors.As at a refusal, and program.code: the refusal's code (the walks). Conditions: none; program.orderLines: the order of lines; cmp.Or, cmp.Compare. Conditions: none.; program.orderLines: the order of lines. Conditions: none.; DERIVED: THE SHELF's CONTRACTS AT THIS DUMP, IN PLAIN WORDS (tools/lay-plain.mjs out of '. Conditions: none. -/
import Derived.Test.YteffpgliiilnjaaGreatDoorMR5
import Derived.Lib.ItoaLen
import Derived.Lib.ItoaNum
import Derived.Test.YteffpgliiilnjaaGreatDoorMR4
import Derived.WalkKit
import Derived.OwnWalk
import Derived.Lib.Walk
import Derived.Lib.SliceRun
import Derived.Deep.LoopGhost
import Derived.LaidEql
import Derived.RowKitTokens
import Derived.Deep.RegionHeld3
import Derived.Shelf.SlSortCmp.QuietGrown
import Derived.Ground.SlsfProg
import Derived.Shelf.SlSortCmp.NoneTotal
import Derived.Test.YteffpgliiilnjaaGreatDoorProg
namespace Go.Proofs.YteffpgliiilnjaaGreatDoor
open Go.Vm Go.RowKit
set_option linter.unusedVariables false
noncomputable section
/-! ### sheetmetal/program.FormatOps -/
def M_fo1 : Nat → Nat → Nat → Canon UU := fun o b r => cond (Nat.beq b 0) ⟨[4, 5, 6, 8, 9, 28, 29, 30], [6, 8, 9], [], [], []⟩ (cond (Nat.beq b 2) ⟨[4, 5, 6, 8, 9, 11, 28, 29, 30, 60, 61, 62], [6, 8, 9, 11], [], [], []⟩ (⟨[], [], [], [], []⟩))
def st_fo1_0 (t4 : ByteArray) (t5 : Int) (t28 : List Opn) (t29 : Int) (t30 : Int) (o8 : ByteArray) (c9_0 : Int) (c9_1 : Int) : ASt UU := ⟨fun u => cond (Nat.beq u 4) (.str t4) (cond (Nat.beq u 5) (.int .i64 t5) (cond (Nat.beq u 6) (.ptr 6 0) (cond (Nat.beq u 8) (.ptr 8 0) (cond (Nat.beq u 9) (.ptr 9 0) (cond (Nat.beq u 28) (.sl .op t28) (cond (Nat.beq u 29) (.int .i64 t29) (cond (Nat.beq u 30) (.int .i64 t30) (.any)))))))), fun u => cond (Nat.beq u 6) (some (.cells [.frz .W1, .fn 112 [], .fn 114 []])) (cond (Nat.beq u 8) (some (.opq .bld o8)) (cond (Nat.beq u 9) (some (.cells [.int .i64 c9_0, .int .i64 c9_1])) (none)))⟩
def st_fo1_1 (t4 : ByteArray) (t5 : Int) (t28 : List Opn) (t29 : Int) (t30 : Int) (t60 : List Int) (t61 : Int) (t62 : Int) (o8 : ByteArray) (c9_0 : Int) (c9_1 : Int) (c11_0 : Int) (c11_1 : Int) (c11_2 : Int) (c11_3 : Int) (c11_4 : Int) (c11_5 : Int) : ASt UU := ⟨fun u => cond (Nat.beq u 4) (.str t4) (cond (Nat.beq u 5) (.int .i64 t5) (cond (Nat.beq u 6) (.ptr 6 0) (cond (Nat.beq u 8) (.ptr 8 0) (cond (Nat.beq u 9) (.ptr 9 0) (cond (Nat.beq u 11) (.ptr 11 0) (cond (Nat.beq u 28) (.sl .op t28) (cond (Nat.beq u 29) (.int .i64 t29) (cond (Nat.beq u 30) (.int .i64 t30) (cond (Nat.beq u 60) (.sl .int t60) (cond (Nat.beq u 61) (.int .i64 t61) (cond (Nat.beq u 62) (.int .i64 t62) (.any)))))))))))), fun u => cond (Nat.beq u 6) (some (.cells [.frz .W1, .fn 112 [], .fn 114 []])) (cond (Nat.beq u 8) (some (.opq .bld o8)) (cond (Nat.beq u 9) (some (.cells [.int .i64 c9_0, .int .i64 c9_1])) (cond (Nat.beq u 11) (some (.cells [.int .i64 c11_0, .int .i64 c11_1, .int .i64 c11_2, .int .i64 c11_3, .int .i64 c11_4, .int .i64 c11_5])) (none))))⟩
def g_fo1_e (ops : List Opn) (Q : ByteArray → Int → Prop) (i0 : ByteArray → Int → List Opn → Int → Int → ByteArray → Int → Int → Prop) : Prop := cond (decide (4000 < (ops.length : Int))) (Q (ByteArray.mk #[]) 4) (i0 (ByteArray.mk #[]) 0 ops (ops.length : Int) 0 ByteArray.empty 0 0)
def g_fo1_s0 (rec : ByteArray → Int → List Opn → Int → Int → ByteArray → Int → Int → Prop) (x0 : ByteArray → Int → List Opn → Int → Int → ByteArray → Int → Int → Prop) (x1 : ByteArray → Int → List Opn → Int → Int → ByteArray → Int → Int → Prop) (t4 : ByteArray) (t5 : Int) (t28 : List Opn) (t29 : Int) (t30 : Int) (o8 : ByteArray) (c9_0 : Int) (c9_1 : Int) (i1 : ByteArray → Int → List Opn → Int → Int → List Int → Int → Int → ByteArray → Int → Int → Int → Int → Int → Int → Int → Int → Prop) : Prop := cond (decide (t30 < t29)) ((let e0 := (t28.getD t30.toNat default); ((0 ≤ t30 ∧ t30 < t28.length) ∧ (let r1 := (sp_program_clean e0.Kind e0.X e0.Y e0.W e0.H e0.N); (let r2 := (sp_program_inRange e0.Kind e0.X e0.Y e0.W e0.H e0.N); cond (((!(hasK [1, 2, 4, 3] e0.Kind)) || (!r1)) || (!r2)) (x0 (ByteArray.mk #[]) 16 t28 t29 t30 o8 c9_0 c9_1) (((1 ≤ (selW wl1 e0.Kind).size ∧ o8.size + (selW wl1 e0.Kind).size ≤ 140737488355328) ∧ (let r3 := (sp_program_dialects_1 e0.Kind e0.X e0.Y e0.W e0.H e0.N c9_0 c9_1); ((pre_program_dialects_1 e0.Kind e0.X e0.Y e0.W e0.H e0.N c9_0 c9_1) ∧ i1 t4 t5 t28 t29 t30 r3 (r3.length : Int) 0 (o8 ++ (selW wl1 e0.Kind)) c9_0 c9_1 e0.Kind e0.X e0.Y e0.W e0.H e0.N))))))))) (x1 t4 t5 t28 t29 t30 o8 c9_0 c9_1)
def g_fo1_c0_0 (Q : ByteArray → Int → Prop) (t4 : ByteArray) (t5 : Int) (t28 : List Opn) (t29 : Int) (t30 : Int) (o8 : ByteArray) (c9_0 : Int) (c9_1 : Int) : Prop := Q t4 t5
def g_fo1_c0_1 (Q : ByteArray → Int → Prop) (t4 : ByteArray) (t5 : Int) (t28 : List Opn) (t29 : Int) (t30 : Int) (o8 : ByteArray) (c9_0 : Int) (c9_1 : Int) : Prop := Q o8 0
def g_fo1_s1 (rec : ByteArray → Int → List Opn → Int → Int → List Int → Int → Int → ByteArray → Int → Int → Int → Int → Int → Int → Int → Int → Prop) (x0 : ByteArray → Int → List Opn → Int → Int → List Int → Int → Int → ByteArray → Int → Int → Int → Int → Int → Int → Int → Int → Prop) (t4 : ByteArray) (t5 : Int) (t28 : List Opn) (t29 : Int) (t30 : Int) (t60 : List Int) (t61 : Int) (t62 : Int) (o8 : ByteArray) (c9_0 : Int) (c9_1 : Int) (c11_0 : Int) (c11_1 : Int) (c11_2 : Int) (c11_3 : Int) (c11_4 : Int) (c11_5 : Int) : Prop := cond (decide (t62 < t61)) ((let e0 := (t60.getD t62.toNat default); ((0 ≤ t62 ∧ t62 < t60.length) ∧ (((-9223372036854775808 ≤ e0 ∧ e0 ≤ 9223372036854775807) ∧ ((((ByteArray.mk #[32]).size : Int) + (itoaB e0).size ≤ 9223372036854775807) ∧ (1 ≤ ((ByteArray.mk #[32]) ++ (itoaB e0)).size ∧ o8.size + ((ByteArray.mk #[32]) ++ (itoaB e0)).size ≤ 140737488355328))) ∧ rec t4 t5 t28 t29 t30 t60 t61 (w64 (t62 + 1)) (o8 ++ ((ByteArray.mk #[32]) ++ (itoaB e0))) c9_0 c9_1 c11_0 c11_1 c11_2 c11_3 c11_4 c11_5)))) (x0 t4 t5 t28 t29 t30 t60 t61 t62 o8 c9_0 c9_1 c11_0 c11_1 c11_2 c11_3 c11_4 c11_5)
def g_fo1_c1_0 (rec : ByteArray → Int → List Opn → Int → Int → ByteArray → Int → Int → Prop) (x0 : ByteArray → Int → List Opn → Int → Int → ByteArray → Int → Int → Prop) (x1 : ByteArray → Int → List Opn → Int → Int → ByteArray → Int → Int → Prop) (t4 : ByteArray) (t5 : Int) (t28 : List Opn) (t29 : Int) (t30 : Int) (t60 : List Int) (t61 : Int) (t62 : Int) (o8 : ByteArray) (c9_0 : Int) (c9_1 : Int) (c11_0 : Int) (c11_1 : Int) (c11_2 : Int) (c11_3 : Int) (c11_4 : Int) (c11_5 : Int) : Prop := ((1 ≤ (ByteArray.mk #[10]).size ∧ o8.size + (ByteArray.mk #[10]).size ≤ 140737488355328) ∧ (let r0 := (sp_program_after c11_0 c11_1 c11_2 c11_3 c11_4 c11_5 c9_0 c9_1); rec t4 t5 t28 t29 (w64 (t30 + 1)) (o8 ++ (ByteArray.mk #[10])) r0.1 r0.2))
def w_fo1_1 (F : Nat) (x0 : ByteArray → Int → List Opn → Int → Int → List Int → Int → Int → ByteArray → Int → Int → Int → Int → Int → Int → Int → Int → Prop) : Nat → ByteArray → Int → List Opn → Int → Int → List Int → Int → Int → ByteArray → Int → Int → Int → Int → Int → Int → Int → Int → Prop
  | 0, _, _, _, _, _, _, _, _, _, _, _, _, _, _, _, _, _ => False
  | n + 1, t4, t5, t28, t29, t30, t60, t61, t62, o8, c9_0, c9_1, c11_0, c11_1, c11_2, c11_3, c11_4, c11_5 => g_fo1_s1 (w_fo1_1 F x0 n) x0 t4 t5 t28 t29 t30 t60 t61 t62 o8 c9_0 c9_1 c11_0 c11_1 c11_2 c11_3 c11_4 c11_5
def n_fo1_1 (F : Nat) (rec : ByteArray → Int → List Opn → Int → Int → ByteArray → Int → Int → Prop) (x0 : ByteArray → Int → List Opn → Int → Int → ByteArray → Int → Int → Prop) (x1 : ByteArray → Int → List Opn → Int → Int → ByteArray → Int → Int → Prop) (t4 : ByteArray) (t5 : Int) (t28 : List Opn) (t29 : Int) (t30 : Int) (t60 : List Int) (t61 : Int) (t62 : Int) (o8 : ByteArray) (c9_0 : Int) (c9_1 : Int) (c11_0 : Int) (c11_1 : Int) (c11_2 : Int) (c11_3 : Int) (c11_4 : Int) (c11_5 : Int) : Prop := w_fo1_1 F (fun t4 t5 t28 t29 t30 t60 t61 t62 o8 c9_0 c9_1 c11_0 c11_1 c11_2 c11_3 c11_4 c11_5 => g_fo1_c1_0 rec x0 x1 t4 t5 t28 t29 t30 t60 t61 t62 o8 c9_0 c9_1 c11_0 c11_1 c11_2 c11_3 c11_4 c11_5) F t4 t5 t28 t29 t30 t60 t61 t62 o8 c9_0 c9_1 c11_0 c11_1 c11_2 c11_3 c11_4 c11_5
def w_fo1_0 (F : Nat) (x0 : ByteArray → Int → List Opn → Int → Int → ByteArray → Int → Int → Prop) (x1 : ByteArray → Int → List Opn → Int → Int → ByteArray → Int → Int → Prop) : Nat → ByteArray → Int → List Opn → Int → Int → ByteArray → Int → Int → Prop
  | 0, _, _, _, _, _, _, _, _ => False
  | n + 1, t4, t5, t28, t29, t30, o8, c9_0, c9_1 => g_fo1_s0 (w_fo1_0 F x0 x1 n) x0 x1 t4 t5 t28 t29 t30 o8 c9_0 c9_1 (n_fo1_1 F (w_fo1_0 F x0 x1 n) x0 x1)
def n_fo1_0 (F : Nat) (Q : ByteArray → Int → Prop) (t4 : ByteArray) (t5 : Int) (t28 : List Opn) (t29 : Int) (t30 : Int) (o8 : ByteArray) (c9_0 : Int) (c9_1 : Int) : Prop := w_fo1_0 F (fun t4 t5 t28 t29 t30 o8 c9_0 c9_1 => g_fo1_c0_0 Q t4 t5 t28 t29 t30 o8 c9_0 c9_1) (fun t4 t5 t28 t29 t30 o8 c9_0 c9_1 => g_fo1_c0_1 Q t4 t5 t28 t29 t30 o8 c9_0 c9_1) F t4 t5 t28 t29 t30 o8 c9_0 c9_1
def w_fo1 (F : Nat) (ops : List Opn) (Q : ByteArray → Int → Prop) : Prop := g_fo1_e ops Q (n_fo1_0 F Q)
/-! ### sheetmetal/program.FormatOps -/
def M_fo2 : Nat → Nat → Nat → Canon UU := fun o b r => cond (Nat.beq b 0) ⟨[4, 5, 6, 8, 9, 28, 29, 30], [6, 8, 9], [], [], []⟩ (cond (Nat.beq b 2) ⟨[4, 5, 6, 8, 9, 11, 28, 29, 30, 60, 61, 62], [6, 8, 9, 11], [], [], []⟩ (⟨[], [], [], [], []⟩))
def st_fo2_0 (t4 : ByteArray) (t5 : Int) (t28 : List Opn) (t29 : Int) (t30 : Int) (o8 : ByteArray) (c9_0 : Int) (c9_1 : Int) : ASt UU := ⟨fun u => cond (Nat.beq u 4) (.str t4) (cond (Nat.beq u 5) (.int .i64 t5) (cond (Nat.beq u 6) (.ptr 6 0) (cond (Nat.beq u 8) (.ptr 8 0) (cond (Nat.beq u 9) (.ptr 9 0) (cond (Nat.beq u 28) (.sl .op t28) (cond (Nat.beq u 29) (.int .i64 t29) (cond (Nat.beq u 30) (.int .i64 t30) (.any)))))))), fun u => cond (Nat.beq u 6) (some (.cells [.frz .W2, .fn 113 [], .fn 115 []])) (cond (Nat.beq u 8) (some (.opq .bld o8)) (cond (Nat.beq u 9) (some (.cells [.int .i64 c9_0, .int .i64 c9_1])) (none)))⟩
def st_fo2_1 (t4 : ByteArray) (t5 : Int) (t28 : List Opn) (t29 : Int) (t30 : Int) (t60 : List Int) (t61 : Int) (t62 : Int) (o8 : ByteArray) (c9_0 : Int) (c9_1 : Int) (c11_0 : Int) (c11_1 : Int) (c11_2 : Int) (c11_3 : Int) (c11_4 : Int) (c11_5 : Int) : ASt UU := ⟨fun u => cond (Nat.beq u 4) (.str t4) (cond (Nat.beq u 5) (.int .i64 t5) (cond (Nat.beq u 6) (.ptr 6 0) (cond (Nat.beq u 8) (.ptr 8 0) (cond (Nat.beq u 9) (.ptr 9 0) (cond (Nat.beq u 11) (.ptr 11 0) (cond (Nat.beq u 28) (.sl .op t28) (cond (Nat.beq u 29) (.int .i64 t29) (cond (Nat.beq u 30) (.int .i64 t30) (cond (Nat.beq u 60) (.sl .int t60) (cond (Nat.beq u 61) (.int .i64 t61) (cond (Nat.beq u 62) (.int .i64 t62) (.any)))))))))))), fun u => cond (Nat.beq u 6) (some (.cells [.frz .W2, .fn 113 [], .fn 115 []])) (cond (Nat.beq u 8) (some (.opq .bld o8)) (cond (Nat.beq u 9) (some (.cells [.int .i64 c9_0, .int .i64 c9_1])) (cond (Nat.beq u 11) (some (.cells [.int .i64 c11_0, .int .i64 c11_1, .int .i64 c11_2, .int .i64 c11_3, .int .i64 c11_4, .int .i64 c11_5])) (none))))⟩
def g_fo2_e (ops : List Opn) (Q : ByteArray → Int → Prop) (i0 : ByteArray → Int → List Opn → Int → Int → ByteArray → Int → Int → Prop) : Prop := cond (decide (4000 < (ops.length : Int))) (Q (ByteArray.mk #[]) 4) (i0 (ByteArray.mk #[]) 0 ops (ops.length : Int) 0 ByteArray.empty 0 0)
def g_fo2_s0 (rec : ByteArray → Int → List Opn → Int → Int → ByteArray → Int → Int → Prop) (x0 : ByteArray → Int → List Opn → Int → Int → ByteArray → Int → Int → Prop) (x1 : ByteArray → Int → List Opn → Int → Int → ByteArray → Int → Int → Prop) (t4 : ByteArray) (t5 : Int) (t28 : List Opn) (t29 : Int) (t30 : Int) (o8 : ByteArray) (c9_0 : Int) (c9_1 : Int) (i1 : ByteArray → Int → List Opn → Int → Int → List Int → Int → Int → ByteArray → Int → Int → Int → Int → Int → Int → Int → Int → Prop) : Prop := cond (decide (t30 < t29)) ((let e0 := (t28.getD t30.toNat default); ((0 ≤ t30 ∧ t30 < t28.length) ∧ (let r1 := (sp_program_clean e0.Kind e0.X e0.Y e0.W e0.H e0.N); (let r2 := (sp_program_inRange e0.Kind e0.X e0.Y e0.W e0.H e0.N); cond (((!(hasK [1, 2, 4, 3] e0.Kind)) || (!r1)) || (!r2)) (x0 (ByteArray.mk #[]) 16 t28 t29 t30 o8 c9_0 c9_1) (((1 ≤ (selW wl2 e0.Kind).size ∧ o8.size + (selW wl2 e0.Kind).size ≤ 140737488355328) ∧ (let r3 := (sp_program_placed e0.Kind e0.X e0.Y e0.W e0.H e0.N c9_0 c9_1); ((pre_program_placed e0.Kind e0.X e0.Y e0.W e0.H e0.N c9_0 c9_1) ∧ i1 t4 t5 t28 t29 t30 r3 (r3.length : Int) 0 (o8 ++ (selW wl2 e0.Kind)) c9_0 c9_1 e0.Kind e0.X e0.Y e0.W e0.H e0.N))))))))) (x1 t4 t5 t28 t29 t30 o8 c9_0 c9_1)
def g_fo2_c0_0 (Q : ByteArray → Int → Prop) (t4 : ByteArray) (t5 : Int) (t28 : List Opn) (t29 : Int) (t30 : Int) (o8 : ByteArray) (c9_0 : Int) (c9_1 : Int) : Prop := Q t4 t5
def g_fo2_c0_1 (Q : ByteArray → Int → Prop) (t4 : ByteArray) (t5 : Int) (t28 : List Opn) (t29 : Int) (t30 : Int) (o8 : ByteArray) (c9_0 : Int) (c9_1 : Int) : Prop := Q o8 0
def g_fo2_s1 (rec : ByteArray → Int → List Opn → Int → Int → List Int → Int → Int → ByteArray → Int → Int → Int → Int → Int → Int → Int → Int → Prop) (x0 : ByteArray → Int → List Opn → Int → Int → List Int → Int → Int → ByteArray → Int → Int → Int → Int → Int → Int → Int → Int → Prop) (t4 : ByteArray) (t5 : Int) (t28 : List Opn) (t29 : Int) (t30 : Int) (t60 : List Int) (t61 : Int) (t62 : Int) (o8 : ByteArray) (c9_0 : Int) (c9_1 : Int) (c11_0 : Int) (c11_1 : Int) (c11_2 : Int) (c11_3 : Int) (c11_4 : Int) (c11_5 : Int) : Prop := cond (decide (t62 < t61)) ((let e0 := (t60.getD t62.toNat default); ((0 ≤ t62 ∧ t62 < t60.length) ∧ (((-9223372036854775808 ≤ e0 ∧ e0 ≤ 9223372036854775807) ∧ ((((ByteArray.mk #[32]).size : Int) + (itoaB e0).size ≤ 9223372036854775807) ∧ (1 ≤ ((ByteArray.mk #[32]) ++ (itoaB e0)).size ∧ o8.size + ((ByteArray.mk #[32]) ++ (itoaB e0)).size ≤ 140737488355328))) ∧ rec t4 t5 t28 t29 t30 t60 t61 (w64 (t62 + 1)) (o8 ++ ((ByteArray.mk #[32]) ++ (itoaB e0))) c9_0 c9_1 c11_0 c11_1 c11_2 c11_3 c11_4 c11_5)))) (x0 t4 t5 t28 t29 t30 t60 t61 t62 o8 c9_0 c9_1 c11_0 c11_1 c11_2 c11_3 c11_4 c11_5)
def g_fo2_c1_0 (rec : ByteArray → Int → List Opn → Int → Int → ByteArray → Int → Int → Prop) (x0 : ByteArray → Int → List Opn → Int → Int → ByteArray → Int → Int → Prop) (x1 : ByteArray → Int → List Opn → Int → Int → ByteArray → Int → Int → Prop) (t4 : ByteArray) (t5 : Int) (t28 : List Opn) (t29 : Int) (t30 : Int) (t60 : List Int) (t61 : Int) (t62 : Int) (o8 : ByteArray) (c9_0 : Int) (c9_1 : Int) (c11_0 : Int) (c11_1 : Int) (c11_2 : Int) (c11_3 : Int) (c11_4 : Int) (c11_5 : Int) : Prop := ((1 ≤ (ByteArray.mk #[10]).size ∧ o8.size + (ByteArray.mk #[10]).size ≤ 140737488355328) ∧ (let r0 := (sp_program_after c11_0 c11_1 c11_2 c11_3 c11_4 c11_5 c9_0 c9_1); rec t4 t5 t28 t29 (w64 (t30 + 1)) (o8 ++ (ByteArray.mk #[10])) r0.1 r0.2))
def w_fo2_1 (F : Nat) (x0 : ByteArray → Int → List Opn → Int → Int → List Int → Int → Int → ByteArray → Int → Int → Int → Int → Int → Int → Int → Int → Prop) : Nat → ByteArray → Int → List Opn → Int → Int → List Int → Int → Int → ByteArray → Int → Int → Int → Int → Int → Int → Int → Int → Prop
  | 0, _, _, _, _, _, _, _, _, _, _, _, _, _, _, _, _, _ => False
  | n + 1, t4, t5, t28, t29, t30, t60, t61, t62, o8, c9_0, c9_1, c11_0, c11_1, c11_2, c11_3, c11_4, c11_5 => g_fo2_s1 (w_fo2_1 F x0 n) x0 t4 t5 t28 t29 t30 t60 t61 t62 o8 c9_0 c9_1 c11_0 c11_1 c11_2 c11_3 c11_4 c11_5
def n_fo2_1 (F : Nat) (rec : ByteArray → Int → List Opn → Int → Int → ByteArray → Int → Int → Prop) (x0 : ByteArray → Int → List Opn → Int → Int → ByteArray → Int → Int → Prop) (x1 : ByteArray → Int → List Opn → Int → Int → ByteArray → Int → Int → Prop) (t4 : ByteArray) (t5 : Int) (t28 : List Opn) (t29 : Int) (t30 : Int) (t60 : List Int) (t61 : Int) (t62 : Int) (o8 : ByteArray) (c9_0 : Int) (c9_1 : Int) (c11_0 : Int) (c11_1 : Int) (c11_2 : Int) (c11_3 : Int) (c11_4 : Int) (c11_5 : Int) : Prop := w_fo2_1 F (fun t4 t5 t28 t29 t30 t60 t61 t62 o8 c9_0 c9_1 c11_0 c11_1 c11_2 c11_3 c11_4 c11_5 => g_fo2_c1_0 rec x0 x1 t4 t5 t28 t29 t30 t60 t61 t62 o8 c9_0 c9_1 c11_0 c11_1 c11_2 c11_3 c11_4 c11_5) F t4 t5 t28 t29 t30 t60 t61 t62 o8 c9_0 c9_1 c11_0 c11_1 c11_2 c11_3 c11_4 c11_5
def w_fo2_0 (F : Nat) (x0 : ByteArray → Int → List Opn → Int → Int → ByteArray → Int → Int → Prop) (x1 : ByteArray → Int → List Opn → Int → Int → ByteArray → Int → Int → Prop) : Nat → ByteArray → Int → List Opn → Int → Int → ByteArray → Int → Int → Prop
  | 0, _, _, _, _, _, _, _, _ => False
  | n + 1, t4, t5, t28, t29, t30, o8, c9_0, c9_1 => g_fo2_s0 (w_fo2_0 F x0 x1 n) x0 x1 t4 t5 t28 t29 t30 o8 c9_0 c9_1 (n_fo2_1 F (w_fo2_0 F x0 x1 n) x0 x1)
def n_fo2_0 (F : Nat) (Q : ByteArray → Int → Prop) (t4 : ByteArray) (t5 : Int) (t28 : List Opn) (t29 : Int) (t30 : Int) (o8 : ByteArray) (c9_0 : Int) (c9_1 : Int) : Prop := w_fo2_0 F (fun t4 t5 t28 t29 t30 o8 c9_0 c9_1 => g_fo2_c0_0 Q t4 t5 t28 t29 t30 o8 c9_0 c9_1) (fun t4 t5 t28 t29 t30 o8 c9_0 c9_1 => g_fo2_c0_1 Q t4 t5 t28 t29 t30 o8 c9_0 c9_1) F t4 t5 t28 t29 t30 o8 c9_0 c9_1
def w_fo2 (F : Nat) (ops : List Opn) (Q : ByteArray → Int → Prop) : Prop := g_fo2_e ops Q (n_fo2_0 F Q)
/-! ### sheetmetal/program.FormatOps -/
def M_fo3 : Nat → Nat → Nat → Canon UU := fun o b r => cond (Nat.beq b 0) ⟨[4, 5, 6, 8, 9, 28, 29, 30], [6, 8, 9], [], [], []⟩ (cond (Nat.beq b 2) ⟨[4, 5, 6, 8, 9, 11, 28, 29, 30, 60, 61, 62], [6, 8, 9, 11], [], [], []⟩ (⟨[], [], [], [], []⟩))
def st_fo3_0 (t4 : ByteArray) (t5 : Int) (t28 : List Opn) (t29 : Int) (t30 : Int) (o8 : ByteArray) (c9_0 : Int) (c9_1 : Int) : ASt UU := ⟨fun u => cond (Nat.beq u 4) (.str t4) (cond (Nat.beq u 5) (.int .i64 t5) (cond (Nat.beq u 6) (.ptr 6 0) (cond (Nat.beq u 8) (.ptr 8 0) (cond (Nat.beq u 9) (.ptr 9 0) (cond (Nat.beq u 28) (.sl .op t28) (cond (Nat.beq u 29) (.int .i64 t29) (cond (Nat.beq u 30) (.int .i64 t30) (.any)))))))), fun u => cond (Nat.beq u 6) (some (.cells [.frz .W3, .fn 116 [], .fn 117 []])) (cond (Nat.beq u 8) (some (.opq .bld o8)) (cond (Nat.beq u 9) (some (.cells [.int .i64 c9_0, .int .i64 c9_1])) (none)))⟩
def st_fo3_1 (t4 : ByteArray) (t5 : Int) (t28 : List Opn) (t29 : Int) (t30 : Int) (t60 : List Int) (t61 : Int) (t62 : Int) (o8 : ByteArray) (c9_0 : Int) (c9_1 : Int) (c11_0 : Int) (c11_1 : Int) (c11_2 : Int) (c11_3 : Int) (c11_4 : Int) (c11_5 : Int) : ASt UU := ⟨fun u => cond (Nat.beq u 4) (.str t4) (cond (Nat.beq u 5) (.int .i64 t5) (cond (Nat.beq u 6) (.ptr 6 0) (cond (Nat.beq u 8) (.ptr 8 0) (cond (Nat.beq u 9) (.ptr 9 0) (cond (Nat.beq u 11) (.ptr 11 0) (cond (Nat.beq u 28) (.sl .op t28) (cond (Nat.beq u 29) (.int .i64 t29) (cond (Nat.beq u 30) (.int .i64 t30) (cond (Nat.beq u 60) (.sl .int t60) (cond (Nat.beq u 61) (.int .i64 t61) (cond (Nat.beq u 62) (.int .i64 t62) (.any)))))))))))), fun u => cond (Nat.beq u 6) (some (.cells [.frz .W3, .fn 116 [], .fn 117 []])) (cond (Nat.beq u 8) (some (.opq .bld o8)) (cond (Nat.beq u 9) (some (.cells [.int .i64 c9_0, .int .i64 c9_1])) (cond (Nat.beq u 11) (some (.cells [.int .i64 c11_0, .int .i64 c11_1, .int .i64 c11_2, .int .i64 c11_3, .int .i64 c11_4, .int .i64 c11_5])) (none))))⟩
def g_fo3_e (ops : List Opn) (Q : ByteArray → Int → Prop) (i0 : ByteArray → Int → List Opn → Int → Int → ByteArray → Int → Int → Prop) : Prop := cond (decide (4000 < (ops.length : Int))) (Q (ByteArray.mk #[]) 4) (i0 (ByteArray.mk #[]) 0 ops (ops.length : Int) 0 ByteArray.empty 0 0)
def g_fo3_s0 (rec : ByteArray → Int → List Opn → Int → Int → ByteArray → Int → Int → Prop) (x0 : ByteArray → Int → List Opn → Int → Int → ByteArray → Int → Int → Prop) (x1 : ByteArray → Int → List Opn → Int → Int → ByteArray → Int → Int → Prop) (t4 : ByteArray) (t5 : Int) (t28 : List Opn) (t29 : Int) (t30 : Int) (o8 : ByteArray) (c9_0 : Int) (c9_1 : Int) (i1 : ByteArray → Int → List Opn → Int → Int → List Int → Int → Int → ByteArray → Int → Int → Int → Int → Int → Int → Int → Int → Prop) : Prop := cond (decide (t30 < t29)) ((let e0 := (t28.getD t30.toNat default); ((0 ≤ t30 ∧ t30 < t28.length) ∧ (let r1 := (sp_program_clean e0.Kind e0.X e0.Y e0.W e0.H e0.N); (let r2 := (sp_program_inRange e0.Kind e0.X e0.Y e0.W e0.H e0.N); cond (((!(hasK [5, 6] e0.Kind)) || (!r1)) || (!r2)) (x0 (ByteArray.mk #[]) 16 t28 t29 t30 o8 c9_0 c9_1) (((1 ≤ (selW wl3 e0.Kind).size ∧ o8.size + (selW wl3 e0.Kind).size ≤ 140737488355328) ∧ (let r3 := (sp_program_pressed e0.Kind e0.X e0.Y e0.W e0.H e0.N c9_0 c9_1); i1 t4 t5 t28 t29 t30 r3 (r3.length : Int) 0 (o8 ++ (selW wl3 e0.Kind)) c9_0 c9_1 e0.Kind e0.X e0.Y e0.W e0.H e0.N)))))))) (x1 t4 t5 t28 t29 t30 o8 c9_0 c9_1)
def g_fo3_c0_0 (Q : ByteArray → Int → Prop) (t4 : ByteArray) (t5 : Int) (t28 : List Opn) (t29 : Int) (t30 : Int) (o8 : ByteArray) (c9_0 : Int) (c9_1 : Int) : Prop := Q t4 t5
def g_fo3_c0_1 (Q : ByteArray → Int → Prop) (t4 : ByteArray) (t5 : Int) (t28 : List Opn) (t29 : Int) (t30 : Int) (o8 : ByteArray) (c9_0 : Int) (c9_1 : Int) : Prop := Q o8 0
def g_fo3_s1 (rec : ByteArray → Int → List Opn → Int → Int → List Int → Int → Int → ByteArray → Int → Int → Int → Int → Int → Int → Int → Int → Prop) (x0 : ByteArray → Int → List Opn → Int → Int → List Int → Int → Int → ByteArray → Int → Int → Int → Int → Int → Int → Int → Int → Prop) (t4 : ByteArray) (t5 : Int) (t28 : List Opn) (t29 : Int) (t30 : Int) (t60 : List Int) (t61 : Int) (t62 : Int) (o8 : ByteArray) (c9_0 : Int) (c9_1 : Int) (c11_0 : Int) (c11_1 : Int) (c11_2 : Int) (c11_3 : Int) (c11_4 : Int) (c11_5 : Int) : Prop := cond (decide (t62 < t61)) ((let e0 := (t60.getD t62.toNat default); ((0 ≤ t62 ∧ t62 < t60.length) ∧ (((-9223372036854775808 ≤ e0 ∧ e0 ≤ 9223372036854775807) ∧ ((((ByteArray.mk #[32]).size : Int) + (itoaB e0).size ≤ 9223372036854775807) ∧ (1 ≤ ((ByteArray.mk #[32]) ++ (itoaB e0)).size ∧ o8.size + ((ByteArray.mk #[32]) ++ (itoaB e0)).size ≤ 140737488355328))) ∧ rec t4 t5 t28 t29 t30 t60 t61 (w64 (t62 + 1)) (o8 ++ ((ByteArray.mk #[32]) ++ (itoaB e0))) c9_0 c9_1 c11_0 c11_1 c11_2 c11_3 c11_4 c11_5)))) (x0 t4 t5 t28 t29 t30 t60 t61 t62 o8 c9_0 c9_1 c11_0 c11_1 c11_2 c11_3 c11_4 c11_5)
def g_fo3_c1_0 (rec : ByteArray → Int → List Opn → Int → Int → ByteArray → Int → Int → Prop) (x0 : ByteArray → Int → List Opn → Int → Int → ByteArray → Int → Int → Prop) (x1 : ByteArray → Int → List Opn → Int → Int → ByteArray → Int → Int → Prop) (t4 : ByteArray) (t5 : Int) (t28 : List Opn) (t29 : Int) (t30 : Int) (t60 : List Int) (t61 : Int) (t62 : Int) (o8 : ByteArray) (c9_0 : Int) (c9_1 : Int) (c11_0 : Int) (c11_1 : Int) (c11_2 : Int) (c11_3 : Int) (c11_4 : Int) (c11_5 : Int) : Prop := ((1 ≤ (ByteArray.mk #[10]).size ∧ o8.size + (ByteArray.mk #[10]).size ≤ 140737488355328) ∧ (let r0 := (sp_program_after c11_0 c11_1 c11_2 c11_3 c11_4 c11_5 c9_0 c9_1); rec t4 t5 t28 t29 (w64 (t30 + 1)) (o8 ++ (ByteArray.mk #[10])) r0.1 r0.2))
def w_fo3_1 (F : Nat) (x0 : ByteArray → Int → List Opn → Int → Int → List Int → Int → Int → ByteArray → Int → Int → Int → Int → Int → Int → Int → Int → Prop) : Nat → ByteArray → Int → List Opn → Int → Int → List Int → Int → Int → ByteArray → Int → Int → Int → Int → Int → Int → Int → Int → Prop
  | 0, _, _, _, _, _, _, _, _, _, _, _, _, _, _, _, _, _ => False
  | n + 1, t4, t5, t28, t29, t30, t60, t61, t62, o8, c9_0, c9_1, c11_0, c11_1, c11_2, c11_3, c11_4, c11_5 => g_fo3_s1 (w_fo3_1 F x0 n) x0 t4 t5 t28 t29 t30 t60 t61 t62 o8 c9_0 c9_1 c11_0 c11_1 c11_2 c11_3 c11_4 c11_5
def n_fo3_1 (F : Nat) (rec : ByteArray → Int → List Opn → Int → Int → ByteArray → Int → Int → Prop) (x0 : ByteArray → Int → List Opn → Int → Int → ByteArray → Int → Int → Prop) (x1 : ByteArray → Int → List Opn → Int → Int → ByteArray → Int → Int → Prop) (t4 : ByteArray) (t5 : Int) (t28 : List Opn) (t29 : Int) (t30 : Int) (t60 : List Int) (t61 : Int) (t62 : Int) (o8 : ByteArray) (c9_0 : Int) (c9_1 : Int) (c11_0 : Int) (c11_1 : Int) (c11_2 : Int) (c11_3 : Int) (c11_4 : Int) (c11_5 : Int) : Prop := w_fo3_1 F (fun t4 t5 t28 t29 t30 t60 t61 t62 o8 c9_0 c9_1 c11_0 c11_1 c11_2 c11_3 c11_4 c11_5 => g_fo3_c1_0 rec x0 x1 t4 t5 t28 t29 t30 t60 t61 t62 o8 c9_0 c9_1 c11_0 c11_1 c11_2 c11_3 c11_4 c11_5) F t4 t5 t28 t29 t30 t60 t61 t62 o8 c9_0 c9_1 c11_0 c11_1 c11_2 c11_3 c11_4 c11_5
def w_fo3_0 (F : Nat) (x0 : ByteArray → Int → List Opn → Int → Int → ByteArray → Int → Int → Prop) (x1 : ByteArray → Int → List Opn → Int → Int → ByteArray → Int → Int → Prop) : Nat → ByteArray → Int → List Opn → Int → Int → ByteArray → Int → Int → Prop
  | 0, _, _, _, _, _, _, _, _ => False
  | n + 1, t4, t5, t28, t29, t30, o8, c9_0, c9_1 => g_fo3_s0 (w_fo3_0 F x0 x1 n) x0 x1 t4 t5 t28 t29 t30 o8 c9_0 c9_1 (n_fo3_1 F (w_fo3_0 F x0 x1 n) x0 x1)
def n_fo3_0 (F : Nat) (Q : ByteArray → Int → Prop) (t4 : ByteArray) (t5 : Int) (t28 : List Opn) (t29 : Int) (t30 : Int) (o8 : ByteArray) (c9_0 : Int) (c9_1 : Int) : Prop := w_fo3_0 F (fun t4 t5 t28 t29 t30 o8 c9_0 c9_1 => g_fo3_c0_0 Q t4 t5 t28 t29 t30 o8 c9_0 c9_1) (fun t4 t5 t28 t29 t30 o8 c9_0 c9_1 => g_fo3_c0_1 Q t4 t5 t28 t29 t30 o8 c9_0 c9_1) F t4 t5 t28 t29 t30 o8 c9_0 c9_1
def w_fo3 (F : Nat) (ops : List Opn) (Q : ByteArray → Int → Prop) : Prop := g_fo3_e ops Q (n_fo3_0 F Q)
/-! ### sheetmetal/program.FormatOps -/
def M_fo4 : Nat → Nat → Nat → Canon UU := fun o b r => ⟨[], [], [], [], []⟩
def g_fo4_e (m : Nat) (ops : List Opn) (Q : ByteArray → Int → Prop) : Prop := Q (ByteArray.mk #[]) 1
def w_fo4 (F : Nat) (m : Nat) (ops : List Opn) (Q : ByteArray → Int → Prop) : Prop := g_fo4_e m ops Q
/-! ### sheetmetal/program.FormatOps -/
def M_fo0 : Nat → Nat → Nat → Canon UU := fun o b r => ⟨[], [], [], [], []⟩
def g_fo0_e (ops : List Opn) (Q : ByteArray → Int → Prop) : Prop := Q (ByteArray.mk #[]) 1
def w_fo0 (F : Nat) (ops : List Opn) (Q : ByteArray → Int → Prop) : Prop := g_fo0_e ops Q
/-! ### sheetmetal/program.FormatOps -/
def M_fo5 : Nat → Nat → Nat → Canon UU := fun o b r => ⟨[], [], [], [], []⟩
def g_fo5_e (m : Nat) (ops : List Opn) (Q : ByteArray → Int → Prop) : Prop := Q (ByteArray.mk #[]) 1
def w_fo5 (F : Nat) (m : Nat) (ops : List Opn) (Q : ByteArray → Int → Prop) : Prop := g_fo5_e m ops Q
end
end Go.Proofs.YteffpgliiilnjaaGreatDoor

namespace Go.Proofs.YteffpgliiilnjaaGreatDoor
open Go.Vm Go.RowKit
set_option linter.unusedVariables false
noncomputable section

def bSpc : ByteArray := ByteArray.mk #[32]
def bNew : ByteArray := ByteArray.mk #[10]
def wnum (b : ByteArray) (n : Int) : ByteArray := b ++ (ByteArray.mk #[32] ++ itoaB n)
def cleanO (o : Opn) : Bool := sp_program_clean o.Kind o.X o.Y o.W o.H o.N
def rangeO (o : Opn) : Bool := sp_program_inRange o.Kind o.X o.Y o.W o.H o.N
def afterO (o : Opn) (x y : Int) : Int × Int := sp_program_after o.Kind o.X o.Y o.W o.H o.N x y
def badO (ks : List Int) (o : Opn) : Bool := ((!(hasK ks o.Kind)) || (!(cleanO o))) || (!(rangeO o))
/-- The text of operations behind a text, seen from a place; 16 if one of them is refused. -/
def fmtF (ks : List Int) (wl : List (Int × ByteArray)) (wr : Opn → Int → Int → List Int) : List Opn → ByteArray → Int → Int → ByteArray × Int
  | [], b, _, _ => (b, 0)
  | o :: l, b, x, y => bif badO ks o then (ByteArray.mk #[], 16) else fmtF ks wl wr l ((wr o x y).foldl wnum (b ++ selW wl o.Kind) ++ ByteArray.mk #[10]) (afterO o x y).1 (afterO o x y).2
def i64r (n : Int) : Prop := -9223372036854775808 ≤ n ∧ n ≤ 9223372036854775807
theorem itoaB_size {n : Int} (h : i64r n) : (itoaB n).size ≤ 21 := by
  have := Lib.itoa_length_le n h.1 h.2
  unfold itoaB
  show (Lib.itoa n).toArray.size ≤ 21
  simpa using this
theorem sp_size (n : Int) : ((ByteArray.mk #[32]) ++ itoaB n).size = 1 + (itoaB n).size := by
  rw [ByteArray.size_append]
  rfl
theorem fo_inner (l : List Int) (hl4 : l.length ≤ 1000) (hr : ∀ n ∈ l, i64r n) (V : Nat → Int → ByteArray → Prop) (X : Int → ByteArray → Prop)
    (hs : ∀ n i b, V (n + 1) i b = cond (decide (i < (l.length : Int))) ((0 ≤ i ∧ i < l.length) ∧ (((-9223372036854775808 ≤ l.getD i.toNat default ∧ l.getD i.toNat default ≤ 9223372036854775807) ∧ ((((ByteArray.mk #[32]).size : Int) + (itoaB (l.getD i.toNat default)).size ≤ 9223372036854775807) ∧ (1 ≤ ((ByteArray.mk #[32]) ++ (itoaB (l.getD i.toNat default))).size ∧ b.size + ((ByteArray.mk #[32]) ++ (itoaB (l.getD i.toNat default))).size ≤ 140737488355328))) ∧ V n (w64 (i + 1)) (b ++ ((ByteArray.mk #[32]) ++ (itoaB (l.getD i.toNat default)))))) (X i b)) :
    ∀ (n i : Nat) (b : ByteArray), i ≤ l.length → l.length < n + i → b.size ≤ 2000000 + 100 * i → X l.length ((l.drop i).foldl wnum b) → V n i b := by
  intro n
  induction n with
  | zero => intro i b h1 h2; omega
  | succ n ih =>
    intro i b h1 h2 hb hX
    rw [hs]
    by_cases h : i < l.length
    · rw [dec_t (show (i : Int) < l.length by omega), cond_true, Int.toNat_natCast, w64_succ h (by omega)]
      rw [drop_getD l i h, List.foldl_cons] at hX
      have he : i64r (l.getD i default) := hr _ (by rw [List.getD_eq_getElem?_getD, List.getElem?_eq_getElem h]; exact List.getElem_mem h)
      generalize l.getD i default = e at hX he ⊢
      have hsz := itoaB_size he
      have hsp := sp_size e
      have h32 : (ByteArray.mk #[32]).size = 1 := rfl
      refine ⟨⟨by omega, by omega⟩, ⟨he, by omega, by omega, by omega⟩, ?_⟩
      refine ih (i + 1) _ (by omega) (by omega) ?_ hX
      rw [ByteArray.size_append]
      omega
    · have e : i = l.length := by omega
      subst e
      rw [dec_f (by omega), cond_false]
      rw [List.drop_length] at hX
      exact hX
theorem wnums_size : ∀ (l : List Int) (b : ByteArray), (∀ n ∈ l, i64r n) → (l.foldl wnum b).size ≤ b.size + 22 * l.length
  | [], b, _ => by simp
  | n :: l, b, h => by
    rw [List.foldl_cons]
    have h1 := wnums_size l (wnum b n) (fun m hm => h m (by simp [hm]))
    have h2 := itoaB_size (h n (by simp))
    have h3 : (wnum b n).size = b.size + (1 + (itoaB n).size) := by
      unfold wnum
      rw [ByteArray.size_append, sp_size]
    rw [List.length_cons]
    omega
theorem fo_outer (ks : List Int) (wl : List (Int × ByteArray)) (wr : Opn → Int → Int → List Int) (hw : ∀ k, hasK ks k = true → 1 ≤ (selW wl k).size ∧ (selW wl k).size ≤ 10) (hn : ∀ o x y, rangeO o = true → (wr o x y).length ≤ 4 ∧ ∀ n ∈ wr o x y, i64r n)
    (l : List Opn) (hl : l.length ≤ 4000) (Q : ByteArray → Int → Prop) (X0 X1 : Int → ByteArray → Int → Int → Prop) (W : Nat → Int → ByteArray → Int → Int → Prop) (I : Nat → Int → Opn → List Int → ByteArray → Int → Int → Prop)
    (hs : ∀ n i b x y, W (n + 1) i b x y = cond (decide (i < (l.length : Int))) ((0 ≤ i ∧ i < l.length) ∧ cond (badO ks (l.getD i.toNat default)) (X0 i b x y) ((1 ≤ (selW wl (l.getD i.toNat default).Kind).size ∧ b.size + (selW wl (l.getD i.toNat default).Kind).size ≤ 140737488355328) ∧ I n i (l.getD i.toNat default) (wr (l.getD i.toNat default) x y) (b ++ selW wl (l.getD i.toNat default).Kind) x y)) (X1 i b x y))
    (hI : ∀ n i o nums b x y, nums.length ≤ 4 → (∀ n ∈ nums, i64r n) → b.size ≤ 1000000 → W n (w64 (i + 1)) (nums.foldl wnum b ++ ByteArray.mk #[10]) (afterO o x y).1 (afterO o x y).2 → I n i o nums b x y)
    (hX0 : ∀ i b x y, Q (ByteArray.mk #[]) 16 → X0 i b x y) (hX1 : ∀ i b x y, Q b 0 → X1 i b x y) :
    ∀ (n i : Nat) (b : ByteArray) (x y : Int), i ≤ l.length → l.length < n + i → b.size ≤ 200 * i → Q (fmtF ks wl wr (l.drop i) b x y).1 (fmtF ks wl wr (l.drop i) b x y).2 → W n i b x y := by
  intro n
  induction n with
  | zero => intro i b x y h1 h2; omega
  | succ n ih =>
    intro i b x y h1 h2 hb hQ
    rw [hs]
    by_cases h : i < l.length
    · rw [dec_t (show (i : Int) < l.length by omega), cond_true, Int.toNat_natCast]
      rw [drop_getD l i h] at hQ
      generalize l.getD i default = o at hQ ⊢
      refine ⟨⟨by omega, by omega⟩, ?_⟩
      unfold fmtF at hQ
      cases hbad : badO ks o with
      | true =>
        rw [hbad] at hQ
        exact hX0 _ _ _ _ hQ
      | false =>
        rw [hbad, cond_false] at hQ
        rw [cond_false]
        unfold badO at hbad
        simp only [Bool.or_eq_false_iff, Bool.not_eq_false'] at hbad
        obtain ⟨⟨k1, k2⟩, k3⟩ := hbad
        obtain ⟨q1, q2⟩ := hw _ k1
        obtain ⟨r1, r2⟩ := hn o x y k3
        have hbs : (b ++ selW wl o.Kind).size = b.size + (selW wl o.Kind).size := ByteArray.size_append ..
        refine ⟨⟨q1, by omega⟩, hI _ _ _ _ _ _ _ r1 r2 (by omega) ?_⟩
        rw [w64_succ h (by omega)]
        refine ih (i + 1) _ _ _ (by omega) (by omega) ?_ hQ
        have h10 : (ByteArray.mk #[10]).size = 1 := rfl
        have := wnums_size (wr o x y) (b ++ selW wl o.Kind) r2
        rw [ByteArray.size_append]
        omega
    · have e : i = l.length := by omega
      subst e
      rw [dec_f (by omega), cond_false]
      rw [List.drop_length] at hQ
      exact hX1 _ _ _ _ hQ
theorem inR_r {n : Int} (h : inR n = true) : i64r n := by
  unfold inR at h
  simp only [Bool.not_eq_true', Bool.or_eq_false_iff, decide_eq_false_iff_not] at h
  unfold i64r
  omega
theorem rangeO_r {o : Opn} (h : rangeO o = true) : i64r o.X ∧ i64r o.Y ∧ i64r o.W ∧ i64r o.H ∧ i64r o.N := by
  unfold rangeO sp_program_inRange at h
  simp only [List.all_cons, List.all_nil, Bool.and_true, Bool.and_eq_true] at h
  exact ⟨inR_r h.1, inR_r h.2.1, inR_r h.2.2.1, inR_r h.2.2.2.1, inR_r h.2.2.2.2⟩
theorem w64_r (n : Int) : i64r (w64 n) := by
  have e : w64 n = (n + 9223372036854775808) % 18446744073709551616 - 9223372036854775808 := by
    simp only [w64, IntKind.wrap, IntKind.bits, IntKind.signed]
    simp
    split <;> omega
  rw [e]
  unfold i64r
  omega
def wr1 (o : Opn) (x y : Int) : List Int := sp_program_dialects_1 o.Kind o.X o.Y o.W o.H o.N x y
def wr2 (o : Opn) (x y : Int) : List Int := sp_program_placed o.Kind o.X o.Y o.W o.H o.N x y
def wr3 (o : Opn) (x y : Int) : List Int := sp_program_pressed o.Kind o.X o.Y o.W o.H o.N x y
theorem wr2_ok (o : Opn) (x y : Int) (h : rangeO o = true) : (wr2 o x y).length ≤ 4 ∧ ∀ n ∈ wr2 o x y, i64r n := by
  obtain ⟨r1, r2, r3, r4, r5⟩ := rangeO_r h
  unfold wr2 sp_program_placed
  cases o.Kind == 3
  · refine ⟨by simp, fun n hn => ?_⟩
    simp only [cond_false, List.mem_cons, List.not_mem_nil, or_false] at hn
    rcases hn with rfl | rfl <;> exact w64_r _
  · refine ⟨by simp, fun n hn => ?_⟩
    simp only [cond_true, List.cons_append, List.nil_append, List.mem_cons, List.not_mem_nil, or_false] at hn
    rcases hn with rfl | rfl | rfl | rfl
    · exact w64_r _
    · exact w64_r _
    · exact r3
    · exact r4
theorem wr1_ok (o : Opn) (x y : Int) (h : rangeO o = true) : (wr1 o x y).length ≤ 4 ∧ ∀ n ∈ wr1 o x y, i64r n := wr2_ok o 0 0 h
theorem wr3_ok (o : Opn) (x y : Int) (h : rangeO o = true) : (wr3 o x y).length ≤ 4 ∧ ∀ n ∈ wr3 o x y, i64r n := by
  obtain ⟨r1, r2, r3, r4, r5⟩ := rangeO_r h
  unfold wr3 sp_program_pressed
  cases o.Kind == 5
  · refine ⟨by simp, fun n hn => ?_⟩
    simp only [cond_false, List.mem_cons, List.not_mem_nil, or_false] at hn
    rcases hn with rfl | rfl | rfl | rfl <;> assumption
  · refine ⟨by simp, fun n hn => ?_⟩
    simp only [cond_true, List.mem_cons, List.not_mem_nil, or_false] at hn
    rcases hn with rfl | rfl <;> assumption
theorem pre_placed (k x y w h n a b : Int) : pre_program_placed k x y w h n a b := by
  unfold pre_program_placed
  cases k == 3
  · trivial
  · show (2 + 2) * 8 ≤ 140737488355328
    decide
theorem hasK_cases {ks : List Int} {k : Int} (h : hasK ks k = true) : k ∈ ks := by
  induction ks with
  | nil => cases h
  | cons a l ih =>
    unfold hasK at h
    cases hb : k == a with
    | true => exact List.mem_cons.2 (.inl (by simpa using hb))
    | false =>
      rw [hb] at h
      exact List.mem_cons.2 (.inr (ih h))
theorem wl1_ok (k : Int) (h : hasK [1, 2, 4, 3] k = true) : 1 ≤ (selW wl1 k).size ∧ (selW wl1 k).size ≤ 10 := by
  have := hasK_cases h
  simp only [List.mem_cons, List.not_mem_nil, or_false] at this
  rcases this with rfl | rfl | rfl | rfl <;> decide
theorem wl2_ok (k : Int) (h : hasK [1, 2, 4, 3] k = true) : 1 ≤ (selW wl2 k).size ∧ (selW wl2 k).size ≤ 10 := by
  have := hasK_cases h
  simp only [List.mem_cons, List.not_mem_nil, or_false] at this
  rcases this with rfl | rfl | rfl | rfl <;> decide
theorem wl3_ok (k : Int) (h : hasK [5, 6] k = true) : 1 ≤ (selW wl3 k).size ∧ (selW wl3 k).size ≤ 10 := by
  have := hasK_cases h
  simp only [List.mem_cons, List.not_mem_nil, or_false] at this
  rcases this with rfl | rfl <;> decide

def pre_fo1 (ops : List Opn) : Prop := True
def sp_fo1 (ops : List Opn) : ByteArray × Int := cond (decide (4000 < (ops.length : Int))) (ByteArray.mk #[], 4) (fmtF [1, 2, 4, 3] wl1 wr1 ops ByteArray.empty 0 0)
theorem ok_fo1 (ops : List Opn) (h : pre_fo1 ops) : ∃ F, ∀ Q : ByteArray → Int → Prop, Q ((sp_fo1 ops).1) ((sp_fo1 ops).2) → w_fo1 F ops Q := by
  refine ⟨4001, fun Q hQ => ?_⟩
  unfold sp_fo1 at hQ
  unfold w_fo1 g_fo1_e
  by_cases hl : 4000 < (ops.length : Int)
  · rw [dec_t hl] at hQ ⊢
    exact hQ
  · rw [dec_f hl] at hQ ⊢
    simp only [cond_false] at hQ ⊢
    show w_fo1_0 4001 (fun t4 t5 t28 t29 t30 o8 c9_0 c9_1 => Q t4 t5) (fun t4 t5 t28 t29 t30 o8 c9_0 c9_1 => Q o8 0) 4001 (ByteArray.mk #[]) 0 ops (ops.length : Int) ((0 : Nat) : Int) ByteArray.empty 0 0
    refine fo_outer [1, 2, 4, 3] wl1 wr1 wl1_ok wr1_ok ops (by omega) Q (fun i b x y => Q (ByteArray.mk #[]) 16) (fun i b x y => Q b 0) (fun n i b x y => w_fo1_0 4001 (fun t4 t5 t28 t29 t30 o8 c9_0 c9_1 => Q t4 t5) (fun t4 t5 t28 t29 t30 o8 c9_0 c9_1 => Q o8 0) n (ByteArray.mk #[]) 0 ops (ops.length : Int) i b x y)
      (fun n i o nums b x y => pre_program_dialects_1 o.Kind o.X o.Y o.W o.H o.N x y ∧ n_fo1_1 4001 (w_fo1_0 4001 (fun t4 t5 t28 t29 t30 o8 c9_0 c9_1 => Q t4 t5) (fun t4 t5 t28 t29 t30 o8 c9_0 c9_1 => Q o8 0) n) (fun t4 t5 t28 t29 t30 o8 c9_0 c9_1 => Q t4 t5) (fun t4 t5 t28 t29 t30 o8 c9_0 c9_1 => Q o8 0) (ByteArray.mk #[]) 0 ops (ops.length : Int) i nums (nums.length : Int) 0 b x y o.Kind o.X o.Y o.W o.H o.N)
      (fun n i b x y => rfl) (fun n i o nums b x y h4 hr hb hW => ?_) (fun i b x y q => q) (fun i b x y q => q) 4001 0 ByteArray.empty 0 0 (by omega) (by omega) (by decide) ?_
    · refine ⟨pre_placed _ _ _ _ _ _ _ _, ?_⟩
      refine fo_inner nums (by omega) hr (fun n' j b' => w_fo1_1 4001 _ n' (ByteArray.mk #[]) 0 ops (ops.length : Int) i nums (nums.length : Int) j b' x y o.Kind o.X o.Y o.W o.H o.N) (fun j b' => (1 ≤ (ByteArray.mk #[10]).size ∧ b'.size + (ByteArray.mk #[10]).size ≤ 140737488355328) ∧ w_fo1_0 4001 (fun t4 t5 t28 t29 t30 o8 c9_0 c9_1 => Q t4 t5) (fun t4 t5 t28 t29 t30 o8 c9_0 c9_1 => Q o8 0) n (ByteArray.mk #[]) 0 ops (ops.length : Int) (w64 (i + 1)) (b' ++ ByteArray.mk #[10]) (afterO o x y).1 (afterO o x y).2) (fun n' j b' => rfl) 4001 0 b (by omega) (by omega) (by omega) ?_
      have h10 : (ByteArray.mk #[10]).size = 1 := rfl
      have := wnums_size nums b hr
      exact ⟨⟨by omega, by rw [List.drop_zero]; omega⟩, hW⟩
    · rw [List.drop_zero]
      exact hQ

def pre_fo2 (ops : List Opn) : Prop := True
def sp_fo2 (ops : List Opn) : ByteArray × Int := cond (decide (4000 < (ops.length : Int))) (ByteArray.mk #[], 4) (fmtF [1, 2, 4, 3] wl2 wr2 ops ByteArray.empty 0 0)
theorem ok_fo2 (ops : List Opn) (h : pre_fo2 ops) : ∃ F, ∀ Q : ByteArray → Int → Prop, Q ((sp_fo2 ops).1) ((sp_fo2 ops).2) → w_fo2 F ops Q := by
  refine ⟨4001, fun Q hQ => ?_⟩
  unfold sp_fo2 at hQ
  unfold w_fo2 g_fo2_e
  by_cases hl : 4000 < (ops.length : Int)
  · rw [dec_t hl] at hQ ⊢
    exact hQ
  · rw [dec_f hl] at hQ ⊢
    simp only [cond_false] at hQ ⊢
    show w_fo2_0 4001 (fun t4 t5 t28 t29 t30 o8 c9_0 c9_1 => Q t4 t5) (fun t4 t5 t28 t29 t30 o8 c9_0 c9_1 => Q o8 0) 4001 (ByteArray.mk #[]) 0 ops (ops.length : Int) ((0 : Nat) : Int) ByteArray.empty 0 0
    refine fo_outer [1, 2, 4, 3] wl2 wr2 wl2_ok wr2_ok ops (by omega) Q (fun i b x y => Q (ByteArray.mk #[]) 16) (fun i b x y => Q b 0) (fun n i b x y => w_fo2_0 4001 (fun t4 t5 t28 t29 t30 o8 c9_0 c9_1 => Q t4 t5) (fun t4 t5 t28 t29 t30 o8 c9_0 c9_1 => Q o8 0) n (ByteArray.mk #[]) 0 ops (ops.length : Int) i b x y)
      (fun n i o nums b x y => pre_program_placed o.Kind o.X o.Y o.W o.H o.N x y ∧ n_fo2_1 4001 (w_fo2_0 4001 (fun t4 t5 t28 t29 t30 o8 c9_0 c9_1 => Q t4 t5) (fun t4 t5 t28 t29 t30 o8 c9_0 c9_1 => Q o8 0) n) (fun t4 t5 t28 t29 t30 o8 c9_0 c9_1 => Q t4 t5) (fun t4 t5 t28 t29 t30 o8 c9_0 c9_1 => Q o8 0) (ByteArray.mk #[]) 0 ops (ops.length : Int) i nums (nums.length : Int) 0 b x y o.Kind o.X o.Y o.W o.H o.N)
      (fun n i b x y => rfl) (fun n i o nums b x y h4 hr hb hW => ?_) (fun i b x y q => q) (fun i b x y q => q) 4001 0 ByteArray.empty 0 0 (by omega) (by omega) (by decide) ?_
    · refine ⟨pre_placed _ _ _ _ _ _ _ _, ?_⟩
      refine fo_inner nums (by omega) hr (fun n' j b' => w_fo2_1 4001 _ n' (ByteArray.mk #[]) 0 ops (ops.length : Int) i nums (nums.length : Int) j b' x y o.Kind o.X o.Y o.W o.H o.N) (fun j b' => (1 ≤ (ByteArray.mk #[10]).size ∧ b'.size + (ByteArray.mk #[10]).size ≤ 140737488355328) ∧ w_fo2_0 4001 (fun t4 t5 t28 t29 t30 o8 c9_0 c9_1 => Q t4 t5) (fun t4 t5 t28 t29 t30 o8 c9_0 c9_1 => Q o8 0) n (ByteArray.mk #[]) 0 ops (ops.length : Int) (w64 (i + 1)) (b' ++ ByteArray.mk #[10]) (afterO o x y).1 (afterO o x y).2) (fun n' j b' => rfl) 4001 0 b (by omega) (by omega) (by omega) ?_
      have h10 : (ByteArray.mk #[10]).size = 1 := rfl
      have := wnums_size nums b hr
      exact ⟨⟨by omega, by rw [List.drop_zero]; omega⟩, hW⟩
    · rw [List.drop_zero]
      exact hQ

def pre_fo3 (ops : List Opn) : Prop := True
def sp_fo3 (ops : List Opn) : ByteArray × Int := cond (decide (4000 < (ops.length : Int))) (ByteArray.mk #[], 4) (fmtF [5, 6] wl3 wr3 ops ByteArray.empty 0 0)
theorem ok_fo3 (ops : List Opn) (h : pre_fo3 ops) : ∃ F, ∀ Q : ByteArray → Int → Prop, Q ((sp_fo3 ops).1) ((sp_fo3 ops).2) → w_fo3 F ops Q := by
  refine ⟨4001, fun Q hQ => ?_⟩
  unfold sp_fo3 at hQ
  unfold w_fo3 g_fo3_e
  by_cases hl : 4000 < (ops.length : Int)
  · rw [dec_t hl] at hQ ⊢
    exact hQ
  · rw [dec_f hl] at hQ ⊢
    simp only [cond_false] at hQ ⊢
    show w_fo3_0 4001 (fun t4 t5 t28 t29 t30 o8 c9_0 c9_1 => Q t4 t5) (fun t4 t5 t28 t29 t30 o8 c9_0 c9_1 => Q o8 0) 4001 (ByteArray.mk #[]) 0 ops (ops.length : Int) ((0 : Nat) : Int) ByteArray.empty 0 0
    refine fo_outer [5, 6] wl3 wr3 wl3_ok wr3_ok ops (by omega) Q (fun i b x y => Q (ByteArray.mk #[]) 16) (fun i b x y => Q b 0) (fun n i b x y => w_fo3_0 4001 (fun t4 t5 t28 t29 t30 o8 c9_0 c9_1 => Q t4 t5) (fun t4 t5 t28 t29 t30 o8 c9_0 c9_1 => Q o8 0) n (ByteArray.mk #[]) 0 ops (ops.length : Int) i b x y)
      (fun n i o nums b x y => n_fo3_1 4001 (w_fo3_0 4001 (fun t4 t5 t28 t29 t30 o8 c9_0 c9_1 => Q t4 t5) (fun t4 t5 t28 t29 t30 o8 c9_0 c9_1 => Q o8 0) n) (fun t4 t5 t28 t29 t30 o8 c9_0 c9_1 => Q t4 t5) (fun t4 t5 t28 t29 t30 o8 c9_0 c9_1 => Q o8 0) (ByteArray.mk #[]) 0 ops (ops.length : Int) i nums (nums.length : Int) 0 b x y o.Kind o.X o.Y o.W o.H o.N)
      (fun n i b x y => rfl) (fun n i o nums b x y h4 hr hb hW => ?_) (fun i b x y q => q) (fun i b x y q => q) 4001 0 ByteArray.empty 0 0 (by omega) (by omega) (by decide) ?_
    · refine fo_inner nums (by omega) hr (fun n' j b' => w_fo3_1 4001 _ n' (ByteArray.mk #[]) 0 ops (ops.length : Int) i nums (nums.length : Int) j b' x y o.Kind o.X o.Y o.W o.H o.N) (fun j b' => (1 ≤ (ByteArray.mk #[10]).size ∧ b'.size + (ByteArray.mk #[10]).size ≤ 140737488355328) ∧ w_fo3_0 4001 (fun t4 t5 t28 t29 t30 o8 c9_0 c9_1 => Q t4 t5) (fun t4 t5 t28 t29 t30 o8 c9_0 c9_1 => Q o8 0) n (ByteArray.mk #[]) 0 ops (ops.length : Int) (w64 (i + 1)) (b' ++ ByteArray.mk #[10]) (afterO o x y).1 (afterO o x y).2) (fun n' j b' => rfl) 4001 0 b (by omega) (by omega) (by omega) ?_
      have h10 : (ByteArray.mk #[10]).size = 1 := rfl
      have := wnums_size nums b hr
      exact ⟨⟨by omega, by rw [List.drop_zero]; omega⟩, hW⟩
    · rw [List.drop_zero]
      exact hQ

def sp_fo4 (m : Nat) (ops : List Opn) : ByteArray × Int := (ByteArray.mk #[], 1)
def sp_fo0 (ops : List Opn) : ByteArray × Int := (ByteArray.mk #[], 1)
def sp_fo5 (m : Nat) (ops : List Opn) : ByteArray × Int := (ByteArray.mk #[], 1)
theorem ok_fo4 (m : Nat) (ops : List Opn) : ∃ F, ∀ Q : ByteArray → Int → Prop, Q ((sp_fo4 m ops).1) ((sp_fo4 m ops).2) → w_fo4 F m ops Q := ⟨0, fun Q h => h⟩
theorem ok_fo0 (ops : List Opn) : ∃ F, ∀ Q : ByteArray → Int → Prop, Q ((sp_fo0 ops).1) ((sp_fo0 ops).2) → w_fo0 F ops Q := ⟨0, fun Q h => h⟩
theorem ok_fo5 (m : Nat) (ops : List Opn) : ∃ F, ∀ Q : ByteArray → Int → Prop, Q ((sp_fo5 m ops).1) ((sp_fo5 m ops).2) → w_fo5 F m ops Q := ⟨0, fun Q h => h⟩
end
end Go.Proofs.YteffpgliiilnjaaGreatDoor

namespace Go.Proofs.YteffpgliiilnjaaGreatDoor
open Go.Vm Go.RowKit
set_option linter.unusedVariables false
noncomputable section
/-! ### sheetmetal/sheetmetallaw08.known -/
def M_law08_known : Nat → Nat → Nat → Canon UU := fun o b r => ⟨[], [], [], [], []⟩
def g_law08_known_e  (Q : Bool → Prop) : Prop := (let r0 := (sp_fo2 ([(Opn.mk 1 105 105 0 0 0), (Opn.mk 1 100 100 0 0 0), (Opn.mk 2 110 100 0 0 0)])); ((pre_fo2 ([(Opn.mk 1 105 105 0 0 0), (Opn.mk 1 100 100 0 0 0), (Opn.mk 2 110 100 0 0 0)])) ∧ (let r1 := (sp_program_RunCut (ByteArray.mk #[115]) (ByteArray.mk #[115, 116, 101, 101, 108]) 1 0 9 9 ([]) ([]) ([(Opn.mk 2 4 0 0 0 0)])); ((pre_program_RunCut (ByteArray.mk #[115]) (ByteArray.mk #[115, 116, 101, 101, 108]) 1 0 9 9 ([]) ([]) ([(Opn.mk 2 4 0 0 0 0)])) ∧ ((((((r0.2 == 0) && (r0.1 == (ByteArray.mk #[109, 32, 49, 48, 53, 32, 49, 48, 53, 10, 109, 32, 45, 53, 32, 45, 53, 10, 108, 32, 49, 48, 32, 48, 10]))) && (r1.2.2 == 0)) && ((r1.1.length : Int) == 1)) = true → 0 ≤ (0 : Int) ∧ (0 : Int) < r1.1.length) ∧ Q (((((r0.2 == 0) && (r0.1 == (ByteArray.mk #[109, 32, 49, 48, 53, 32, 49, 48, 53, 10, 109, 32, 45, 53, 32, 45, 53, 10, 108, 32, 49, 48, 32, 48, 10]))) && (r1.2.2 == 0)) && ((r1.1.length : Int) == 1)) && ((((r1.1.getD 0 default).X1) == 0) && ((((r1.1.getD 0 default).Y1) == 0) && ((((r1.1.getD 0 default).X2) == 4) && ((((r1.1.getD 0 default).Y2) == 0) && true))))))))))
def w_law08_known (F : Nat)  (Q : Bool → Prop) : Prop := g_law08_known_e  Q
end
end Go.Proofs.YteffpgliiilnjaaGreatDoor

namespace Go.Proofs.YteffpgliiilnjaaGreatDoor
open Go.Vm Go.RowKit
set_option linter.unusedVariables false
noncomputable section

def sp_law08_known : Bool := true
theorem kn_run : sp_program_RunCut (ByteArray.mk #[115]) (ByteArray.mk #[115, 116, 101, 101, 108]) 1 0 9 9 ([]) ([]) ([(Opn.mk 2 4 0 0 0 0)]) = ([Seg.mk 0 0 4 0], [], 0) := by
  kernel_rfl
theorem kn_fo : sp_fo2 ([(Opn.mk 1 105 105 0 0 0), (Opn.mk 1 100 100 0 0 0), (Opn.mk 2 110 100 0 0 0)]) = (ByteArray.mk #[109, 32, 49, 48, 53, 32, 49, 48, 53, 10, 109, 32, 45, 53, 32, 45, 53, 10, 108, 32, 49, 48, 32, 48, 10], 0) := by
  kernel_rfl
theorem ok_law08_known  : ∃ F, ∀ Q : Bool → Prop, Q sp_law08_known → w_law08_known F  Q := by
  refine ⟨0, fun Q hQ => ?_⟩
  unfold w_law08_known g_law08_known_e
  dsimp only
  rw [kn_run, kn_fo]
  exact ⟨trivial, trivial, fun _ => by decide, hQ⟩
end
end Go.Proofs.YteffpgliiilnjaaGreatDoor

namespace Go.Proofs.YteffpgliiilnjaaGreatDoor
open Go.Vm Go.RowKit
set_option linter.unusedVariables false
noncomputable section
/-! ### sheetmetal/sheetmetallaw08.ProgramRuns -/
def M_law08_ProgramRuns : Nat → Nat → Nat → Canon UU := fun o b r => ⟨[], [], [], [], []⟩
def g_law08_ProgramRuns_e (a0_Name : ByteArray) (a0_Material : ByteArray) (a0_Gauge : Int) (a0_Grain : Int) (a0_Width : Int) (a0_Height : Int) (a0_Clamps : List Rect) (a0_Used : List Rect) (a1 : List Opn) (Q : Bool → Prop) : Prop := ((pre_program_RunCut a0_Name a0_Material a0_Gauge a0_Grain a0_Width a0_Height a0_Clamps a0_Used a1) ∧ ((pre_ref08_RunCut a0_Name a0_Material a0_Gauge a0_Grain a0_Width a0_Height a0_Clamps a0_Used a1) ∧ ((((((sp_program_RunCut a0_Name a0_Material a0_Gauge a0_Grain a0_Width a0_Height a0_Clamps a0_Used a1).2.2) == ((sp_ref08_RunCut a0_Name a0_Material a0_Gauge a0_Grain a0_Width a0_Height a0_Clamps a0_Used a1).2.2)) = true → pre_ref06_SameSegments ((sp_program_RunCut a0_Name a0_Material a0_Gauge a0_Grain a0_Width a0_Height a0_Clamps a0_Used a1).1) ((sp_ref08_RunCut a0_Name a0_Material a0_Gauge a0_Grain a0_Width a0_Height a0_Clamps a0_Used a1).1)) ∧ (((((sp_program_RunCut a0_Name a0_Material a0_Gauge a0_Grain a0_Width a0_Height a0_Clamps a0_Used a1).2.2) == ((sp_ref08_RunCut a0_Name a0_Material a0_Gauge a0_Grain a0_Width a0_Height a0_Clamps a0_Used a1).2.2)) && (sp_ref06_SameSegments ((sp_program_RunCut a0_Name a0_Material a0_Gauge a0_Grain a0_Width a0_Height a0_Clamps a0_Used a1).1) ((sp_ref08_RunCut a0_Name a0_Material a0_Gauge a0_Grain a0_Width a0_Height a0_Clamps a0_Used a1).1))) = true → pre_ref06_SameRects ((sp_program_RunCut a0_Name a0_Material a0_Gauge a0_Grain a0_Width a0_Height a0_Clamps a0_Used a1).2.1) ((sp_ref08_RunCut a0_Name a0_Material a0_Gauge a0_Grain a0_Width a0_Height a0_Clamps a0_Used a1).2.1))) ∧ Q ((((((sp_program_RunCut a0_Name a0_Material a0_Gauge a0_Grain a0_Width a0_Height a0_Clamps a0_Used a1).2.2) == ((sp_ref08_RunCut a0_Name a0_Material a0_Gauge a0_Grain a0_Width a0_Height a0_Clamps a0_Used a1).2.2)) && (sp_ref06_SameSegments ((sp_program_RunCut a0_Name a0_Material a0_Gauge a0_Grain a0_Width a0_Height a0_Clamps a0_Used a1).1) ((sp_ref08_RunCut a0_Name a0_Material a0_Gauge a0_Grain a0_Width a0_Height a0_Clamps a0_Used a1).1))) && (sp_ref06_SameRects ((sp_program_RunCut a0_Name a0_Material a0_Gauge a0_Grain a0_Width a0_Height a0_Clamps a0_Used a1).2.1) ((sp_ref08_RunCut a0_Name a0_Material a0_Gauge a0_Grain a0_Width a0_Height a0_Clamps a0_Used a1).2.1))) && sp_law08_known))))
def w_law08_ProgramRuns (F : Nat) (a0_Name : ByteArray) (a0_Material : ByteArray) (a0_Gauge : Int) (a0_Grain : Int) (a0_Width : Int) (a0_Height : Int) (a0_Clamps : List Rect) (a0_Used : List Rect) (a1 : List Opn) (Q : Bool → Prop) : Prop := g_law08_ProgramRuns_e a0_Name a0_Material a0_Gauge a0_Grain a0_Width a0_Height a0_Clamps a0_Used a1 Q
def pre_law08_ProgramRuns (a0_Name : ByteArray) (a0_Material : ByteArray) (a0_Gauge : Int) (a0_Grain : Int) (a0_Width : Int) (a0_Height : Int) (a0_Clamps : List Rect) (a0_Used : List Rect) (a1 : List Opn) : Prop := (pre_program_RunCut a0_Name a0_Material a0_Gauge a0_Grain a0_Width a0_Height a0_Clamps a0_Used a1) ∧ (pre_ref08_RunCut a0_Name a0_Material a0_Gauge a0_Grain a0_Width a0_Height a0_Clamps a0_Used a1) ∧ ((((sp_program_RunCut a0_Name a0_Material a0_Gauge a0_Grain a0_Width a0_Height a0_Clamps a0_Used a1).2.2) == ((sp_ref08_RunCut a0_Name a0_Material a0_Gauge a0_Grain a0_Width a0_Height a0_Clamps a0_Used a1).2.2)) = true → pre_ref06_SameSegments ((sp_program_RunCut a0_Name a0_Material a0_Gauge a0_Grain a0_Width a0_Height a0_Clamps a0_Used a1).1) ((sp_ref08_RunCut a0_Name a0_Material a0_Gauge a0_Grain a0_Width a0_Height a0_Clamps a0_Used a1).1)) ∧ (((((sp_program_RunCut a0_Name a0_Material a0_Gauge a0_Grain a0_Width a0_Height a0_Clamps a0_Used a1).2.2) == ((sp_ref08_RunCut a0_Name a0_Material a0_Gauge a0_Grain a0_Width a0_Height a0_Clamps a0_Used a1).2.2)) && (sp_ref06_SameSegments ((sp_program_RunCut a0_Name a0_Material a0_Gauge a0_Grain a0_Width a0_Height a0_Clamps a0_Used a1).1) ((sp_ref08_RunCut a0_Name a0_Material a0_Gauge a0_Grain a0_Width a0_Height a0_Clamps a0_Used a1).1))) = true → pre_ref06_SameRects ((sp_program_RunCut a0_Name a0_Material a0_Gauge a0_Grain a0_Width a0_Height a0_Clamps a0_Used a1).2.1) ((sp_ref08_RunCut a0_Name a0_Material a0_Gauge a0_Grain a0_Width a0_Height a0_Clamps a0_Used a1).2.1))
def sp_law08_ProgramRuns (a0_Name : ByteArray) (a0_Material : ByteArray) (a0_Gauge : Int) (a0_Grain : Int) (a0_Width : Int) (a0_Height : Int) (a0_Clamps : List Rect) (a0_Used : List Rect) (a1 : List Opn) : Bool := ((((((sp_program_RunCut a0_Name a0_Material a0_Gauge a0_Grain a0_Width a0_Height a0_Clamps a0_Used a1).2.2) == ((sp_ref08_RunCut a0_Name a0_Material a0_Gauge a0_Grain a0_Width a0_Height a0_Clamps a0_Used a1).2.2)) && (sp_ref06_SameSegments ((sp_program_RunCut a0_Name a0_Material a0_Gauge a0_Grain a0_Width a0_Height a0_Clamps a0_Used a1).1) ((sp_ref08_RunCut a0_Name a0_Material a0_Gauge a0_Grain a0_Width a0_Height a0_Clamps a0_Used a1).1))) && (sp_ref06_SameRects ((sp_program_RunCut a0_Name a0_Material a0_Gauge a0_Grain a0_Width a0_Height a0_Clamps a0_Used a1).2.1) ((sp_ref08_RunCut a0_Name a0_Material a0_Gauge a0_Grain a0_Width a0_Height a0_Clamps a0_Used a1).2.1))) && sp_law08_known)
theorem ok_law08_ProgramRuns (a0_Name : ByteArray) (a0_Material : ByteArray) (a0_Gauge : Int) (a0_Grain : Int) (a0_Width : Int) (a0_Height : Int) (a0_Clamps : List Rect) (a0_Used : List Rect) (a1 : List Opn) (hp : pre_law08_ProgramRuns a0_Name a0_Material a0_Gauge a0_Grain a0_Width a0_Height a0_Clamps a0_Used a1) : ∃ F, ∀ Q : Bool → Prop, Q (sp_law08_ProgramRuns a0_Name a0_Material a0_Gauge a0_Grain a0_Width a0_Height a0_Clamps a0_Used a1) → w_law08_ProgramRuns F a0_Name a0_Material a0_Gauge a0_Grain a0_Width a0_Height a0_Clamps a0_Used a1 Q := by
  refine ⟨0, fun Q h => ?_⟩
  unfold w_law08_ProgramRuns g_law08_ProgramRuns_e
  unfold sp_law08_ProgramRuns at h
  unfold pre_law08_ProgramRuns at hp
  obtain ⟨hc0_0, hp⟩ := hp
  refine ⟨hc0_0, ?_⟩
  obtain ⟨hc1_0, hp⟩ := hp
  refine ⟨hc1_0, ?_⟩
  obtain ⟨hc2_0, hc2_1⟩ := hp
  refine ⟨⟨hc2_0, hc2_1⟩, ?_⟩
  exact h
/-! ### sheetmetal/sheetmetallaw08.within -/
def M_law08_within : Nat → Nat → Nat → Canon UU := fun o b r => ⟨[], [], [], [], []⟩
def g_law08_within_e (a0_X1 : Int) (a0_Y1 : Int) (a0_X2 : Int) (a0_Y2 : Int) (a1_X1 : Int) (a1_Y1 : Int) (a1_X2 : Int) (a1_Y2 : Int) (Q : Bool → Prop) : Prop := Q (((((decide (a1_X1 ≤ a0_X1)) && (decide (a0_X2 ≤ a1_X2))) && (decide (a1_Y1 ≤ a0_Y1))) && (decide (a0_Y2 ≤ a1_Y2))) && ((a0_Y1 == a0_Y2) == (a1_Y1 == a1_Y2)))
def w_law08_within (F : Nat) (a0_X1 : Int) (a0_Y1 : Int) (a0_X2 : Int) (a0_Y2 : Int) (a1_X1 : Int) (a1_Y1 : Int) (a1_X2 : Int) (a1_Y2 : Int) (Q : Bool → Prop) : Prop := g_law08_within_e a0_X1 a0_Y1 a0_X2 a0_Y2 a1_X1 a1_Y1 a1_X2 a1_Y2 Q
def sp_law08_within (a0_X1 : Int) (a0_Y1 : Int) (a0_X2 : Int) (a0_Y2 : Int) (a1_X1 : Int) (a1_Y1 : Int) (a1_X2 : Int) (a1_Y2 : Int) : Bool := (((((decide (a1_X1 ≤ a0_X1)) && (decide (a0_X2 ≤ a1_X2))) && (decide (a1_Y1 ≤ a0_Y1))) && (decide (a0_Y2 ≤ a1_Y2))) && ((a0_Y1 == a0_Y2) == (a1_Y1 == a1_Y2)))
theorem ok_law08_within (a0_X1 : Int) (a0_Y1 : Int) (a0_X2 : Int) (a0_Y2 : Int) (a1_X1 : Int) (a1_Y1 : Int) (a1_X2 : Int) (a1_Y2 : Int) : ∃ F, ∀ Q : Bool → Prop, Q (sp_law08_within a0_X1 a0_Y1 a0_X2 a0_Y2 a1_X1 a1_Y1 a1_X2 a1_Y2) → w_law08_within F a0_X1 a0_Y1 a0_X2 a0_Y2 a1_X1 a1_Y1 a1_X2 a1_Y2 Q := by
  refine ⟨0, fun Q h => ?_⟩
  unfold w_law08_within g_law08_within_e
  unfold sp_law08_within at h
  exact h
end
end Go.Proofs.YteffpgliiilnjaaGreatDoor

namespace Go.Proofs.YteffpgliiilnjaaGreatDoor
open Go.Vm Go.RowKit
set_option linter.unusedVariables false
noncomputable section

theorem insB_within (w h : Int) (hw : 0 ≤ w ∧ w ≤ 1048576) (hh : 0 ≤ h ∧ h ≤ 1048576) : insB w h = withinB w h := by
  funext r
  unfold insB withinB
  rw [inside_within, show (2 * 0 : Int) = 0 from rfl, show w64 0 = 0 from rfl, Int.sub_zero, Int.sub_zero, w64_of (by omega) (by omega), w64_of (by omega) (by omega)]
theorem validB_right : validB = rightB := by
  funext r
  exact valid_right _ _ _ _
theorem not_from (a lo hi : Int) : (!(decide (lo ≤ a) && decide (a ≤ hi))) = (decide (a < lo) || decide (hi < a)) := by
  rw [Bool.eq_iff_iff]
  simp only [Bool.not_eq_true', Bool.and_eq_false_iff, decide_eq_false_iff_not, Bool.or_eq_true, decide_eq_true_eq]
  omega
theorem sheet_same (nm mt : ByteArray) (g gr w h : Int) (cl us : List Rect) : sp_nest_ValidateSheet nm mt g gr w h cl us = sp_ref06_ValidateSheet nm mt g gr w h cl us := by
  unfold sp_nest_ValidateSheet sp_ref06_ValidateSheet sp_nest_valid sp_ref06_Rights sp_ref06_stuff sp_nest_plain sp_nest_from sp_ref06_inside
  rw [validB_right, not_from, not_from]
  have e1 : (!(decide (1 ≤ g) && decide (g ≤ 60) && (decide (0 ≤ gr) && decide (gr ≤ 2)))) = (((decide (g < 1) || decide (60 < g)) || decide (gr < 0)) || decide (2 < gr)) := by
    rw [Bool.not_and, not_from, not_from, Bool.or_assoc, Bool.or_assoc, Bool.or_assoc]
  rw [e1]
  generalize (((decide (g < 1) || decide (60 < g)) || decide (gr < 0)) || decide (2 < gr)) = A
  cases (!vn nm || !vn mt)
  · cases A
    · simp only [cond_false, Bool.false_or, bne_self_eq_false]
      by_cases hw : 1 ≤ w ∧ w ≤ 1048576 ∧ 1 ≤ h ∧ h ≤ 1048576
      · rw [insB_within w h (by omega) (by omega), dec_f (show ¬ w < 1 by omega), dec_f (show ¬ 1048576 < w by omega), dec_f (show ¬ h < 1 by omega), dec_f (show ¬ 1048576 < h by omega)]
        simp only [Bool.false_or, cond_false]
        cases cl.all (withinB w h) <;> cases us.all (withinB w h) <;> rfl
      · have e2 : ((decide (w < 1) || decide (1048576 < w)) || (decide (h < 1) || decide (1048576 < h))) = true := by
          simp only [Bool.or_eq_true, decide_eq_true_eq]
          omega
        have e3 : (((decide (w < 1) || decide (1048576 < w)) || decide (h < 1)) || decide (1048576 < h)) = true := by
          rw [Bool.or_assoc]
          exact e2
        rw [e2, e3]
        rfl
    · rfl
  · cases A <;> rfl
theorem runs_same (nm mt : ByteArray) (g gr w h : Int) (cl us : List Rect) (l : List Opn) : sp_program_RunCut nm mt g gr w h cl us l = sp_ref08_RunCut nm mt g gr w h cl us l := by
  unfold sp_program_RunCut sp_ref08_RunCut
  rw [sheet_same]
theorem foldl_mstep_len : ∀ (l o : List Seg), (l.foldl mstep o).length ≤ o.length + l.length
  | [], o => Nat.le_refl _
  | x :: l, o => by
    rw [List.foldl_cons]
    have h1 := foldl_mstep_len l (mstep o x)
    have h2 : (mstep o x).length ≤ o.length + 1 := by
      unfold mstep
      rw [List.length_reverse]
      have : ∀ r : List Seg, (mstepR x r).length ≤ r.length + 1 := fun r => by
        cases r with
        | nil => exact Nat.le_refl _
        | cons y r =>
          show (bif joinsR y x then longer y x :: r else x :: y :: r).length ≤ _
          cases joinsR y x
          · exact Nat.le_refl _
          · show r.length + 1 ≤ _
            simp
      have := this o.reverse
      rwa [List.length_reverse] at this
    rw [List.length_cons]
    omega
theorem runs_len (nm mt : ByteArray) (g gr w h : Int) (cl us : List Rect) (l : List Opn) : (sp_ref08_RunCut nm mt g gr w h cl us l).1.length ≤ 4000 ∧ (sp_ref08_RunCut nm mt g gr w h cl us l).2.1.length ≤ 4000 := by
  unfold sp_ref08_RunCut
  cases (sp_ref06_ValidateSheet nm mt g gr w h cl us != 0) with
  | true => exact ⟨by simp, by simp⟩
  | false =>
  rw [cond_false]
  by_cases hl : 4000 < (l.length : Int)
  · rw [dec_t hl]
    exact ⟨by simp, by simp⟩
  rw [dec_f hl, cond_false]
  unfold runC
  split
  · exact ⟨by simp, by simp⟩
  · rename_i s hs
    obtain ⟨h1, h2, h3⟩ := opsC_inv w h cl l _ _ hs (fun z hz => by cases hz)
    have h2' : s.2.2.1.length ≤ 0 + l.length := h2
    have h3' : s.2.2.2.length ≤ 0 + l.length := h3
    refine ⟨?_, show s.2.2.2.length ≤ 4000 by omega⟩
    show ((isort s.2.2.1).foldl mstep []).length ≤ 4000
    have := foldl_mstep_len (isort s.2.2.1) []
    rw [isort_len] at this
    have h0 : ([] : List Seg).length = 0 := rfl
    omega
theorem law_runs (F : Nat) (nm mt : ByteArray) (g gr w h : Int) (cl us : List Rect) (l : List Opn) : w_law08_ProgramRuns F nm mt g gr w h cl us l fun r => r = true := by
  unfold w_law08_ProgramRuns g_law08_ProgramRuns_e
  rw [runs_same]
  obtain ⟨h1, h2⟩ := runs_len nm mt g gr w h cl us l
  refine ⟨trivial, trivial, ⟨fun _ => ?_, fun _ => ?_⟩, ?_⟩
  · unfold pre_ref06_SameSegments
    omega
  · unfold pre_ref06_SameRects
    omega
  · unfold sp_ref06_SameSegments sp_ref06_SameRects sp_law08_known
    rw [same_t rfl, same_t rfl]
    simp
end
end Go.Proofs.YteffpgliiilnjaaGreatDoor

namespace Go.Proofs.YteffpgliiilnjaaGreatDoor
open Go.Vm Go.RowKit
set_option linter.unusedVariables false
noncomputable section
set_option maxRecDepth 100000 in
theorem entry_geom_within (F : Nat) (Post : AVal UU → Prop) (a0 : Int) (a1 : Int) : exec C_lib Tryz.f132.ntmps M_geom_within F 0 (bo Tryz.f132) (initSt [.int .i64 a0, .int .i64 a1]) (AEnds C_lib false Tryz.f132 Post) = g_geom_within_e a0 a1 (fun r0 => Post (.bool r0)) := by kernel_rfl
theorem exec_geom_within (F : Nat) (Post : AVal UU → Prop) (a0 : Int) (a1 : Int) : exec C_lib Tryz.f132.ntmps M_geom_within F 0 (bo Tryz.f132) (initSt [.int .i64 a0, .int .i64 a1]) (AEnds C_lib false Tryz.f132 Post) = w_geom_within F a0 a1 (fun r0 => Post (.bool r0)) := by
  rw [entry_geom_within]
  rfl
def m_geom_within : Model UU
  | [.int .i64 a0, .int .i64 a1] => some ([], .bool (sp_geom_within a0 a1))
  | _ => none
def C_geom_within : Cfg UU := C_lib.add 132 m_geom_within
theorem s_geom_within : SumOK C_geom_within := by
  refine s_lib.addD mixed (fn := Tryz.f132) (c := bo Tryz.f132) Tryz.func132 (by kernel_rfl) (by kernel_rfl) ?_
  intro xs cs r h hc
  unfold m_geom_within at h
  split at h
  · rename_i a0 a1
    cases h
    obtain ⟨F, hF⟩ := ok_geom_within a0 a1
    refine ⟨by kernel_rfl, M_geom_within, F, false, ⟨?_⟩⟩
    rw [exec_geom_within]
    refine hF _ ?_
    rfl
  · cases h
set_option maxRecDepth 100000 in
theorem entry_ref06_near (F : Nat) (Post : AVal UU → Prop) (a0 : Int) : exec C_geom_within Tryz.f143.ntmps M_ref06_near F 0 (bo Tryz.f143) (initSt [.int .i64 a0]) (AEnds C_geom_within false Tryz.f143 Post) = g_ref06_near_e a0 (fun r0 => Post (.bool r0)) := by kernel_rfl
theorem exec_ref06_near (F : Nat) (Post : AVal UU → Prop) (a0 : Int) : exec C_geom_within Tryz.f143.ntmps M_ref06_near F 0 (bo Tryz.f143) (initSt [.int .i64 a0]) (AEnds C_geom_within false Tryz.f143 Post) = w_ref06_near F a0 (fun r0 => Post (.bool r0)) := by
  rw [entry_ref06_near]
  rfl
def m_ref06_near : Model UU
  | [.int .i64 a0] => some ([], .bool (sp_ref06_near a0))
  | _ => none
def C_ref06_near : Cfg UU := C_geom_within.add 143 m_ref06_near
theorem s_ref06_near : SumOK C_ref06_near := by
  refine s_geom_within.addD mixed (fn := Tryz.f143) (c := bo Tryz.f143) Tryz.func143 (by kernel_rfl) (by kernel_rfl) ?_
  intro xs cs r h hc
  unfold m_ref06_near at h
  split at h
  · rename_i a0
    cases h
    obtain ⟨F, hF⟩ := ok_ref06_near a0
    refine ⟨by kernel_rfl, M_ref06_near, F, false, ⟨?_⟩⟩
    rw [exec_ref06_near]
    refine hF _ ?_
    rfl
  · cases h
set_option maxRecDepth 100000 in
theorem entry_nest_from (F : Nat) (Post : AVal UU → Prop) (a0 : Int) (a1 : Int) (a2 : Int) : exec C_ref06_near Tryz.f78.ntmps M_nest_from F 0 (bo Tryz.f78) (initSt [.int .i64 a0, .int .i64 a1, .int .i64 a2]) (AEnds C_ref06_near false Tryz.f78 Post) = g_nest_from_e a0 a1 a2 (fun r0 => Post (.bool r0)) := by kernel_rfl
theorem exec_nest_from (F : Nat) (Post : AVal UU → Prop) (a0 : Int) (a1 : Int) (a2 : Int) : exec C_ref06_near Tryz.f78.ntmps M_nest_from F 0 (bo Tryz.f78) (initSt [.int .i64 a0, .int .i64 a1, .int .i64 a2]) (AEnds C_ref06_near false Tryz.f78 Post) = w_nest_from F a0 a1 a2 (fun r0 => Post (.bool r0)) := by
  rw [entry_nest_from]
  rfl
def m_nest_from : Model UU
  | [.int .i64 a0, .int .i64 a1, .int .i64 a2] => some ([], .bool (sp_nest_from a0 a1 a2))
  | _ => none
def C_nest_from : Cfg UU := C_ref06_near.add 78 m_nest_from
theorem s_nest_from : SumOK C_nest_from := by
  refine s_ref06_near.addD mixed (fn := Tryz.f78) (c := bo Tryz.f78) Tryz.func78 (by kernel_rfl) (by kernel_rfl) ?_
  intro xs cs r h hc
  unfold m_nest_from at h
  split at h
  · rename_i a0 a1 a2
    cases h
    obtain ⟨F, hF⟩ := ok_nest_from a0 a1 a2
    refine ⟨by kernel_rfl, M_nest_from, F, false, ⟨?_⟩⟩
    rw [exec_nest_from]
    refine hF _ ?_
    rfl
  · cases h
set_option maxRecDepth 100000 in
theorem entry_program_inSheet (F : Nat) (Post : AVal UU → Prop) (a0_Name : ByteArray) (a0_Material : ByteArray) (a0_Gauge : Int) (a0_Grain : Int) (a0_Width : Int) (a0_Height : Int) (a0_Clamps : List Rect) (a0_Used : List Rect) (a1 : Int) (a2 : Int) : exec C_nest_from Tryz.f81.ntmps M_program_inSheet F 0 (bo Tryz.f81) (initSt [.agg [.str a0_Name, .str a0_Material, .int .i64 a0_Gauge, .int .i64 a0_Grain, .int .i64 a0_Width, .int .i64 a0_Height, .sl .rect a0_Clamps, .sl .rect a0_Used], .int .i64 a1, .int .i64 a2]) (AEnds C_nest_from false Tryz.f81 Post) = g_program_inSheet_e a0_Name a0_Material a0_Gauge a0_Grain a0_Width a0_Height a0_Clamps a0_Used a1 a2 (fun r0 => Post (.bool r0)) := by kernel_rfl
theorem exec_program_inSheet (F : Nat) (Post : AVal UU → Prop) (a0_Name : ByteArray) (a0_Material : ByteArray) (a0_Gauge : Int) (a0_Grain : Int) (a0_Width : Int) (a0_Height : Int) (a0_Clamps : List Rect) (a0_Used : List Rect) (a1 : Int) (a2 : Int) : exec C_nest_from Tryz.f81.ntmps M_program_inSheet F 0 (bo Tryz.f81) (initSt [.agg [.str a0_Name, .str a0_Material, .int .i64 a0_Gauge, .int .i64 a0_Grain, .int .i64 a0_Width, .int .i64 a0_Height, .sl .rect a0_Clamps, .sl .rect a0_Used], .int .i64 a1, .int .i64 a2]) (AEnds C_nest_from false Tryz.f81 Post) = w_program_inSheet F a0_Name a0_Material a0_Gauge a0_Grain a0_Width a0_Height a0_Clamps a0_Used a1 a2 (fun r0 => Post (.bool r0)) := by
  rw [entry_program_inSheet]
  rfl
def m_program_inSheet : Model UU
  | [.agg [.str a0_Name, .str a0_Material, .int .i64 a0_Gauge, .int .i64 a0_Grain, .int .i64 a0_Width, .int .i64 a0_Height, .sl .rect a0_Clamps, .sl .rect a0_Used], .int .i64 a1, .int .i64 a2] => some ([], .bool (sp_program_inSheet a0_Name a0_Material a0_Gauge a0_Grain a0_Width a0_Height a0_Clamps a0_Used a1 a2))
  | _ => none
def C_program_inSheet : Cfg UU := C_nest_from.add 81 m_program_inSheet
theorem s_program_inSheet : SumOK C_program_inSheet := by
  refine s_nest_from.addD mixed (fn := Tryz.f81) (c := bo Tryz.f81) Tryz.func81 (by kernel_rfl) (by kernel_rfl) ?_
  intro xs cs r h hc
  unfold m_program_inSheet at h
  split at h
  · rename_i a0_Name a0_Material a0_Gauge a0_Grain a0_Width a0_Height a0_Clamps a0_Used a1 a2
    cases h
    obtain ⟨F, hF⟩ := ok_program_inSheet a0_Name a0_Material a0_Gauge a0_Grain a0_Width a0_Height a0_Clamps a0_Used a1 a2
    refine ⟨by kernel_rfl, M_program_inSheet, F, false, ⟨?_⟩⟩
    rw [exec_program_inSheet]
    refine hF _ ?_
    rfl
  · cases h
set_option maxRecDepth 100000 in
theorem entry_ref08_on (F : Nat) (Post : AVal UU → Prop) (a0_Name : ByteArray) (a0_Material : ByteArray) (a0_Gauge : Int) (a0_Grain : Int) (a0_Width : Int) (a0_Height : Int) (a0_Clamps : List Rect) (a0_Used : List Rect) (a1 : Int) (a2 : Int) : exec C_program_inSheet Tryz.f36.ntmps M_ref08_on F 0 (bo Tryz.f36) (initSt [.agg [.str a0_Name, .str a0_Material, .int .i64 a0_Gauge, .int .i64 a0_Grain, .int .i64 a0_Width, .int .i64 a0_Height, .sl .rect a0_Clamps, .sl .rect a0_Used], .int .i64 a1, .int .i64 a2]) (AEnds C_program_inSheet false Tryz.f36 Post) = g_ref08_on_e a0_Name a0_Material a0_Gauge a0_Grain a0_Width a0_Height a0_Clamps a0_Used a1 a2 (fun r0 => Post (.bool r0)) := by kernel_rfl
theorem exec_ref08_on (F : Nat) (Post : AVal UU → Prop) (a0_Name : ByteArray) (a0_Material : ByteArray) (a0_Gauge : Int) (a0_Grain : Int) (a0_Width : Int) (a0_Height : Int) (a0_Clamps : List Rect) (a0_Used : List Rect) (a1 : Int) (a2 : Int) : exec C_program_inSheet Tryz.f36.ntmps M_ref08_on F 0 (bo Tryz.f36) (initSt [.agg [.str a0_Name, .str a0_Material, .int .i64 a0_Gauge, .int .i64 a0_Grain, .int .i64 a0_Width, .int .i64 a0_Height, .sl .rect a0_Clamps, .sl .rect a0_Used], .int .i64 a1, .int .i64 a2]) (AEnds C_program_inSheet false Tryz.f36 Post) = w_ref08_on F a0_Name a0_Material a0_Gauge a0_Grain a0_Width a0_Height a0_Clamps a0_Used a1 a2 (fun r0 => Post (.bool r0)) := by
  rw [entry_ref08_on]
  rfl
def m_ref08_on : Model UU
  | [.agg [.str a0_Name, .str a0_Material, .int .i64 a0_Gauge, .int .i64 a0_Grain, .int .i64 a0_Width, .int .i64 a0_Height, .sl .rect a0_Clamps, .sl .rect a0_Used], .int .i64 a1, .int .i64 a2] => some ([], .bool (sp_ref08_on a0_Name a0_Material a0_Gauge a0_Grain a0_Width a0_Height a0_Clamps a0_Used a1 a2))
  | _ => none
def C_ref08_on : Cfg UU := C_program_inSheet.add 36 m_ref08_on
theorem s_ref08_on : SumOK C_ref08_on := by
  refine s_program_inSheet.addD mixed (fn := Tryz.f36) (c := bo Tryz.f36) Tryz.func36 (by kernel_rfl) (by kernel_rfl) ?_
  intro xs cs r h hc
  unfold m_ref08_on at h
  split at h
  · rename_i a0_Name a0_Material a0_Gauge a0_Grain a0_Width a0_Height a0_Clamps a0_Used a1 a2
    cases h
    obtain ⟨F, hF⟩ := ok_ref08_on a0_Name a0_Material a0_Gauge a0_Grain a0_Width a0_Height a0_Clamps a0_Used a1 a2
    refine ⟨by kernel_rfl, M_ref08_on, F, false, ⟨?_⟩⟩
    rw [exec_ref08_on]
    refine hF _ ?_
    rfl
  · cases h
set_option maxRecDepth 100000 in
theorem entry_program_line (F : Nat) (Post : AVal UU → Prop) (a0 : Int) (a1 : Int) (a2 : Int) (a3 : Int) : exec C_ref08_on Tryz.f82.ntmps M_program_line F 0 (bo Tryz.f82) (initSt [.int .i64 a0, .int .i64 a1, .int .i64 a2, .int .i64 a3]) (AEnds C_ref08_on false Tryz.f82 Post) = g_program_line_e a0 a1 a2 a3 (fun r0_X1 r0_Y1 r0_X2 r0_Y2 => Post (.agg [.int .i64 r0_X1, .int .i64 r0_Y1, .int .i64 r0_X2, .int .i64 r0_Y2])) := by kernel_rfl
theorem exec_program_line (F : Nat) (Post : AVal UU → Prop) (a0 : Int) (a1 : Int) (a2 : Int) (a3 : Int) : exec C_ref08_on Tryz.f82.ntmps M_program_line F 0 (bo Tryz.f82) (initSt [.int .i64 a0, .int .i64 a1, .int .i64 a2, .int .i64 a3]) (AEnds C_ref08_on false Tryz.f82 Post) = w_program_line F a0 a1 a2 a3 (fun r0_X1 r0_Y1 r0_X2 r0_Y2 => Post (.agg [.int .i64 r0_X1, .int .i64 r0_Y1, .int .i64 r0_X2, .int .i64 r0_Y2])) := by
  rw [entry_program_line]
  rfl
def m_program_line : Model UU
  | [.int .i64 a0, .int .i64 a1, .int .i64 a2, .int .i64 a3] => some ([], .agg [.int .i64 ((sp_program_line a0 a1 a2 a3).1), .int .i64 ((sp_program_line a0 a1 a2 a3).2.1), .int .i64 ((sp_program_line a0 a1 a2 a3).2.2.1), .int .i64 ((sp_program_line a0 a1 a2 a3).2.2.2)])
  | _ => none
def C_program_line : Cfg UU := C_ref08_on.add 82 m_program_line
theorem s_program_line : SumOK C_program_line := by
  refine s_ref08_on.addD mixed (fn := Tryz.f82) (c := bo Tryz.f82) Tryz.func82 (by kernel_rfl) (by kernel_rfl) ?_
  intro xs cs r h hc
  unfold m_program_line at h
  split at h
  · rename_i a0 a1 a2 a3
    cases h
    obtain ⟨F, hF⟩ := ok_program_line a0 a1 a2 a3
    refine ⟨by kernel_rfl, M_program_line, F, false, ⟨?_⟩⟩
    rw [exec_program_line]
    refine hF _ ?_
    rfl
  · cases h
set_option maxRecDepth 100000 in
theorem entry_program_through (F : Nat) (Post : AVal UU → Prop) (a0_X1 : Int) (a0_Y1 : Int) (a0_X2 : Int) (a0_Y2 : Int) (a1_X : Int) (a1_Y : Int) (a1_W : Int) (a1_H : Int) : exec C_program_line Tryz.f85.ntmps M_program_through F 0 (bo Tryz.f85) (initSt [.agg [.int .i64 a0_X1, .int .i64 a0_Y1, .int .i64 a0_X2, .int .i64 a0_Y2], .agg [.int .i64 a1_X, .int .i64 a1_Y, .int .i64 a1_W, .int .i64 a1_H]]) (AEnds C_program_line false Tryz.f85 Post) = g_program_through_e a0_X1 a0_Y1 a0_X2 a0_Y2 a1_X a1_Y a1_W a1_H (fun r0 => Post (.bool r0)) := by kernel_rfl
theorem exec_program_through (F : Nat) (Post : AVal UU → Prop) (a0_X1 : Int) (a0_Y1 : Int) (a0_X2 : Int) (a0_Y2 : Int) (a1_X : Int) (a1_Y : Int) (a1_W : Int) (a1_H : Int) : exec C_program_line Tryz.f85.ntmps M_program_through F 0 (bo Tryz.f85) (initSt [.agg [.int .i64 a0_X1, .int .i64 a0_Y1, .int .i64 a0_X2, .int .i64 a0_Y2], .agg [.int .i64 a1_X, .int .i64 a1_Y, .int .i64 a1_W, .int .i64 a1_H]]) (AEnds C_program_line false Tryz.f85 Post) = w_program_through F a0_X1 a0_Y1 a0_X2 a0_Y2 a1_X a1_Y a1_W a1_H (fun r0 => Post (.bool r0)) := by
  rw [entry_program_through]
  rfl
def m_program_through : Model UU
  | [.agg [.int .i64 a0_X1, .int .i64 a0_Y1, .int .i64 a0_X2, .int .i64 a0_Y2], .agg [.int .i64 a1_X, .int .i64 a1_Y, .int .i64 a1_W, .int .i64 a1_H]] => some ([], .bool (sp_program_through a0_X1 a0_Y1 a0_X2 a0_Y2 a1_X a1_Y a1_W a1_H))
  | _ => none
def C_program_through : Cfg UU := C_program_line.add 85 m_program_through
theorem s_program_through : SumOK C_program_through := by
  refine s_program_line.addD mixed (fn := Tryz.f85) (c := bo Tryz.f85) Tryz.func85 (by kernel_rfl) (by kernel_rfl) ?_
  intro xs cs r h hc
  unfold m_program_through at h
  split at h
  · rename_i a0_X1 a0_Y1 a0_X2 a0_Y2 a1_X a1_Y a1_W a1_H
    cases h
    obtain ⟨F, hF⟩ := ok_program_through a0_X1 a0_Y1 a0_X2 a0_Y2 a1_X a1_Y a1_W a1_H
    refine ⟨by kernel_rfl, M_program_through, F, false, ⟨?_⟩⟩
    rw [exec_program_through]
    refine hF _ ?_
    rfl
  · cases h
set_option maxRecDepth 100000 in
theorem entry_ref08_enters (F : Nat) (Post : AVal UU → Prop) (a0_X1 : Int) (a0_Y1 : Int) (a0_X2 : Int) (a0_Y2 : Int) (a1_X : Int) (a1_Y : Int) (a1_W : Int) (a1_H : Int) : exec C_program_through Tryz.f38.ntmps M_ref08_enters F 0 (bo Tryz.f38) (initSt [.agg [.int .i64 a0_X1, .int .i64 a0_Y1, .int .i64 a0_X2, .int .i64 a0_Y2], .agg [.int .i64 a1_X, .int .i64 a1_Y, .int .i64 a1_W, .int .i64 a1_H]]) (AEnds C_program_through false Tryz.f38 Post) = g_ref08_enters_e a0_X1 a0_Y1 a0_X2 a0_Y2 a1_X a1_Y a1_W a1_H (fun r0 => Post (.bool r0)) := by kernel_rfl
theorem exec_ref08_enters (F : Nat) (Post : AVal UU → Prop) (a0_X1 : Int) (a0_Y1 : Int) (a0_X2 : Int) (a0_Y2 : Int) (a1_X : Int) (a1_Y : Int) (a1_W : Int) (a1_H : Int) : exec C_program_through Tryz.f38.ntmps M_ref08_enters F 0 (bo Tryz.f38) (initSt [.agg [.int .i64 a0_X1, .int .i64 a0_Y1, .int .i64 a0_X2, .int .i64 a0_Y2], .agg [.int .i64 a1_X, .int .i64 a1_Y, .int .i64 a1_W, .int .i64 a1_H]]) (AEnds C_program_through false Tryz.f38 Post) = w_ref08_enters F a0_X1 a0_Y1 a0_X2 a0_Y2 a1_X a1_Y a1_W a1_H (fun r0 => Post (.bool r0)) := by
  rw [entry_ref08_enters]
  rfl
def m_ref08_enters : Model UU
  | [.agg [.int .i64 a0_X1, .int .i64 a0_Y1, .int .i64 a0_X2, .int .i64 a0_Y2], .agg [.int .i64 a1_X, .int .i64 a1_Y, .int .i64 a1_W, .int .i64 a1_H]] => some ([], .bool (sp_ref08_enters a0_X1 a0_Y1 a0_X2 a0_Y2 a1_X a1_Y a1_W a1_H))
  | _ => none
def C_ref08_enters : Cfg UU := C_program_through.add 38 m_ref08_enters
theorem s_ref08_enters : SumOK C_ref08_enters := by
  refine s_program_through.addD mixed (fn := Tryz.f38) (c := bo Tryz.f38) Tryz.func38 (by kernel_rfl) (by kernel_rfl) ?_
  intro xs cs r h hc
  unfold m_ref08_enters at h
  split at h
  · rename_i a0_X1 a0_Y1 a0_X2 a0_Y2 a1_X a1_Y a1_W a1_H
    cases h
    obtain ⟨F, hF⟩ := ok_ref08_enters a0_X1 a0_Y1 a0_X2 a0_Y2 a1_X a1_Y a1_W a1_H
    refine ⟨by kernel_rfl, M_ref08_enters, F, false, ⟨?_⟩⟩
    rw [exec_ref08_enters]
    refine hF _ ?_
    rfl
  · cases h
set_option maxRecDepth 100000 in
theorem entry_ref08_straight (F : Nat) (Post : AVal UU → Prop) (a0 : Int) (a1 : Int) (a2 : Int) (a3 : Int) : exec C_ref08_enters Tryz.f37.ntmps M_ref08_straight F 0 (bo Tryz.f37) (initSt [.int .i64 a0, .int .i64 a1, .int .i64 a2, .int .i64 a3]) (AEnds C_ref08_enters false Tryz.f37 Post) = g_ref08_straight_e a0 a1 a2 a3 (fun r0_X1 r0_Y1 r0_X2 r0_Y2 r1 => Post (.tup [.agg [.int .i64 r0_X1, .int .i64 r0_Y1, .int .i64 r0_X2, .int .i64 r0_Y2], .bool r1])) := by kernel_rfl
theorem exec_ref08_straight (F : Nat) (Post : AVal UU → Prop) (a0 : Int) (a1 : Int) (a2 : Int) (a3 : Int) : exec C_ref08_enters Tryz.f37.ntmps M_ref08_straight F 0 (bo Tryz.f37) (initSt [.int .i64 a0, .int .i64 a1, .int .i64 a2, .int .i64 a3]) (AEnds C_ref08_enters false Tryz.f37 Post) = w_ref08_straight F a0 a1 a2 a3 (fun r0_X1 r0_Y1 r0_X2 r0_Y2 r1 => Post (.tup [.agg [.int .i64 r0_X1, .int .i64 r0_Y1, .int .i64 r0_X2, .int .i64 r0_Y2], .bool r1])) := by
  rw [entry_ref08_straight]
  rfl
def m_ref08_straight : Model UU
  | [.int .i64 a0, .int .i64 a1, .int .i64 a2, .int .i64 a3] => some ([], .tup [.agg [.int .i64 ((sp_ref08_straight a0 a1 a2 a3).1), .int .i64 ((sp_ref08_straight a0 a1 a2 a3).2.1), .int .i64 ((sp_ref08_straight a0 a1 a2 a3).2.2.1), .int .i64 ((sp_ref08_straight a0 a1 a2 a3).2.2.2.1)], .bool ((sp_ref08_straight a0 a1 a2 a3).2.2.2.2)])
  | _ => none
def C_ref08_straight : Cfg UU := C_ref08_enters.add 37 m_ref08_straight
theorem s_ref08_straight : SumOK C_ref08_straight := by
  refine s_ref08_enters.addD mixed (fn := Tryz.f37) (c := bo Tryz.f37) Tryz.func37 (by kernel_rfl) (by kernel_rfl) ?_
  intro xs cs r h hc
  unfold m_ref08_straight at h
  split at h
  · rename_i a0 a1 a2 a3
    cases h
    obtain ⟨F, hF⟩ := ok_ref08_straight a0 a1 a2 a3
    refine ⟨by kernel_rfl, M_ref08_straight, F, false, ⟨?_⟩⟩
    rw [exec_ref08_straight]
    refine hF _ ?_
    rfl
  · cases h
set_option maxRecDepth 100000 in
theorem entry_ref08_less (F : Nat) (Post : AVal UU → Prop) (a0_X1 : Int) (a0_Y1 : Int) (a0_X2 : Int) (a0_Y2 : Int) (a1_X1 : Int) (a1_Y1 : Int) (a1_X2 : Int) (a1_Y2 : Int) : exec C_ref08_straight Tryz.f94.ntmps M_ref08_less F 0 (bo Tryz.f94) (initSt [.agg [.int .i64 a0_X1, .int .i64 a0_Y1, .int .i64 a0_X2, .int .i64 a0_Y2], .agg [.int .i64 a1_X1, .int .i64 a1_Y1, .int .i64 a1_X2, .int .i64 a1_Y2]]) (AEnds C_ref08_straight false Tryz.f94 Post) = g_ref08_less_e a0_X1 a0_Y1 a0_X2 a0_Y2 a1_X1 a1_Y1 a1_X2 a1_Y2 (fun r0 => Post (.bool r0)) := by kernel_rfl
theorem exec_ref08_less (F : Nat) (Post : AVal UU → Prop) (a0_X1 : Int) (a0_Y1 : Int) (a0_X2 : Int) (a0_Y2 : Int) (a1_X1 : Int) (a1_Y1 : Int) (a1_X2 : Int) (a1_Y2 : Int) : exec C_ref08_straight Tryz.f94.ntmps M_ref08_less F 0 (bo Tryz.f94) (initSt [.agg [.int .i64 a0_X1, .int .i64 a0_Y1, .int .i64 a0_X2, .int .i64 a0_Y2], .agg [.int .i64 a1_X1, .int .i64 a1_Y1, .int .i64 a1_X2, .int .i64 a1_Y2]]) (AEnds C_ref08_straight false Tryz.f94 Post) = w_ref08_less F a0_X1 a0_Y1 a0_X2 a0_Y2 a1_X1 a1_Y1 a1_X2 a1_Y2 (fun r0 => Post (.bool r0)) := by
  rw [entry_ref08_less]
  rfl
def m_ref08_less : Model UU
  | [.agg [.int .i64 a0_X1, .int .i64 a0_Y1, .int .i64 a0_X2, .int .i64 a0_Y2], .agg [.int .i64 a1_X1, .int .i64 a1_Y1, .int .i64 a1_X2, .int .i64 a1_Y2]] => some ([], .bool (sp_ref08_less a0_X1 a0_Y1 a0_X2 a0_Y2 a1_X1 a1_Y1 a1_X2 a1_Y2))
  | _ => none
def C_ref08_less : Cfg UU := C_ref08_straight.add 94 m_ref08_less
theorem s_ref08_less : SumOK C_ref08_less := by
  refine s_ref08_straight.addD mixed (fn := Tryz.f94) (c := bo Tryz.f94) Tryz.func94 (by kernel_rfl) (by kernel_rfl) ?_
  intro xs cs r h hc
  unfold m_ref08_less at h
  split at h
  · rename_i a0_X1 a0_Y1 a0_X2 a0_Y2 a1_X1 a1_Y1 a1_X2 a1_Y2
    cases h
    obtain ⟨F, hF⟩ := ok_ref08_less a0_X1 a0_Y1 a0_X2 a0_Y2 a1_X1 a1_Y1 a1_X2 a1_Y2
    refine ⟨by kernel_rfl, M_ref08_less, F, false, ⟨?_⟩⟩
    rw [exec_ref08_less]
    refine hF _ ?_
    rfl
  · cases h
set_option maxRecDepth 100000 in
theorem entry_ref08_joins (F : Nat) (Post : AVal UU → Prop) (a0_X1 : Int) (a0_Y1 : Int) (a0_X2 : Int) (a0_Y2 : Int) (a1_X1 : Int) (a1_Y1 : Int) (a1_X2 : Int) (a1_Y2 : Int) : exec C_ref08_less Tryz.f95.ntmps M_ref08_joins F 0 (bo Tryz.f95) (initSt [.agg [.int .i64 a0_X1, .int .i64 a0_Y1, .int .i64 a0_X2, .int .i64 a0_Y2], .agg [.int .i64 a1_X1, .int .i64 a1_Y1, .int .i64 a1_X2, .int .i64 a1_Y2]]) (AEnds C_ref08_less false Tryz.f95 Post) = g_ref08_joins_e a0_X1 a0_Y1 a0_X2 a0_Y2 a1_X1 a1_Y1 a1_X2 a1_Y2 (fun r0 => Post (.bool r0)) := by kernel_rfl
theorem exec_ref08_joins (F : Nat) (Post : AVal UU → Prop) (a0_X1 : Int) (a0_Y1 : Int) (a0_X2 : Int) (a0_Y2 : Int) (a1_X1 : Int) (a1_Y1 : Int) (a1_X2 : Int) (a1_Y2 : Int) : exec C_ref08_less Tryz.f95.ntmps M_ref08_joins F 0 (bo Tryz.f95) (initSt [.agg [.int .i64 a0_X1, .int .i64 a0_Y1, .int .i64 a0_X2, .int .i64 a0_Y2], .agg [.int .i64 a1_X1, .int .i64 a1_Y1, .int .i64 a1_X2, .int .i64 a1_Y2]]) (AEnds C_ref08_less false Tryz.f95 Post) = w_ref08_joins F a0_X1 a0_Y1 a0_X2 a0_Y2 a1_X1 a1_Y1 a1_X2 a1_Y2 (fun r0 => Post (.bool r0)) := by
  rw [entry_ref08_joins]
  rfl
def m_ref08_joins : Model UU
  | [.agg [.int .i64 a0_X1, .int .i64 a0_Y1, .int .i64 a0_X2, .int .i64 a0_Y2], .agg [.int .i64 a1_X1, .int .i64 a1_Y1, .int .i64 a1_X2, .int .i64 a1_Y2]] => some ([], .bool (sp_ref08_joins a0_X1 a0_Y1 a0_X2 a0_Y2 a1_X1 a1_Y1 a1_X2 a1_Y2))
  | _ => none
def C_ref08_joins : Cfg UU := C_ref08_less.add 95 m_ref08_joins
theorem s_ref08_joins : SumOK C_ref08_joins := by
  refine s_ref08_less.addD mixed (fn := Tryz.f95) (c := bo Tryz.f95) Tryz.func95 (by kernel_rfl) (by kernel_rfl) ?_
  intro xs cs r h hc
  unfold m_ref08_joins at h
  split at h
  · rename_i a0_X1 a0_Y1 a0_X2 a0_Y2 a1_X1 a1_Y1 a1_X2 a1_Y2
    cases h
    obtain ⟨F, hF⟩ := ok_ref08_joins a0_X1 a0_Y1 a0_X2 a0_Y2 a1_X1 a1_Y1 a1_X2 a1_Y2
    refine ⟨by kernel_rfl, M_ref08_joins, F, false, ⟨?_⟩⟩
    rw [exec_ref08_joins]
    refine hF _ ?_
    rfl
  · cases h
set_option maxRecDepth 100000 in
theorem entry_program_after (F : Nat) (Post : AVal UU → Prop) (a0_Kind : Int) (a0_X : Int) (a0_Y : Int) (a0_W : Int) (a0_H : Int) (a0_N : Int) (a1_X : Int) (a1_Y : Int) : exec C_ref08_joins Tryz.f56.ntmps M_program_after F 0 (bo Tryz.f56) (initSt [.agg [.int .i64 a0_Kind, .int .i64 a0_X, .int .i64 a0_Y, .int .i64 a0_W, .int .i64 a0_H, .int .i64 a0_N], .agg [.int .i64 a1_X, .int .i64 a1_Y]]) (AEnds C_ref08_joins false Tryz.f56 Post) = g_program_after_e a0_Kind a0_X a0_Y a0_W a0_H a0_N a1_X a1_Y (fun r0_X r0_Y => Post (.agg [.int .i64 r0_X, .int .i64 r0_Y])) := by kernel_rfl
theorem exec_program_after (F : Nat) (Post : AVal UU → Prop) (a0_Kind : Int) (a0_X : Int) (a0_Y : Int) (a0_W : Int) (a0_H : Int) (a0_N : Int) (a1_X : Int) (a1_Y : Int) : exec C_ref08_joins Tryz.f56.ntmps M_program_after F 0 (bo Tryz.f56) (initSt [.agg [.int .i64 a0_Kind, .int .i64 a0_X, .int .i64 a0_Y, .int .i64 a0_W, .int .i64 a0_H, .int .i64 a0_N], .agg [.int .i64 a1_X, .int .i64 a1_Y]]) (AEnds C_ref08_joins false Tryz.f56 Post) = w_program_after F a0_Kind a0_X a0_Y a0_W a0_H a0_N a1_X a1_Y (fun r0_X r0_Y => Post (.agg [.int .i64 r0_X, .int .i64 r0_Y])) := by
  rw [entry_program_after]
  rfl
def m_program_after : Model UU
  | [.agg [.int .i64 a0_Kind, .int .i64 a0_X, .int .i64 a0_Y, .int .i64 a0_W, .int .i64 a0_H, .int .i64 a0_N], .agg [.int .i64 a1_X, .int .i64 a1_Y]] => some ([], .agg [.int .i64 ((sp_program_after a0_Kind a0_X a0_Y a0_W a0_H a0_N a1_X a1_Y).1), .int .i64 ((sp_program_after a0_Kind a0_X a0_Y a0_W a0_H a0_N a1_X a1_Y).2)])
  | _ => none
def C_program_after : Cfg UU := C_ref08_joins.add 56 m_program_after
theorem s_program_after : SumOK C_program_after := by
  refine s_ref08_joins.addD mixed (fn := Tryz.f56) (c := bo Tryz.f56) Tryz.func56 (by kernel_rfl) (by kernel_rfl) ?_
  intro xs cs r h hc
  unfold m_program_after at h
  split at h
  · rename_i a0_Kind a0_X a0_Y a0_W a0_H a0_N a1_X a1_Y
    cases h
    obtain ⟨F, hF⟩ := ok_program_after a0_Kind a0_X a0_Y a0_W a0_H a0_N a1_X a1_Y
    refine ⟨by kernel_rfl, M_program_after, F, false, ⟨?_⟩⟩
    rw [exec_program_after]
    refine hF _ ?_
    rfl
  · cases h
set_option maxRecDepth 100000 in
theorem entry_program_clean (F : Nat) (Post : AVal UU → Prop) (a0_Kind : Int) (a0_X : Int) (a0_Y : Int) (a0_W : Int) (a0_H : Int) (a0_N : Int) : exec C_program_after Tryz.f52.ntmps M_program_clean F 0 (bo Tryz.f52) (initSt [.agg [.int .i64 a0_Kind, .int .i64 a0_X, .int .i64 a0_Y, .int .i64 a0_W, .int .i64 a0_H, .int .i64 a0_N]]) (AEnds C_program_after false Tryz.f52 Post) = g_program_clean_e a0_Kind a0_X a0_Y a0_W a0_H a0_N (fun r0 => Post (.bool r0)) := by kernel_rfl
theorem exec_program_clean (F : Nat) (Post : AVal UU → Prop) (a0_Kind : Int) (a0_X : Int) (a0_Y : Int) (a0_W : Int) (a0_H : Int) (a0_N : Int) : exec C_program_after Tryz.f52.ntmps M_program_clean F 0 (bo Tryz.f52) (initSt [.agg [.int .i64 a0_Kind, .int .i64 a0_X, .int .i64 a0_Y, .int .i64 a0_W, .int .i64 a0_H, .int .i64 a0_N]]) (AEnds C_program_after false Tryz.f52 Post) = w_program_clean F a0_Kind a0_X a0_Y a0_W a0_H a0_N (fun r0 => Post (.bool r0)) := by
  rw [entry_program_clean]
  rfl
def m_program_clean : Model UU
  | [.agg [.int .i64 a0_Kind, .int .i64 a0_X, .int .i64 a0_Y, .int .i64 a0_W, .int .i64 a0_H, .int .i64 a0_N]] => some ([], .bool (sp_program_clean a0_Kind a0_X a0_Y a0_W a0_H a0_N))
  | _ => none
def C_program_clean : Cfg UU := C_program_after.add 52 m_program_clean
theorem s_program_clean : SumOK C_program_clean := by
  refine s_program_after.addD mixed (fn := Tryz.f52) (c := bo Tryz.f52) Tryz.func52 (by kernel_rfl) (by kernel_rfl) ?_
  intro xs cs r h hc
  unfold m_program_clean at h
  split at h
  · rename_i a0_Kind a0_X a0_Y a0_W a0_H a0_N
    cases h
    obtain ⟨F, hF⟩ := ok_program_clean a0_Kind a0_X a0_Y a0_W a0_H a0_N
    refine ⟨by kernel_rfl, M_program_clean, F, false, ⟨?_⟩⟩
    rw [exec_program_clean]
    refine hF _ ?_
    rfl
  · cases h
set_option maxRecDepth 100000 in
theorem entry_ref08_clean (F : Nat) (Post : AVal UU → Prop) (a0_Kind : Int) (a0_X : Int) (a0_Y : Int) (a0_W : Int) (a0_H : Int) (a0_N : Int) : exec C_program_clean Tryz.f58.ntmps M_ref08_clean F 0 (bo Tryz.f58) (initSt [.agg [.int .i64 a0_Kind, .int .i64 a0_X, .int .i64 a0_Y, .int .i64 a0_W, .int .i64 a0_H, .int .i64 a0_N]]) (AEnds C_program_clean false Tryz.f58 Post) = g_ref08_clean_e a0_Kind a0_X a0_Y a0_W a0_H a0_N (fun r0 => Post (.bool r0)) := by kernel_rfl
theorem exec_ref08_clean (F : Nat) (Post : AVal UU → Prop) (a0_Kind : Int) (a0_X : Int) (a0_Y : Int) (a0_W : Int) (a0_H : Int) (a0_N : Int) : exec C_program_clean Tryz.f58.ntmps M_ref08_clean F 0 (bo Tryz.f58) (initSt [.agg [.int .i64 a0_Kind, .int .i64 a0_X, .int .i64 a0_Y, .int .i64 a0_W, .int .i64 a0_H, .int .i64 a0_N]]) (AEnds C_program_clean false Tryz.f58 Post) = w_ref08_clean F a0_Kind a0_X a0_Y a0_W a0_H a0_N (fun r0 => Post (.bool r0)) := by
  rw [entry_ref08_clean]
  rfl
def m_ref08_clean : Model UU
  | [.agg [.int .i64 a0_Kind, .int .i64 a0_X, .int .i64 a0_Y, .int .i64 a0_W, .int .i64 a0_H, .int .i64 a0_N]] => some ([], .bool (sp_ref08_clean a0_Kind a0_X a0_Y a0_W a0_H a0_N))
  | _ => none
def C_ref08_clean : Cfg UU := C_program_clean.add 58 m_ref08_clean
theorem s_ref08_clean : SumOK C_ref08_clean := by
  refine s_program_clean.addD mixed (fn := Tryz.f58) (c := bo Tryz.f58) Tryz.func58 (by kernel_rfl) (by kernel_rfl) ?_
  intro xs cs r h hc
  unfold m_ref08_clean at h
  split at h
  · rename_i a0_Kind a0_X a0_Y a0_W a0_H a0_N
    cases h
    obtain ⟨F, hF⟩ := ok_ref08_clean a0_Kind a0_X a0_Y a0_W a0_H a0_N
    refine ⟨by kernel_rfl, M_ref08_clean, F, false, ⟨?_⟩⟩
    rw [exec_ref08_clean]
    refine hF _ ?_
    rfl
  · cases h
set_option maxRecDepth 100000 in
theorem entry_ref08_small (F : Nat) (Post : AVal UU → Prop) (a0 : Int) : exec C_ref08_clean Tryz.f60.ntmps M_ref08_small F 0 (bo Tryz.f60) (initSt [.int .i64 a0]) (AEnds C_ref08_clean false Tryz.f60 Post) = g_ref08_small_e a0 (fun r0 => Post (.bool r0)) := by kernel_rfl
theorem exec_ref08_small (F : Nat) (Post : AVal UU → Prop) (a0 : Int) : exec C_ref08_clean Tryz.f60.ntmps M_ref08_small F 0 (bo Tryz.f60) (initSt [.int .i64 a0]) (AEnds C_ref08_clean false Tryz.f60 Post) = w_ref08_small F a0 (fun r0 => Post (.bool r0)) := by
  rw [entry_ref08_small]
  rfl
def m_ref08_small : Model UU
  | [.int .i64 a0] => some ([], .bool (sp_ref08_small a0))
  | _ => none
def C_ref08_small : Cfg UU := C_ref08_clean.add 60 m_ref08_small
theorem s_ref08_small : SumOK C_ref08_small := by
  refine s_ref08_clean.addD mixed (fn := Tryz.f60) (c := bo Tryz.f60) Tryz.func60 (by kernel_rfl) (by kernel_rfl) ?_
  intro xs cs r h hc
  unfold m_ref08_small at h
  split at h
  · rename_i a0
    cases h
    obtain ⟨F, hF⟩ := ok_ref08_small a0
    refine ⟨by kernel_rfl, M_ref08_small, F, false, ⟨?_⟩⟩
    rw [exec_ref08_small]
    refine hF _ ?_
    rfl
  · cases h
set_option maxRecDepth 100000 in
theorem entry_ref08_speaks (F : Nat) (Post : AVal UU → Prop) (a0 : Int) (a1 : Int) : exec C_ref08_small Tryz.f59.ntmps M_ref08_speaks F 0 (bo Tryz.f59) (initSt [.int .i64 a0, .int .i64 a1]) (AEnds C_ref08_small false Tryz.f59 Post) = g_ref08_speaks_e a0 a1 (fun r0 => Post (.bool r0)) := by kernel_rfl
theorem exec_ref08_speaks (F : Nat) (Post : AVal UU → Prop) (a0 : Int) (a1 : Int) : exec C_ref08_small Tryz.f59.ntmps M_ref08_speaks F 0 (bo Tryz.f59) (initSt [.int .i64 a0, .int .i64 a1]) (AEnds C_ref08_small false Tryz.f59 Post) = w_ref08_speaks F a0 a1 (fun r0 => Post (.bool r0)) := by
  rw [entry_ref08_speaks]
  rfl
def m_ref08_speaks : Model UU
  | [.int .i64 a0, .int .i64 a1] => some ([], .bool (sp_ref08_speaks a0 a1))
  | _ => none
def C_ref08_speaks : Cfg UU := C_ref08_small.add 59 m_ref08_speaks
theorem s_ref08_speaks : SumOK C_ref08_speaks := by
  refine s_ref08_small.addD mixed (fn := Tryz.f59) (c := bo Tryz.f59) Tryz.func59 (by kernel_rfl) (by kernel_rfl) ?_
  intro xs cs r h hc
  unfold m_ref08_speaks at h
  split at h
  · rename_i a0 a1
    cases h
    obtain ⟨F, hF⟩ := ok_ref08_speaks a0 a1
    refine ⟨by kernel_rfl, M_ref08_speaks, F, false, ⟨?_⟩⟩
    rw [exec_ref08_speaks]
    refine hF _ ?_
    rfl
  · cases h
set_option maxRecDepth 100000 in
theorem entry_geom_ValidRect_1 (F : Nat) (Post : AVal UU → Prop) (a0 : Int) (a1 : Int) : exec C_ref08_speaks Tryz.f131.ntmps M_geom_ValidRect_1 F 0 (bo Tryz.f131) (initSt [.int .i64 a0, .int .i64 a1]) (AEnds C_ref08_speaks false Tryz.f131 Post) = g_geom_ValidRect_1_e a0 a1 (fun r0 => Post (.bool r0)) := by kernel_rfl
theorem exec_geom_ValidRect_1 (F : Nat) (Post : AVal UU → Prop) (a0 : Int) (a1 : Int) : exec C_ref08_speaks Tryz.f131.ntmps M_geom_ValidRect_1 F 0 (bo Tryz.f131) (initSt [.int .i64 a0, .int .i64 a1]) (AEnds C_ref08_speaks false Tryz.f131 Post) = w_geom_ValidRect_1 F a0 a1 (fun r0 => Post (.bool r0)) := by
  rw [entry_geom_ValidRect_1]
  rfl
def m_geom_ValidRect_1 : Model UU
  | [.int .i64 a0, .int .i64 a1] => some ([], .bool (sp_geom_ValidRect_1 a0 a1))
  | _ => none
def C_geom_ValidRect_1 : Cfg UU := C_ref08_speaks.add 131 m_geom_ValidRect_1
theorem s_geom_ValidRect_1 : SumOK C_geom_ValidRect_1 := by
  refine s_ref08_speaks.addD mixed (fn := Tryz.f131) (c := bo Tryz.f131) Tryz.func131 (by kernel_rfl) (by kernel_rfl) ?_
  intro xs cs r h hc
  unfold m_geom_ValidRect_1 at h
  split at h
  · rename_i a0 a1
    cases h
    obtain ⟨F, hF⟩ := ok_geom_ValidRect_1 a0 a1
    refine ⟨by kernel_rfl, M_geom_ValidRect_1, F, false, ⟨?_⟩⟩
    rw [exec_geom_ValidRect_1]
    refine hF _ ?_
    rfl
  · cases h
set_option maxRecDepth 100000 in
theorem entry_geom_ValidRect (F : Nat) (Post : AVal UU → Prop) (a0_X : Int) (a0_Y : Int) (a0_W : Int) (a0_H : Int) : exec C_geom_ValidRect_1 Tryz.f75.ntmps M_geom_ValidRect F 0 (bo Tryz.f75) (initSt [.agg [.int .i64 a0_X, .int .i64 a0_Y, .int .i64 a0_W, .int .i64 a0_H]]) (AEnds C_geom_ValidRect_1 false Tryz.f75 Post) = g_geom_ValidRect_e a0_X a0_Y a0_W a0_H (fun r0 => Post (.bool r0)) := by kernel_rfl
theorem exec_geom_ValidRect (F : Nat) (Post : AVal UU → Prop) (a0_X : Int) (a0_Y : Int) (a0_W : Int) (a0_H : Int) : exec C_geom_ValidRect_1 Tryz.f75.ntmps M_geom_ValidRect F 0 (bo Tryz.f75) (initSt [.agg [.int .i64 a0_X, .int .i64 a0_Y, .int .i64 a0_W, .int .i64 a0_H]]) (AEnds C_geom_ValidRect_1 false Tryz.f75 Post) = w_geom_ValidRect F a0_X a0_Y a0_W a0_H (fun r0 => Post (.bool r0)) := by
  rw [entry_geom_ValidRect]
  rfl
def m_geom_ValidRect : Model UU
  | [.agg [.int .i64 a0_X, .int .i64 a0_Y, .int .i64 a0_W, .int .i64 a0_H]] => some ([], .bool (sp_geom_ValidRect a0_X a0_Y a0_W a0_H))
  | _ => none
def C_geom_ValidRect : Cfg UU := C_geom_ValidRect_1.add 75 m_geom_ValidRect
theorem s_geom_ValidRect : SumOK C_geom_ValidRect := by
  refine s_geom_ValidRect_1.addD mixed (fn := Tryz.f75) (c := bo Tryz.f75) Tryz.func75 (by kernel_rfl) (by kernel_rfl) ?_
  intro xs cs r h hc
  unfold m_geom_ValidRect at h
  split at h
  · rename_i a0_X a0_Y a0_W a0_H
    cases h
    obtain ⟨F, hF⟩ := ok_geom_ValidRect a0_X a0_Y a0_W a0_H
    refine ⟨by kernel_rfl, M_geom_ValidRect, F, false, ⟨?_⟩⟩
    rw [exec_geom_ValidRect]
    refine hF _ ?_
    rfl
  · cases h
set_option maxRecDepth 100000 in
theorem entry_geom_Inside (F : Nat) (Post : AVal UU → Prop) (a0_X : Int) (a0_Y : Int) (a0_W : Int) (a0_H : Int) (a1_X : Int) (a1_Y : Int) (a1_W : Int) (a1_H : Int) : exec C_geom_ValidRect Tryz.f46.ntmps M_geom_Inside F 0 (bo Tryz.f46) (initSt [.agg [.int .i64 a0_X, .int .i64 a0_Y, .int .i64 a0_W, .int .i64 a0_H], .agg [.int .i64 a1_X, .int .i64 a1_Y, .int .i64 a1_W, .int .i64 a1_H]]) (AEnds C_geom_ValidRect false Tryz.f46 Post) = g_geom_Inside_e a0_X a0_Y a0_W a0_H a1_X a1_Y a1_W a1_H (fun r0 => Post (.bool r0)) := by kernel_rfl
theorem exec_geom_Inside (F : Nat) (Post : AVal UU → Prop) (a0_X : Int) (a0_Y : Int) (a0_W : Int) (a0_H : Int) (a1_X : Int) (a1_Y : Int) (a1_W : Int) (a1_H : Int) : exec C_geom_ValidRect Tryz.f46.ntmps M_geom_Inside F 0 (bo Tryz.f46) (initSt [.agg [.int .i64 a0_X, .int .i64 a0_Y, .int .i64 a0_W, .int .i64 a0_H], .agg [.int .i64 a1_X, .int .i64 a1_Y, .int .i64 a1_W, .int .i64 a1_H]]) (AEnds C_geom_ValidRect false Tryz.f46 Post) = w_geom_Inside F a0_X a0_Y a0_W a0_H a1_X a1_Y a1_W a1_H (fun r0 => Post (.bool r0)) := by
  rw [entry_geom_Inside]
  rfl
def m_geom_Inside : Model UU
  | [.agg [.int .i64 a0_X, .int .i64 a0_Y, .int .i64 a0_W, .int .i64 a0_H], .agg [.int .i64 a1_X, .int .i64 a1_Y, .int .i64 a1_W, .int .i64 a1_H]] => some ([], .bool (sp_geom_Inside a0_X a0_Y a0_W a0_H a1_X a1_Y a1_W a1_H))
  | _ => none
def C_geom_Inside : Cfg UU := C_geom_ValidRect.add 46 m_geom_Inside
theorem s_geom_Inside : SumOK C_geom_Inside := by
  refine s_geom_ValidRect.addD mixed (fn := Tryz.f46) (c := bo Tryz.f46) Tryz.func46 (by kernel_rfl) (by kernel_rfl) ?_
  intro xs cs r h hc
  unfold m_geom_Inside at h
  split at h
  · rename_i a0_X a0_Y a0_W a0_H a1_X a1_Y a1_W a1_H
    cases h
    obtain ⟨F, hF⟩ := ok_geom_Inside a0_X a0_Y a0_W a0_H a1_X a1_Y a1_W a1_H
    refine ⟨by kernel_rfl, M_geom_Inside, F, false, ⟨?_⟩⟩
    rw [exec_geom_Inside]
    refine hF _ ?_
    rfl
  · cases h
set_option maxRecDepth 100000 in
theorem entry_nest_plain (F : Nat) (Post : AVal UU → Prop) (a0 : Int) (a1 : Int) : exec C_geom_Inside Tryz.f77.ntmps M_nest_plain F 0 (bo Tryz.f77) (initSt [.int .i64 a0, .int .i64 a1]) (AEnds C_geom_Inside false Tryz.f77 Post) = g_nest_plain_e a0 a1 (fun r0 => Post (.bool r0)) := by kernel_rfl
theorem exec_nest_plain (F : Nat) (Post : AVal UU → Prop) (a0 : Int) (a1 : Int) : exec C_geom_Inside Tryz.f77.ntmps M_nest_plain F 0 (bo Tryz.f77) (initSt [.int .i64 a0, .int .i64 a1]) (AEnds C_geom_Inside false Tryz.f77 Post) = w_nest_plain F a0 a1 (fun r0 => Post (.bool r0)) := by
  rw [entry_nest_plain]
  rfl
def m_nest_plain : Model UU
  | [.int .i64 a0, .int .i64 a1] => some ([], .bool (sp_nest_plain a0 a1))
  | _ => none
def C_nest_plain : Cfg UU := C_geom_Inside.add 77 m_nest_plain
theorem s_nest_plain : SumOK C_nest_plain := by
  refine s_geom_Inside.addD mixed (fn := Tryz.f77) (c := bo Tryz.f77) Tryz.func77 (by kernel_rfl) (by kernel_rfl) ?_
  intro xs cs r h hc
  unfold m_nest_plain at h
  split at h
  · rename_i a0 a1
    cases h
    obtain ⟨F, hF⟩ := ok_nest_plain a0 a1
    refine ⟨by kernel_rfl, M_nest_plain, F, false, ⟨?_⟩⟩
    rw [exec_nest_plain]
    refine hF _ ?_
    rfl
  · cases h
set_option maxRecDepth 100000 in
theorem entry_nest_inner (F : Nat) (Post : AVal UU → Prop) (a0_Name : ByteArray) (a0_Material : ByteArray) (a0_Gauge : Int) (a0_Grain : Int) (a0_Width : Int) (a0_Height : Int) (a0_Clamps : List Rect) (a0_Used : List Rect) (a1 : Int) : exec C_nest_plain Tryz.f80.ntmps M_nest_inner F 0 (bo Tryz.f80) (initSt [.agg [.str a0_Name, .str a0_Material, .int .i64 a0_Gauge, .int .i64 a0_Grain, .int .i64 a0_Width, .int .i64 a0_Height, .sl .rect a0_Clamps, .sl .rect a0_Used], .int .i64 a1]) (AEnds C_nest_plain false Tryz.f80 Post) = g_nest_inner_e a0_Name a0_Material a0_Gauge a0_Grain a0_Width a0_Height a0_Clamps a0_Used a1 (fun r0_X r0_Y r0_W r0_H r1 => Post (.tup [.agg [.int .i64 r0_X, .int .i64 r0_Y, .int .i64 r0_W, .int .i64 r0_H], .bool r1])) := by kernel_rfl
theorem exec_nest_inner (F : Nat) (Post : AVal UU → Prop) (a0_Name : ByteArray) (a0_Material : ByteArray) (a0_Gauge : Int) (a0_Grain : Int) (a0_Width : Int) (a0_Height : Int) (a0_Clamps : List Rect) (a0_Used : List Rect) (a1 : Int) : exec C_nest_plain Tryz.f80.ntmps M_nest_inner F 0 (bo Tryz.f80) (initSt [.agg [.str a0_Name, .str a0_Material, .int .i64 a0_Gauge, .int .i64 a0_Grain, .int .i64 a0_Width, .int .i64 a0_Height, .sl .rect a0_Clamps, .sl .rect a0_Used], .int .i64 a1]) (AEnds C_nest_plain false Tryz.f80 Post) = w_nest_inner F a0_Name a0_Material a0_Gauge a0_Grain a0_Width a0_Height a0_Clamps a0_Used a1 (fun r0_X r0_Y r0_W r0_H r1 => Post (.tup [.agg [.int .i64 r0_X, .int .i64 r0_Y, .int .i64 r0_W, .int .i64 r0_H], .bool r1])) := by
  rw [entry_nest_inner]
  rfl
def m_nest_inner : Model UU
  | [.agg [.str a0_Name, .str a0_Material, .int .i64 a0_Gauge, .int .i64 a0_Grain, .int .i64 a0_Width, .int .i64 a0_Height, .sl .rect a0_Clamps, .sl .rect a0_Used], .int .i64 a1] => some ([], .tup [.agg [.int .i64 ((sp_nest_inner a0_Name a0_Material a0_Gauge a0_Grain a0_Width a0_Height a0_Clamps a0_Used a1).1), .int .i64 ((sp_nest_inner a0_Name a0_Material a0_Gauge a0_Grain a0_Width a0_Height a0_Clamps a0_Used a1).2.1), .int .i64 ((sp_nest_inner a0_Name a0_Material a0_Gauge a0_Grain a0_Width a0_Height a0_Clamps a0_Used a1).2.2.1), .int .i64 ((sp_nest_inner a0_Name a0_Material a0_Gauge a0_Grain a0_Width a0_Height a0_Clamps a0_Used a1).2.2.2.1)], .bool ((sp_nest_inner a0_Name a0_Material a0_Gauge a0_Grain a0_Width a0_Height a0_Clamps a0_Used a1).2.2.2.2)])
  | _ => none
def C_nest_inner : Cfg UU := C_nest_plain.add 80 m_nest_inner
theorem s_nest_inner : SumOK C_nest_inner := by
  refine s_nest_plain.addD mixed (fn := Tryz.f80) (c := bo Tryz.f80) Tryz.func80 (by kernel_rfl) (by kernel_rfl) ?_
  intro xs cs r h hc
  unfold m_nest_inner at h
  split at h
  · rename_i a0_Name a0_Material a0_Gauge a0_Grain a0_Width a0_Height a0_Clamps a0_Used a1
    cases h
    obtain ⟨F, hF⟩ := ok_nest_inner a0_Name a0_Material a0_Gauge a0_Grain a0_Width a0_Height a0_Clamps a0_Used a1
    refine ⟨by kernel_rfl, M_nest_inner, F, false, ⟨?_⟩⟩
    rw [exec_nest_inner]
    refine hF _ ?_
    rfl
  · cases h
set_option maxRecDepth 100000 in
theorem entry_ref06_Right (F : Nat) (Post : AVal UU → Prop) (a0_X : Int) (a0_Y : Int) (a0_W : Int) (a0_H : Int) : exec C_nest_inner Tryz.f93.ntmps M_ref06_Right F 0 (bo Tryz.f93) (initSt [.agg [.int .i64 a0_X, .int .i64 a0_Y, .int .i64 a0_W, .int .i64 a0_H]]) (AEnds C_nest_inner false Tryz.f93 Post) = g_ref06_Right_e a0_X a0_Y a0_W a0_H (fun r0 => Post (.bool r0)) := by kernel_rfl
theorem exec_ref06_Right (F : Nat) (Post : AVal UU → Prop) (a0_X : Int) (a0_Y : Int) (a0_W : Int) (a0_H : Int) : exec C_nest_inner Tryz.f93.ntmps M_ref06_Right F 0 (bo Tryz.f93) (initSt [.agg [.int .i64 a0_X, .int .i64 a0_Y, .int .i64 a0_W, .int .i64 a0_H]]) (AEnds C_nest_inner false Tryz.f93 Post) = w_ref06_Right F a0_X a0_Y a0_W a0_H (fun r0 => Post (.bool r0)) := by
  rw [entry_ref06_Right]
  rfl
def m_ref06_Right : Model UU
  | [.agg [.int .i64 a0_X, .int .i64 a0_Y, .int .i64 a0_W, .int .i64 a0_H]] => some ([], .bool (sp_ref06_Right a0_X a0_Y a0_W a0_H))
  | _ => none
def C_ref06_Right : Cfg UU := C_nest_inner.add 93 m_ref06_Right
theorem s_ref06_Right : SumOK C_ref06_Right := by
  refine s_nest_inner.addD mixed (fn := Tryz.f93) (c := bo Tryz.f93) Tryz.func93 (by kernel_rfl) (by kernel_rfl) ?_
  intro xs cs r h hc
  unfold m_ref06_Right at h
  split at h
  · rename_i a0_X a0_Y a0_W a0_H
    cases h
    obtain ⟨F, hF⟩ := ok_ref06_Right a0_X a0_Y a0_W a0_H
    refine ⟨by kernel_rfl, M_ref06_Right, F, false, ⟨?_⟩⟩
    rw [exec_ref06_Right]
    refine hF _ ?_
    rfl
  · cases h
set_option maxRecDepth 100000 in
theorem entry_ref06_Within (F : Nat) (Post : AVal UU → Prop) (a0_X : Int) (a0_Y : Int) (a0_W : Int) (a0_H : Int) (a1_X : Int) (a1_Y : Int) (a1_W : Int) (a1_H : Int) : exec C_ref06_Right Tryz.f35.ntmps M_ref06_Within F 0 (bo Tryz.f35) (initSt [.agg [.int .i64 a0_X, .int .i64 a0_Y, .int .i64 a0_W, .int .i64 a0_H], .agg [.int .i64 a1_X, .int .i64 a1_Y, .int .i64 a1_W, .int .i64 a1_H]]) (AEnds C_ref06_Right false Tryz.f35 Post) = g_ref06_Within_e a0_X a0_Y a0_W a0_H a1_X a1_Y a1_W a1_H (fun r0 => Post (.bool r0)) := by kernel_rfl
theorem exec_ref06_Within (F : Nat) (Post : AVal UU → Prop) (a0_X : Int) (a0_Y : Int) (a0_W : Int) (a0_H : Int) (a1_X : Int) (a1_Y : Int) (a1_W : Int) (a1_H : Int) : exec C_ref06_Right Tryz.f35.ntmps M_ref06_Within F 0 (bo Tryz.f35) (initSt [.agg [.int .i64 a0_X, .int .i64 a0_Y, .int .i64 a0_W, .int .i64 a0_H], .agg [.int .i64 a1_X, .int .i64 a1_Y, .int .i64 a1_W, .int .i64 a1_H]]) (AEnds C_ref06_Right false Tryz.f35 Post) = w_ref06_Within F a0_X a0_Y a0_W a0_H a1_X a1_Y a1_W a1_H (fun r0 => Post (.bool r0)) := by
  rw [entry_ref06_Within]
  rfl
def m_ref06_Within : Model UU
  | [.agg [.int .i64 a0_X, .int .i64 a0_Y, .int .i64 a0_W, .int .i64 a0_H], .agg [.int .i64 a1_X, .int .i64 a1_Y, .int .i64 a1_W, .int .i64 a1_H]] => some ([], .bool (sp_ref06_Within a0_X a0_Y a0_W a0_H a1_X a1_Y a1_W a1_H))
  | _ => none
def C_ref06_Within : Cfg UU := C_ref06_Right.add 35 m_ref06_Within
theorem s_ref06_Within : SumOK C_ref06_Within := by
  refine s_ref06_Right.addD mixed (fn := Tryz.f35) (c := bo Tryz.f35) Tryz.func35 (by kernel_rfl) (by kernel_rfl) ?_
  intro xs cs r h hc
  unfold m_ref06_Within at h
  split at h
  · rename_i a0_X a0_Y a0_W a0_H a1_X a1_Y a1_W a1_H
    cases h
    obtain ⟨F, hF⟩ := ok_ref06_Within a0_X a0_Y a0_W a0_H a1_X a1_Y a1_W a1_H
    refine ⟨by kernel_rfl, M_ref06_Within, F, false, ⟨?_⟩⟩
    rw [exec_ref06_Within]
    refine hF _ ?_
    rfl
  · cases h
set_option maxRecDepth 100000 in
theorem entry_ref06_stuff (F : Nat) (Post : AVal UU → Prop) (a0 : ByteArray) (a1 : ByteArray) (a2 : Int) (a3 : Int) : exec C_ref06_Within Tryz.f90.ntmps M_ref06_stuff F 0 (bo Tryz.f90) (initSt [.str a0, .str a1, .int .i64 a2, .int .i64 a3]) (AEnds C_ref06_Within false Tryz.f90 Post) = g_ref06_stuff_e a0 a1 a2 a3 (fun r0 => Post (.int .i64 r0)) := by kernel_rfl
theorem exec_ref06_stuff (F : Nat) (Post : AVal UU → Prop) (a0 : ByteArray) (a1 : ByteArray) (a2 : Int) (a3 : Int) : exec C_ref06_Within Tryz.f90.ntmps M_ref06_stuff F 0 (bo Tryz.f90) (initSt [.str a0, .str a1, .int .i64 a2, .int .i64 a3]) (AEnds C_ref06_Within false Tryz.f90 Post) = w_ref06_stuff F a0 a1 a2 a3 (fun r0 => Post (.int .i64 r0)) := by
  rw [entry_ref06_stuff]
  rfl
def m_ref06_stuff : Model UU
  | [.str a0, .str a1, .int .i64 a2, .int .i64 a3] => some ([], .int .i64 (sp_ref06_stuff a0 a1 a2 a3))
  | _ => none
def C_ref06_stuff : Cfg UU := C_ref06_Within.add 90 m_ref06_stuff
theorem s_ref06_stuff : SumOK C_ref06_stuff := by
  refine s_ref06_Within.addD mixed (fn := Tryz.f90) (c := bo Tryz.f90) Tryz.func90 (by kernel_rfl) (by kernel_rfl) ?_
  intro xs cs r h hc
  unfold m_ref06_stuff at h
  split at h
  · rename_i a0 a1 a2 a3
    cases h
    obtain ⟨F, hF⟩ := ok_ref06_stuff a0 a1 a2 a3
    refine ⟨by kernel_rfl, M_ref06_stuff, F, false, ⟨?_⟩⟩
    rw [exec_ref06_stuff]
    refine hF _ ?_
    rfl
  · cases h
end
end Go.Proofs.YteffpgliiilnjaaGreatDoor

namespace Go.Proofs.YteffpgliiilnjaaGreatDoor
open Go.Vm Go.RowKit
set_option linter.unusedVariables false
noncomputable section
def k_nest_valid_0 (F : Nat) (Post : AVal UU → Prop) : AEx → ASt UU → Prop := kBlock 0 (kSeq (inliner M_nest_valid F 0 C_ref06_stuff) C_ref06_stuff Tryz.f79.ntmps M_nest_valid F 0 (cS (cS (bo Tryz.f79))) (AEnds C_ref06_stuff false Tryz.f79 Post))
set_option maxRecDepth 100000 in
theorem step_nest_valid_0 (F n r : Nat) (K : AEx → ASt UU → Prop) (t2 : Bool) (t5 : List Rect) (t6 : Int) (t7 : Int) : iter (execG (inliner M_nest_valid F 0 C_ref06_stuff) C_ref06_stuff Tryz.f79.ntmps M_nest_valid F 0 (cL (cB (cS (cF (cS (bo Tryz.f79))))))) (M_nest_valid 0 0) (n + 1) r (st_nest_valid_0 t2 t5 t6 t7) K = g_nest_valid_s0 (fun t2 t5 t6 t7 => iter (execG (inliner M_nest_valid F 0 C_ref06_stuff) C_ref06_stuff Tryz.f79.ntmps M_nest_valid F 0 (cL (cB (cS (cF (cS (bo Tryz.f79))))))) (M_nest_valid 0 0) n (r + 1) (st_nest_valid_0 t2 t5 t6 t7) K) (fun t2 t5 t6 t7 => K .ret (st_nest_valid_0 t2 t5 t6 t7)) (fun t2 t5 t6 t7 => K (.exit 0) (st_nest_valid_0 t2 t5 t6 t7)) t2 t5 t6 t7 := by kernel_rfl
set_option maxRecDepth 100000 in
theorem cont_nest_valid_0_0 (F : Nat) (Post : AVal UU → Prop) (t2 : Bool) (t5 : List Rect) (t6 : Int) (t7 : Int) : k_nest_valid_0 F Post .ret (st_nest_valid_0 t2 t5 t6 t7) = g_nest_valid_c0_0 (fun r0 => Post (.bool r0)) t2 t5 t6 t7 := by kernel_rfl
set_option maxRecDepth 100000 in
theorem cont_nest_valid_0_1 (F : Nat) (Post : AVal UU → Prop) (t2 : Bool) (t5 : List Rect) (t6 : Int) (t7 : Int) : k_nest_valid_0 F Post (.exit 0) (st_nest_valid_0 t2 t5 t6 t7) = g_nest_valid_c0_1 (fun r0 => Post (.bool r0)) t2 t5 t6 t7 := by kernel_rfl
set_option maxRecDepth 100000 in
theorem entry_nest_valid (F : Nat) (Post : AVal UU → Prop) (a0 : List Rect) : exec C_ref06_stuff Tryz.f79.ntmps M_nest_valid F 0 (bo Tryz.f79) (initSt [.sl .rect a0]) (AEnds C_ref06_stuff false Tryz.f79 Post) = g_nest_valid_e a0 (fun r0 => Post (.bool r0)) (fun t2 t5 t6 t7 => iter (execG (inliner M_nest_valid F 0 C_ref06_stuff) C_ref06_stuff Tryz.f79.ntmps M_nest_valid F 0 (cL (cB (cS (cF (cS (bo Tryz.f79))))))) (M_nest_valid 0 0) F 0 (st_nest_valid_0 t2 t5 t6 t7) (k_nest_valid_0 F Post)) := by kernel_rfl
theorem loop_nest_valid_0 (F : Nat) (K : AEx → ASt UU → Prop) : ∀ (n r : Nat) (t2 : Bool) (t5 : List Rect) (t6 : Int) (t7 : Int), iter (execG (inliner M_nest_valid F 0 C_ref06_stuff) C_ref06_stuff Tryz.f79.ntmps M_nest_valid F 0 (cL (cB (cS (cF (cS (bo Tryz.f79))))))) (M_nest_valid 0 0) n r (st_nest_valid_0 t2 t5 t6 t7) K = w_nest_valid_0 F  (fun t2 t5 t6 t7 => K .ret (st_nest_valid_0 t2 t5 t6 t7)) (fun t2 t5 t6 t7 => K (.exit 0) (st_nest_valid_0 t2 t5 t6 t7)) n t2 t5 t6 t7 := by
  intro n
  induction n with
  | zero => intros; rfl
  | succ n ih =>
    intro r t2 t5 t6 t7
    have e : (fun t2 t5 t6 t7 => iter (execG (inliner M_nest_valid F 0 C_ref06_stuff) C_ref06_stuff Tryz.f79.ntmps M_nest_valid F 0 (cL (cB (cS (cF (cS (bo Tryz.f79))))))) (M_nest_valid 0 0) n (r + 1) (st_nest_valid_0 t2 t5 t6 t7) K) = w_nest_valid_0 F  (fun t2 t5 t6 t7 => K .ret (st_nest_valid_0 t2 t5 t6 t7)) (fun t2 t5 t6 t7 => K (.exit 0) (st_nest_valid_0 t2 t5 t6 t7)) n := by
      funext t2 t5 t6 t7
      exact ih (r + 1) t2 t5 t6 t7
    rw [step_nest_valid_0, e]
    rfl
theorem nl_nest_valid_0 (F : Nat) (Post : AVal UU → Prop) (t2 : Bool) (t5 : List Rect) (t6 : Int) (t7 : Int) : iter (execG (inliner M_nest_valid F 0 C_ref06_stuff) C_ref06_stuff Tryz.f79.ntmps M_nest_valid F 0 (cL (cB (cS (cF (cS (bo Tryz.f79))))))) (M_nest_valid 0 0) F 0 (st_nest_valid_0 t2 t5 t6 t7) (k_nest_valid_0 F Post) = n_nest_valid_0 F (fun r0 => Post (.bool r0)) t2 t5 t6 t7 := by
  rw [loop_nest_valid_0]
  have h0 : (fun t2 t5 t6 t7 => k_nest_valid_0 F Post .ret (st_nest_valid_0 t2 t5 t6 t7)) = (fun t2 t5 t6 t7 => g_nest_valid_c0_0 (fun r0 => Post (.bool r0)) t2 t5 t6 t7) := by
    funext t2 t5 t6 t7
    rw [cont_nest_valid_0_0]
  have h1 : (fun t2 t5 t6 t7 => k_nest_valid_0 F Post (.exit 0) (st_nest_valid_0 t2 t5 t6 t7)) = (fun t2 t5 t6 t7 => g_nest_valid_c0_1 (fun r0 => Post (.bool r0)) t2 t5 t6 t7) := by
    funext t2 t5 t6 t7
    rw [cont_nest_valid_0_1]
  rw [h0, h1]
  rfl
theorem exec_nest_valid (F : Nat) (Post : AVal UU → Prop) (a0 : List Rect) : exec C_ref06_stuff Tryz.f79.ntmps M_nest_valid F 0 (bo Tryz.f79) (initSt [.sl .rect a0]) (AEnds C_ref06_stuff false Tryz.f79 Post) = w_nest_valid F a0 (fun r0 => Post (.bool r0)) := by
  rw [entry_nest_valid]
  have e0 : (fun t2 t5 t6 t7 => iter (execG (inliner M_nest_valid F 0 C_ref06_stuff) C_ref06_stuff Tryz.f79.ntmps M_nest_valid F 0 (cL (cB (cS (cF (cS (bo Tryz.f79))))))) (M_nest_valid 0 0) F 0 (st_nest_valid_0 t2 t5 t6 t7) (k_nest_valid_0 F Post)) = (n_nest_valid_0 F (fun r0 => Post (.bool r0))) := by
    funext t2 t5 t6 t7
    exact nl_nest_valid_0 F Post t2 t5 t6 t7
  rw [e0]
  rfl
def m_nest_valid : Model UU
  | [.sl .rect a0] => some ([pre_nest_valid a0], .bool (sp_nest_valid a0))
  | _ => none
def C_nest_valid : Cfg UU := C_ref06_stuff.add 79 m_nest_valid
theorem s_nest_valid : SumOK C_nest_valid := by
  refine s_ref06_stuff.addD mixed (fn := Tryz.f79) (c := bo Tryz.f79) Tryz.func79 (by kernel_rfl) (by kernel_rfl) ?_
  intro xs cs r h hc
  unfold m_nest_valid at h
  split at h
  · rename_i a0
    cases h
    obtain ⟨F, hF⟩ := ok_nest_valid a0 hc
    refine ⟨by kernel_rfl, M_nest_valid, F, false, ⟨?_⟩⟩
    rw [exec_nest_valid]
    refine hF _ ?_
    rfl
  · cases h
def k_ref06_Rights_0 (F : Nat) (Post : AVal UU → Prop) : AEx → ASt UU → Prop := kBlock 0 (kSeq (inliner M_ref06_Rights F 0 C_nest_valid) C_nest_valid Tryz.f91.ntmps M_ref06_Rights F 0 (cS (cS (bo Tryz.f91))) (AEnds C_nest_valid false Tryz.f91 Post))
set_option maxRecDepth 100000 in
theorem step_ref06_Rights_0 (F n r : Nat) (K : AEx → ASt UU → Prop) (t0 : List Rect) (t2 : Bool) (t3 : Int) : iter (execG (inliner M_ref06_Rights F 0 C_nest_valid) C_nest_valid Tryz.f91.ntmps M_ref06_Rights F 0 (cL (cB (cS (cF (cS (bo Tryz.f91))))))) (M_ref06_Rights 0 0) (n + 1) r (st_ref06_Rights_0 t0 t2 t3) K = g_ref06_Rights_s0 (fun t0 t2 t3 => iter (execG (inliner M_ref06_Rights F 0 C_nest_valid) C_nest_valid Tryz.f91.ntmps M_ref06_Rights F 0 (cL (cB (cS (cF (cS (bo Tryz.f91))))))) (M_ref06_Rights 0 0) n (r + 1) (st_ref06_Rights_0 t0 t2 t3) K) (fun t0 t2 t3 => K .ret (st_ref06_Rights_0 t0 t2 t3)) (fun t0 t2 t3 => K (.exit 0) (st_ref06_Rights_0 t0 t2 t3)) t0 t2 t3 := by kernel_rfl
set_option maxRecDepth 100000 in
theorem cont_ref06_Rights_0_0 (F : Nat) (Post : AVal UU → Prop) (t0 : List Rect) (t2 : Bool) (t3 : Int) : k_ref06_Rights_0 F Post .ret (st_ref06_Rights_0 t0 t2 t3) = g_ref06_Rights_c0_0 (fun r0 => Post (.bool r0)) t0 t2 t3 := by kernel_rfl
set_option maxRecDepth 100000 in
theorem cont_ref06_Rights_0_1 (F : Nat) (Post : AVal UU → Prop) (t0 : List Rect) (t2 : Bool) (t3 : Int) : k_ref06_Rights_0 F Post (.exit 0) (st_ref06_Rights_0 t0 t2 t3) = g_ref06_Rights_c0_1 (fun r0 => Post (.bool r0)) t0 t2 t3 := by kernel_rfl
set_option maxRecDepth 100000 in
theorem entry_ref06_Rights (F : Nat) (Post : AVal UU → Prop) (a0 : List Rect) : exec C_nest_valid Tryz.f91.ntmps M_ref06_Rights F 0 (bo Tryz.f91) (initSt [.sl .rect a0]) (AEnds C_nest_valid false Tryz.f91 Post) = g_ref06_Rights_e a0 (fun r0 => Post (.bool r0)) (fun t0 t2 t3 => iter (execG (inliner M_ref06_Rights F 0 C_nest_valid) C_nest_valid Tryz.f91.ntmps M_ref06_Rights F 0 (cL (cB (cS (cF (cS (bo Tryz.f91))))))) (M_ref06_Rights 0 0) F 0 (st_ref06_Rights_0 t0 t2 t3) (k_ref06_Rights_0 F Post)) := by kernel_rfl
theorem loop_ref06_Rights_0 (F : Nat) (K : AEx → ASt UU → Prop) : ∀ (n r : Nat) (t0 : List Rect) (t2 : Bool) (t3 : Int), iter (execG (inliner M_ref06_Rights F 0 C_nest_valid) C_nest_valid Tryz.f91.ntmps M_ref06_Rights F 0 (cL (cB (cS (cF (cS (bo Tryz.f91))))))) (M_ref06_Rights 0 0) n r (st_ref06_Rights_0 t0 t2 t3) K = w_ref06_Rights_0 F  (fun t0 t2 t3 => K .ret (st_ref06_Rights_0 t0 t2 t3)) (fun t0 t2 t3 => K (.exit 0) (st_ref06_Rights_0 t0 t2 t3)) n t0 t2 t3 := by
  intro n
  induction n with
  | zero => intros; rfl
  | succ n ih =>
    intro r t0 t2 t3
    have e : (fun t0 t2 t3 => iter (execG (inliner M_ref06_Rights F 0 C_nest_valid) C_nest_valid Tryz.f91.ntmps M_ref06_Rights F 0 (cL (cB (cS (cF (cS (bo Tryz.f91))))))) (M_ref06_Rights 0 0) n (r + 1) (st_ref06_Rights_0 t0 t2 t3) K) = w_ref06_Rights_0 F  (fun t0 t2 t3 => K .ret (st_ref06_Rights_0 t0 t2 t3)) (fun t0 t2 t3 => K (.exit 0) (st_ref06_Rights_0 t0 t2 t3)) n := by
      funext t0 t2 t3
      exact ih (r + 1) t0 t2 t3
    rw [step_ref06_Rights_0, e]
    rfl
theorem nl_ref06_Rights_0 (F : Nat) (Post : AVal UU → Prop) (t0 : List Rect) (t2 : Bool) (t3 : Int) : iter (execG (inliner M_ref06_Rights F 0 C_nest_valid) C_nest_valid Tryz.f91.ntmps M_ref06_Rights F 0 (cL (cB (cS (cF (cS (bo Tryz.f91))))))) (M_ref06_Rights 0 0) F 0 (st_ref06_Rights_0 t0 t2 t3) (k_ref06_Rights_0 F Post) = n_ref06_Rights_0 F (fun r0 => Post (.bool r0)) t0 t2 t3 := by
  rw [loop_ref06_Rights_0]
  have h0 : (fun t0 t2 t3 => k_ref06_Rights_0 F Post .ret (st_ref06_Rights_0 t0 t2 t3)) = (fun t0 t2 t3 => g_ref06_Rights_c0_0 (fun r0 => Post (.bool r0)) t0 t2 t3) := by
    funext t0 t2 t3
    rw [cont_ref06_Rights_0_0]
  have h1 : (fun t0 t2 t3 => k_ref06_Rights_0 F Post (.exit 0) (st_ref06_Rights_0 t0 t2 t3)) = (fun t0 t2 t3 => g_ref06_Rights_c0_1 (fun r0 => Post (.bool r0)) t0 t2 t3) := by
    funext t0 t2 t3
    rw [cont_ref06_Rights_0_1]
  rw [h0, h1]
  rfl
theorem exec_ref06_Rights (F : Nat) (Post : AVal UU → Prop) (a0 : List Rect) : exec C_nest_valid Tryz.f91.ntmps M_ref06_Rights F 0 (bo Tryz.f91) (initSt [.sl .rect a0]) (AEnds C_nest_valid false Tryz.f91 Post) = w_ref06_Rights F a0 (fun r0 => Post (.bool r0)) := by
  rw [entry_ref06_Rights]
  have e0 : (fun t0 t2 t3 => iter (execG (inliner M_ref06_Rights F 0 C_nest_valid) C_nest_valid Tryz.f91.ntmps M_ref06_Rights F 0 (cL (cB (cS (cF (cS (bo Tryz.f91))))))) (M_ref06_Rights 0 0) F 0 (st_ref06_Rights_0 t0 t2 t3) (k_ref06_Rights_0 F Post)) = (n_ref06_Rights_0 F (fun r0 => Post (.bool r0))) := by
    funext t0 t2 t3
    exact nl_ref06_Rights_0 F Post t0 t2 t3
  rw [e0]
  rfl
def m_ref06_Rights : Model UU
  | [.sl .rect a0] => some ([pre_ref06_Rights a0], .bool (sp_ref06_Rights a0))
  | _ => none
def C_ref06_Rights : Cfg UU := C_nest_valid.add 91 m_ref06_Rights
theorem s_ref06_Rights : SumOK C_ref06_Rights := by
  refine s_nest_valid.addD mixed (fn := Tryz.f91) (c := bo Tryz.f91) Tryz.func91 (by kernel_rfl) (by kernel_rfl) ?_
  intro xs cs r h hc
  unfold m_ref06_Rights at h
  split at h
  · rename_i a0
    cases h
    obtain ⟨F, hF⟩ := ok_ref06_Rights a0 hc
    refine ⟨by kernel_rfl, M_ref06_Rights, F, false, ⟨?_⟩⟩
    rw [exec_ref06_Rights]
    refine hF _ ?_
    rfl
  · cases h
def k_ref06_inside_0 (F : Nat) (Post : AVal UU → Prop) : AEx → ASt UU → Prop := kBlock 0 (kSeq (inliner M_ref06_inside F 0 C_ref06_Rights) C_ref06_Rights Tryz.f92.ntmps M_ref06_inside F 0 (cS (cS (bo Tryz.f92))) (AEnds C_ref06_Rights false Tryz.f92 Post))
set_option maxRecDepth 100000 in
theorem step_ref06_inside_0 (F n r : Nat) (K : AEx → ASt UU → Prop) (t1 : List Rect) (t4 : Bool) (t5 : Int) (c2_0 : ByteArray) (c2_1 : ByteArray) (c2_2 : Int) (c2_3 : Int) (c2_4 : Int) (c2_5 : Int) (c2_6 : List Rect) (c2_7 : List Rect) : iter (execG (inliner M_ref06_inside F 0 C_ref06_Rights) C_ref06_Rights Tryz.f92.ntmps M_ref06_inside F 0 (cL (cB (cS (cF (cS (bo Tryz.f92))))))) (M_ref06_inside 0 0) (n + 1) r (st_ref06_inside_0 t1 t4 t5 c2_0 c2_1 c2_2 c2_3 c2_4 c2_5 c2_6 c2_7) K = g_ref06_inside_s0 (fun t1 t4 t5 c2_0 c2_1 c2_2 c2_3 c2_4 c2_5 c2_6 c2_7 => iter (execG (inliner M_ref06_inside F 0 C_ref06_Rights) C_ref06_Rights Tryz.f92.ntmps M_ref06_inside F 0 (cL (cB (cS (cF (cS (bo Tryz.f92))))))) (M_ref06_inside 0 0) n (r + 1) (st_ref06_inside_0 t1 t4 t5 c2_0 c2_1 c2_2 c2_3 c2_4 c2_5 c2_6 c2_7) K) (fun t1 t4 t5 c2_0 c2_1 c2_2 c2_3 c2_4 c2_5 c2_6 c2_7 => K .ret (st_ref06_inside_0 t1 t4 t5 c2_0 c2_1 c2_2 c2_3 c2_4 c2_5 c2_6 c2_7)) (fun t1 t4 t5 c2_0 c2_1 c2_2 c2_3 c2_4 c2_5 c2_6 c2_7 => K (.exit 0) (st_ref06_inside_0 t1 t4 t5 c2_0 c2_1 c2_2 c2_3 c2_4 c2_5 c2_6 c2_7)) t1 t4 t5 c2_0 c2_1 c2_2 c2_3 c2_4 c2_5 c2_6 c2_7 := by kernel_rfl
set_option maxRecDepth 100000 in
theorem cont_ref06_inside_0_0 (F : Nat) (Post : AVal UU → Prop) (t1 : List Rect) (t4 : Bool) (t5 : Int) (c2_0 : ByteArray) (c2_1 : ByteArray) (c2_2 : Int) (c2_3 : Int) (c2_4 : Int) (c2_5 : Int) (c2_6 : List Rect) (c2_7 : List Rect) : k_ref06_inside_0 F Post .ret (st_ref06_inside_0 t1 t4 t5 c2_0 c2_1 c2_2 c2_3 c2_4 c2_5 c2_6 c2_7) = g_ref06_inside_c0_0 (fun r0 => Post (.bool r0)) t1 t4 t5 c2_0 c2_1 c2_2 c2_3 c2_4 c2_5 c2_6 c2_7 := by kernel_rfl
set_option maxRecDepth 100000 in
theorem cont_ref06_inside_0_1 (F : Nat) (Post : AVal UU → Prop) (t1 : List Rect) (t4 : Bool) (t5 : Int) (c2_0 : ByteArray) (c2_1 : ByteArray) (c2_2 : Int) (c2_3 : Int) (c2_4 : Int) (c2_5 : Int) (c2_6 : List Rect) (c2_7 : List Rect) : k_ref06_inside_0 F Post (.exit 0) (st_ref06_inside_0 t1 t4 t5 c2_0 c2_1 c2_2 c2_3 c2_4 c2_5 c2_6 c2_7) = g_ref06_inside_c0_1 (fun r0 => Post (.bool r0)) t1 t4 t5 c2_0 c2_1 c2_2 c2_3 c2_4 c2_5 c2_6 c2_7 := by kernel_rfl
set_option maxRecDepth 100000 in
theorem entry_ref06_inside (F : Nat) (Post : AVal UU → Prop) (a0_Name : ByteArray) (a0_Material : ByteArray) (a0_Gauge : Int) (a0_Grain : Int) (a0_Width : Int) (a0_Height : Int) (a0_Clamps : List Rect) (a0_Used : List Rect) (a1 : List Rect) : exec C_ref06_Rights Tryz.f92.ntmps M_ref06_inside F 0 (bo Tryz.f92) (initSt [.agg [.str a0_Name, .str a0_Material, .int .i64 a0_Gauge, .int .i64 a0_Grain, .int .i64 a0_Width, .int .i64 a0_Height, .sl .rect a0_Clamps, .sl .rect a0_Used], .sl .rect a1]) (AEnds C_ref06_Rights false Tryz.f92 Post) = g_ref06_inside_e a0_Name a0_Material a0_Gauge a0_Grain a0_Width a0_Height a0_Clamps a0_Used a1 (fun r0 => Post (.bool r0)) (fun t1 t4 t5 c2_0 c2_1 c2_2 c2_3 c2_4 c2_5 c2_6 c2_7 => iter (execG (inliner M_ref06_inside F 0 C_ref06_Rights) C_ref06_Rights Tryz.f92.ntmps M_ref06_inside F 0 (cL (cB (cS (cF (cS (bo Tryz.f92))))))) (M_ref06_inside 0 0) F 0 (st_ref06_inside_0 t1 t4 t5 c2_0 c2_1 c2_2 c2_3 c2_4 c2_5 c2_6 c2_7) (k_ref06_inside_0 F Post)) := by kernel_rfl
theorem loop_ref06_inside_0 (F : Nat) (K : AEx → ASt UU → Prop) : ∀ (n r : Nat) (t1 : List Rect) (t4 : Bool) (t5 : Int) (c2_0 : ByteArray) (c2_1 : ByteArray) (c2_2 : Int) (c2_3 : Int) (c2_4 : Int) (c2_5 : Int) (c2_6 : List Rect) (c2_7 : List Rect), iter (execG (inliner M_ref06_inside F 0 C_ref06_Rights) C_ref06_Rights Tryz.f92.ntmps M_ref06_inside F 0 (cL (cB (cS (cF (cS (bo Tryz.f92))))))) (M_ref06_inside 0 0) n r (st_ref06_inside_0 t1 t4 t5 c2_0 c2_1 c2_2 c2_3 c2_4 c2_5 c2_6 c2_7) K = w_ref06_inside_0 F  (fun t1 t4 t5 c2_0 c2_1 c2_2 c2_3 c2_4 c2_5 c2_6 c2_7 => K .ret (st_ref06_inside_0 t1 t4 t5 c2_0 c2_1 c2_2 c2_3 c2_4 c2_5 c2_6 c2_7)) (fun t1 t4 t5 c2_0 c2_1 c2_2 c2_3 c2_4 c2_5 c2_6 c2_7 => K (.exit 0) (st_ref06_inside_0 t1 t4 t5 c2_0 c2_1 c2_2 c2_3 c2_4 c2_5 c2_6 c2_7)) n t1 t4 t5 c2_0 c2_1 c2_2 c2_3 c2_4 c2_5 c2_6 c2_7 := by
  intro n
  induction n with
  | zero => intros; rfl
  | succ n ih =>
    intro r t1 t4 t5 c2_0 c2_1 c2_2 c2_3 c2_4 c2_5 c2_6 c2_7
    have e : (fun t1 t4 t5 c2_0 c2_1 c2_2 c2_3 c2_4 c2_5 c2_6 c2_7 => iter (execG (inliner M_ref06_inside F 0 C_ref06_Rights) C_ref06_Rights Tryz.f92.ntmps M_ref06_inside F 0 (cL (cB (cS (cF (cS (bo Tryz.f92))))))) (M_ref06_inside 0 0) n (r + 1) (st_ref06_inside_0 t1 t4 t5 c2_0 c2_1 c2_2 c2_3 c2_4 c2_5 c2_6 c2_7) K) = w_ref06_inside_0 F  (fun t1 t4 t5 c2_0 c2_1 c2_2 c2_3 c2_4 c2_5 c2_6 c2_7 => K .ret (st_ref06_inside_0 t1 t4 t5 c2_0 c2_1 c2_2 c2_3 c2_4 c2_5 c2_6 c2_7)) (fun t1 t4 t5 c2_0 c2_1 c2_2 c2_3 c2_4 c2_5 c2_6 c2_7 => K (.exit 0) (st_ref06_inside_0 t1 t4 t5 c2_0 c2_1 c2_2 c2_3 c2_4 c2_5 c2_6 c2_7)) n := by
      funext t1 t4 t5 c2_0 c2_1 c2_2 c2_3 c2_4 c2_5 c2_6 c2_7
      exact ih (r + 1) t1 t4 t5 c2_0 c2_1 c2_2 c2_3 c2_4 c2_5 c2_6 c2_7
    rw [step_ref06_inside_0, e]
    rfl
theorem nl_ref06_inside_0 (F : Nat) (Post : AVal UU → Prop) (t1 : List Rect) (t4 : Bool) (t5 : Int) (c2_0 : ByteArray) (c2_1 : ByteArray) (c2_2 : Int) (c2_3 : Int) (c2_4 : Int) (c2_5 : Int) (c2_6 : List Rect) (c2_7 : List Rect) : iter (execG (inliner M_ref06_inside F 0 C_ref06_Rights) C_ref06_Rights Tryz.f92.ntmps M_ref06_inside F 0 (cL (cB (cS (cF (cS (bo Tryz.f92))))))) (M_ref06_inside 0 0) F 0 (st_ref06_inside_0 t1 t4 t5 c2_0 c2_1 c2_2 c2_3 c2_4 c2_5 c2_6 c2_7) (k_ref06_inside_0 F Post) = n_ref06_inside_0 F (fun r0 => Post (.bool r0)) t1 t4 t5 c2_0 c2_1 c2_2 c2_3 c2_4 c2_5 c2_6 c2_7 := by
  rw [loop_ref06_inside_0]
  have h0 : (fun t1 t4 t5 c2_0 c2_1 c2_2 c2_3 c2_4 c2_5 c2_6 c2_7 => k_ref06_inside_0 F Post .ret (st_ref06_inside_0 t1 t4 t5 c2_0 c2_1 c2_2 c2_3 c2_4 c2_5 c2_6 c2_7)) = (fun t1 t4 t5 c2_0 c2_1 c2_2 c2_3 c2_4 c2_5 c2_6 c2_7 => g_ref06_inside_c0_0 (fun r0 => Post (.bool r0)) t1 t4 t5 c2_0 c2_1 c2_2 c2_3 c2_4 c2_5 c2_6 c2_7) := by
    funext t1 t4 t5 c2_0 c2_1 c2_2 c2_3 c2_4 c2_5 c2_6 c2_7
    rw [cont_ref06_inside_0_0]
  have h1 : (fun t1 t4 t5 c2_0 c2_1 c2_2 c2_3 c2_4 c2_5 c2_6 c2_7 => k_ref06_inside_0 F Post (.exit 0) (st_ref06_inside_0 t1 t4 t5 c2_0 c2_1 c2_2 c2_3 c2_4 c2_5 c2_6 c2_7)) = (fun t1 t4 t5 c2_0 c2_1 c2_2 c2_3 c2_4 c2_5 c2_6 c2_7 => g_ref06_inside_c0_1 (fun r0 => Post (.bool r0)) t1 t4 t5 c2_0 c2_1 c2_2 c2_3 c2_4 c2_5 c2_6 c2_7) := by
    funext t1 t4 t5 c2_0 c2_1 c2_2 c2_3 c2_4 c2_5 c2_6 c2_7
    rw [cont_ref06_inside_0_1]
  rw [h0, h1]
  rfl
theorem exec_ref06_inside (F : Nat) (Post : AVal UU → Prop) (a0_Name : ByteArray) (a0_Material : ByteArray) (a0_Gauge : Int) (a0_Grain : Int) (a0_Width : Int) (a0_Height : Int) (a0_Clamps : List Rect) (a0_Used : List Rect) (a1 : List Rect) : exec C_ref06_Rights Tryz.f92.ntmps M_ref06_inside F 0 (bo Tryz.f92) (initSt [.agg [.str a0_Name, .str a0_Material, .int .i64 a0_Gauge, .int .i64 a0_Grain, .int .i64 a0_Width, .int .i64 a0_Height, .sl .rect a0_Clamps, .sl .rect a0_Used], .sl .rect a1]) (AEnds C_ref06_Rights false Tryz.f92 Post) = w_ref06_inside F a0_Name a0_Material a0_Gauge a0_Grain a0_Width a0_Height a0_Clamps a0_Used a1 (fun r0 => Post (.bool r0)) := by
  rw [entry_ref06_inside]
  have e0 : (fun t1 t4 t5 c2_0 c2_1 c2_2 c2_3 c2_4 c2_5 c2_6 c2_7 => iter (execG (inliner M_ref06_inside F 0 C_ref06_Rights) C_ref06_Rights Tryz.f92.ntmps M_ref06_inside F 0 (cL (cB (cS (cF (cS (bo Tryz.f92))))))) (M_ref06_inside 0 0) F 0 (st_ref06_inside_0 t1 t4 t5 c2_0 c2_1 c2_2 c2_3 c2_4 c2_5 c2_6 c2_7) (k_ref06_inside_0 F Post)) = (n_ref06_inside_0 F (fun r0 => Post (.bool r0))) := by
    funext t1 t4 t5 c2_0 c2_1 c2_2 c2_3 c2_4 c2_5 c2_6 c2_7
    exact nl_ref06_inside_0 F Post t1 t4 t5 c2_0 c2_1 c2_2 c2_3 c2_4 c2_5 c2_6 c2_7
  rw [e0]
  rfl
def m_ref06_inside : Model UU
  | [.agg [.str a0_Name, .str a0_Material, .int .i64 a0_Gauge, .int .i64 a0_Grain, .int .i64 a0_Width, .int .i64 a0_Height, .sl .rect a0_Clamps, .sl .rect a0_Used], .sl .rect a1] => some ([pre_ref06_inside a0_Name a0_Material a0_Gauge a0_Grain a0_Width a0_Height a0_Clamps a0_Used a1], .bool (sp_ref06_inside a0_Name a0_Material a0_Gauge a0_Grain a0_Width a0_Height a0_Clamps a0_Used a1))
  | _ => none
def C_ref06_inside : Cfg UU := C_ref06_Rights.add 92 m_ref06_inside
theorem s_ref06_inside : SumOK C_ref06_inside := by
  refine s_ref06_Rights.addD mixed (fn := Tryz.f92) (c := bo Tryz.f92) Tryz.func92 (by kernel_rfl) (by kernel_rfl) ?_
  intro xs cs r h hc
  unfold m_ref06_inside at h
  split at h
  · rename_i a0_Name a0_Material a0_Gauge a0_Grain a0_Width a0_Height a0_Clamps a0_Used a1
    cases h
    obtain ⟨F, hF⟩ := ok_ref06_inside a0_Name a0_Material a0_Gauge a0_Grain a0_Width a0_Height a0_Clamps a0_Used a1 hc
    refine ⟨by kernel_rfl, M_ref06_inside, F, false, ⟨?_⟩⟩
    rw [exec_ref06_inside]
    refine hF _ ?_
    rfl
  · cases h
end
end Go.Proofs.YteffpgliiilnjaaGreatDoor

namespace Go.Proofs.YteffpgliiilnjaaGreatDoor
open Go.Vm Go.RowKit
set_option linter.unusedVariables false
noncomputable section
def k_nest_ValidateSheet_0 (F : Nat) (Post : AVal UU → Prop) : AEx → ASt UU → Prop := kBlock 1 (kSeq (inliner M_nest_ValidateSheet F 0 C_ref06_inside) C_ref06_inside Tryz.f29.ntmps M_nest_ValidateSheet F 0 (cS (cS (cS (cS (bo Tryz.f29))))) (AEnds C_ref06_inside false Tryz.f29 Post))
def k_nest_ValidateSheet_1 (F n r : Nat) (K : AEx → ASt UU → Prop) : AEx → ASt UU → Prop := kBlock 3 (kBlock 2 (kSeq (inliner M_nest_ValidateSheet F 0 C_ref06_inside) C_ref06_inside Tryz.f29.ntmps M_nest_ValidateSheet F 1 (cS (cS (cS (cL (cB (cS (cF (cS (cS (cS (bo Tryz.f29))))))))))) (kIter (execG (inliner M_nest_ValidateSheet F 0 C_ref06_inside) C_ref06_inside Tryz.f29.ntmps M_nest_ValidateSheet F 1 (cL (cB (cS (cF (cS (cS (cS (bo Tryz.f29))))))))) (M_nest_ValidateSheet 0 1) n r K)))
set_option maxRecDepth 100000 in
theorem step_nest_ValidateSheet_0 (F n r : Nat) (K : AEx → ASt UU → Prop) (t2 : Int) (t70 : List (List Rect)) (t71 : Int) (t72 : Int) (c3_0 : Int) (c3_1 : Int) (c3_2 : Int) (c3_3 : Int) : iter (execG (inliner M_nest_ValidateSheet F 0 C_ref06_inside) C_ref06_inside Tryz.f29.ntmps M_nest_ValidateSheet F 1 (cL (cB (cS (cF (cS (cS (cS (bo Tryz.f29))))))))) (M_nest_ValidateSheet 0 1) (n + 1) r (st_nest_ValidateSheet_0 t2 t70 t71 t72 c3_0 c3_1 c3_2 c3_3) K = g_nest_ValidateSheet_s0 (fun t2 t70 t71 t72 c3_0 c3_1 c3_2 c3_3 => iter (execG (inliner M_nest_ValidateSheet F 0 C_ref06_inside) C_ref06_inside Tryz.f29.ntmps M_nest_ValidateSheet F 1 (cL (cB (cS (cF (cS (cS (cS (bo Tryz.f29))))))))) (M_nest_ValidateSheet 0 1) n (r + 1) (st_nest_ValidateSheet_0 t2 t70 t71 t72 c3_0 c3_1 c3_2 c3_3) K) (fun t2 t70 t71 t72 c3_0 c3_1 c3_2 c3_3 => K (.exit 1) (st_nest_ValidateSheet_0 t2 t70 t71 t72 c3_0 c3_1 c3_2 c3_3)) (fun t2 t70 t71 t72 c3_0 c3_1 c3_2 c3_3 => K .ret (st_nest_ValidateSheet_0 t2 t70 t71 t72 c3_0 c3_1 c3_2 c3_3)) t2 t70 t71 t72 c3_0 c3_1 c3_2 c3_3 (fun t2 t70 t71 t72 t76 t77 t78 c3_0 c3_1 c3_2 c3_3 => iter (execG (inliner M_nest_ValidateSheet F 0 C_ref06_inside) C_ref06_inside Tryz.f29.ntmps M_nest_ValidateSheet F 3 (cL (cB (cS (cS (cB (cF (cS (cS (cL (cB (cS (cF (cS (cS (cS (bo Tryz.f29))))))))))))))))) (M_nest_ValidateSheet 0 3) F 0 (st_nest_ValidateSheet_1 t2 t70 t71 t72 t76 t77 t78 c3_0 c3_1 c3_2 c3_3) (k_nest_ValidateSheet_1 F n r K)) := by kernel_rfl
set_option maxRecDepth 100000 in
theorem cont_nest_ValidateSheet_0_0 (F : Nat) (Post : AVal UU → Prop) (t2 : Int) (t70 : List (List Rect)) (t71 : Int) (t72 : Int) (c3_0 : Int) (c3_1 : Int) (c3_2 : Int) (c3_3 : Int) : k_nest_ValidateSheet_0 F Post (.exit 1) (st_nest_ValidateSheet_0 t2 t70 t71 t72 c3_0 c3_1 c3_2 c3_3) = g_nest_ValidateSheet_c0_0 (fun r0 => Post (.int .i64 r0)) t2 t70 t71 t72 c3_0 c3_1 c3_2 c3_3 := by kernel_rfl
set_option maxRecDepth 100000 in
theorem cont_nest_ValidateSheet_0_1 (F : Nat) (Post : AVal UU → Prop) (t2 : Int) (t70 : List (List Rect)) (t71 : Int) (t72 : Int) (c3_0 : Int) (c3_1 : Int) (c3_2 : Int) (c3_3 : Int) : k_nest_ValidateSheet_0 F Post .ret (st_nest_ValidateSheet_0 t2 t70 t71 t72 c3_0 c3_1 c3_2 c3_3) = g_nest_ValidateSheet_c0_1 (fun r0 => Post (.int .i64 r0)) t2 t70 t71 t72 c3_0 c3_1 c3_2 c3_3 := by kernel_rfl
set_option maxRecDepth 100000 in
theorem step_nest_ValidateSheet_1 (F n r : Nat) (K : AEx → ASt UU → Prop) (t2 : Int) (t70 : List (List Rect)) (t71 : Int) (t72 : Int) (t76 : List Rect) (t77 : Int) (t78 : Int) (c3_0 : Int) (c3_1 : Int) (c3_2 : Int) (c3_3 : Int) : iter (execG (inliner M_nest_ValidateSheet F 0 C_ref06_inside) C_ref06_inside Tryz.f29.ntmps M_nest_ValidateSheet F 3 (cL (cB (cS (cS (cB (cF (cS (cS (cL (cB (cS (cF (cS (cS (cS (bo Tryz.f29))))))))))))))))) (M_nest_ValidateSheet 0 3) (n + 1) r (st_nest_ValidateSheet_1 t2 t70 t71 t72 t76 t77 t78 c3_0 c3_1 c3_2 c3_3) K = g_nest_ValidateSheet_s1 (fun t2 t70 t71 t72 t76 t77 t78 c3_0 c3_1 c3_2 c3_3 => iter (execG (inliner M_nest_ValidateSheet F 0 C_ref06_inside) C_ref06_inside Tryz.f29.ntmps M_nest_ValidateSheet F 3 (cL (cB (cS (cS (cB (cF (cS (cS (cL (cB (cS (cF (cS (cS (cS (bo Tryz.f29))))))))))))))))) (M_nest_ValidateSheet 0 3) n (r + 1) (st_nest_ValidateSheet_1 t2 t70 t71 t72 t76 t77 t78 c3_0 c3_1 c3_2 c3_3) K) (fun t2 t70 t71 t72 t76 t77 t78 c3_0 c3_1 c3_2 c3_3 => K .ret (st_nest_ValidateSheet_1 t2 t70 t71 t72 t76 t77 t78 c3_0 c3_1 c3_2 c3_3)) (fun t2 t70 t71 t72 t76 t77 t78 c3_0 c3_1 c3_2 c3_3 => K (.exit 3) (st_nest_ValidateSheet_1 t2 t70 t71 t72 t76 t77 t78 c3_0 c3_1 c3_2 c3_3)) t2 t70 t71 t72 t76 t77 t78 c3_0 c3_1 c3_2 c3_3 := by kernel_rfl
set_option maxRecDepth 100000 in
theorem cont_nest_ValidateSheet_1_0 (F n r : Nat) (K : AEx → ASt UU → Prop) (t2 : Int) (t70 : List (List Rect)) (t71 : Int) (t72 : Int) (t76 : List Rect) (t77 : Int) (t78 : Int) (c3_0 : Int) (c3_1 : Int) (c3_2 : Int) (c3_3 : Int) : k_nest_ValidateSheet_1 F n r K .ret (st_nest_ValidateSheet_1 t2 t70 t71 t72 t76 t77 t78 c3_0 c3_1 c3_2 c3_3) = g_nest_ValidateSheet_c1_0 (fun t2 t70 t71 t72 c3_0 c3_1 c3_2 c3_3 => iter (execG (inliner M_nest_ValidateSheet F 0 C_ref06_inside) C_ref06_inside Tryz.f29.ntmps M_nest_ValidateSheet F 1 (cL (cB (cS (cF (cS (cS (cS (bo Tryz.f29))))))))) (M_nest_ValidateSheet 0 1) n (r + 1) (st_nest_ValidateSheet_0 t2 t70 t71 t72 c3_0 c3_1 c3_2 c3_3) K) (fun t2 t70 t71 t72 c3_0 c3_1 c3_2 c3_3 => K (.exit 1) (st_nest_ValidateSheet_0 t2 t70 t71 t72 c3_0 c3_1 c3_2 c3_3)) (fun t2 t70 t71 t72 c3_0 c3_1 c3_2 c3_3 => K .ret (st_nest_ValidateSheet_0 t2 t70 t71 t72 c3_0 c3_1 c3_2 c3_3)) t2 t70 t71 t72 t76 t77 t78 c3_0 c3_1 c3_2 c3_3 := by kernel_rfl
set_option maxRecDepth 100000 in
theorem cont_nest_ValidateSheet_1_1 (F n r : Nat) (K : AEx → ASt UU → Prop) (t2 : Int) (t70 : List (List Rect)) (t71 : Int) (t72 : Int) (t76 : List Rect) (t77 : Int) (t78 : Int) (c3_0 : Int) (c3_1 : Int) (c3_2 : Int) (c3_3 : Int) : k_nest_ValidateSheet_1 F n r K (.exit 3) (st_nest_ValidateSheet_1 t2 t70 t71 t72 t76 t77 t78 c3_0 c3_1 c3_2 c3_3) = g_nest_ValidateSheet_c1_1 (fun t2 t70 t71 t72 c3_0 c3_1 c3_2 c3_3 => iter (execG (inliner M_nest_ValidateSheet F 0 C_ref06_inside) C_ref06_inside Tryz.f29.ntmps M_nest_ValidateSheet F 1 (cL (cB (cS (cF (cS (cS (cS (bo Tryz.f29))))))))) (M_nest_ValidateSheet 0 1) n (r + 1) (st_nest_ValidateSheet_0 t2 t70 t71 t72 c3_0 c3_1 c3_2 c3_3) K) (fun t2 t70 t71 t72 c3_0 c3_1 c3_2 c3_3 => K (.exit 1) (st_nest_ValidateSheet_0 t2 t70 t71 t72 c3_0 c3_1 c3_2 c3_3)) (fun t2 t70 t71 t72 c3_0 c3_1 c3_2 c3_3 => K .ret (st_nest_ValidateSheet_0 t2 t70 t71 t72 c3_0 c3_1 c3_2 c3_3)) t2 t70 t71 t72 t76 t77 t78 c3_0 c3_1 c3_2 c3_3 := by kernel_rfl
set_option maxRecDepth 100000 in
theorem entry_nest_ValidateSheet (F : Nat) (Post : AVal UU → Prop) (a0_Name : ByteArray) (a0_Material : ByteArray) (a0_Gauge : Int) (a0_Grain : Int) (a0_Width : Int) (a0_Height : Int) (a0_Clamps : List Rect) (a0_Used : List Rect) : exec C_ref06_inside Tryz.f29.ntmps M_nest_ValidateSheet F 0 (bo Tryz.f29) (initSt [.agg [.str a0_Name, .str a0_Material, .int .i64 a0_Gauge, .int .i64 a0_Grain, .int .i64 a0_Width, .int .i64 a0_Height, .sl .rect a0_Clamps, .sl .rect a0_Used]]) (AEnds C_ref06_inside false Tryz.f29 Post) = g_nest_ValidateSheet_e a0_Name a0_Material a0_Gauge a0_Grain a0_Width a0_Height a0_Clamps a0_Used (fun r0 => Post (.int .i64 r0)) (fun t2 t70 t71 t72 c3_0 c3_1 c3_2 c3_3 => iter (execG (inliner M_nest_ValidateSheet F 0 C_ref06_inside) C_ref06_inside Tryz.f29.ntmps M_nest_ValidateSheet F 1 (cL (cB (cS (cF (cS (cS (cS (bo Tryz.f29))))))))) (M_nest_ValidateSheet 0 1) F 0 (st_nest_ValidateSheet_0 t2 t70 t71 t72 c3_0 c3_1 c3_2 c3_3) (k_nest_ValidateSheet_0 F Post)) := by kernel_rfl
theorem loop_nest_ValidateSheet_1 (F : Nat) (K : AEx → ASt UU → Prop) : ∀ (n r : Nat) (t2 : Int) (t70 : List (List Rect)) (t71 : Int) (t72 : Int) (t76 : List Rect) (t77 : Int) (t78 : Int) (c3_0 : Int) (c3_1 : Int) (c3_2 : Int) (c3_3 : Int), iter (execG (inliner M_nest_ValidateSheet F 0 C_ref06_inside) C_ref06_inside Tryz.f29.ntmps M_nest_ValidateSheet F 3 (cL (cB (cS (cS (cB (cF (cS (cS (cL (cB (cS (cF (cS (cS (cS (bo Tryz.f29))))))))))))))))) (M_nest_ValidateSheet 0 3) n r (st_nest_ValidateSheet_1 t2 t70 t71 t72 t76 t77 t78 c3_0 c3_1 c3_2 c3_3) K = w_nest_ValidateSheet_1 F  (fun t2 t70 t71 t72 t76 t77 t78 c3_0 c3_1 c3_2 c3_3 => K .ret (st_nest_ValidateSheet_1 t2 t70 t71 t72 t76 t77 t78 c3_0 c3_1 c3_2 c3_3)) (fun t2 t70 t71 t72 t76 t77 t78 c3_0 c3_1 c3_2 c3_3 => K (.exit 3) (st_nest_ValidateSheet_1 t2 t70 t71 t72 t76 t77 t78 c3_0 c3_1 c3_2 c3_3)) n t2 t70 t71 t72 t76 t77 t78 c3_0 c3_1 c3_2 c3_3 := by
  intro n
  induction n with
  | zero => intros; rfl
  | succ n ih =>
    intro r t2 t70 t71 t72 t76 t77 t78 c3_0 c3_1 c3_2 c3_3
    have e : (fun t2 t70 t71 t72 t76 t77 t78 c3_0 c3_1 c3_2 c3_3 => iter (execG (inliner M_nest_ValidateSheet F 0 C_ref06_inside) C_ref06_inside Tryz.f29.ntmps M_nest_ValidateSheet F 3 (cL (cB (cS (cS (cB (cF (cS (cS (cL (cB (cS (cF (cS (cS (cS (bo Tryz.f29))))))))))))))))) (M_nest_ValidateSheet 0 3) n (r + 1) (st_nest_ValidateSheet_1 t2 t70 t71 t72 t76 t77 t78 c3_0 c3_1 c3_2 c3_3) K) = w_nest_ValidateSheet_1 F  (fun t2 t70 t71 t72 t76 t77 t78 c3_0 c3_1 c3_2 c3_3 => K .ret (st_nest_ValidateSheet_1 t2 t70 t71 t72 t76 t77 t78 c3_0 c3_1 c3_2 c3_3)) (fun t2 t70 t71 t72 t76 t77 t78 c3_0 c3_1 c3_2 c3_3 => K (.exit 3) (st_nest_ValidateSheet_1 t2 t70 t71 t72 t76 t77 t78 c3_0 c3_1 c3_2 c3_3)) n := by
      funext t2 t70 t71 t72 t76 t77 t78 c3_0 c3_1 c3_2 c3_3
      exact ih (r + 1) t2 t70 t71 t72 t76 t77 t78 c3_0 c3_1 c3_2 c3_3
    rw [step_nest_ValidateSheet_1, e]
    rfl
theorem nl_nest_ValidateSheet_1 (F n r : Nat) (K : AEx → ASt UU → Prop) (t2 : Int) (t70 : List (List Rect)) (t71 : Int) (t72 : Int) (t76 : List Rect) (t77 : Int) (t78 : Int) (c3_0 : Int) (c3_1 : Int) (c3_2 : Int) (c3_3 : Int) : iter (execG (inliner M_nest_ValidateSheet F 0 C_ref06_inside) C_ref06_inside Tryz.f29.ntmps M_nest_ValidateSheet F 3 (cL (cB (cS (cS (cB (cF (cS (cS (cL (cB (cS (cF (cS (cS (cS (bo Tryz.f29))))))))))))))))) (M_nest_ValidateSheet 0 3) F 0 (st_nest_ValidateSheet_1 t2 t70 t71 t72 t76 t77 t78 c3_0 c3_1 c3_2 c3_3) (k_nest_ValidateSheet_1 F n r K) = n_nest_ValidateSheet_1 F (fun t2 t70 t71 t72 c3_0 c3_1 c3_2 c3_3 => iter (execG (inliner M_nest_ValidateSheet F 0 C_ref06_inside) C_ref06_inside Tryz.f29.ntmps M_nest_ValidateSheet F 1 (cL (cB (cS (cF (cS (cS (cS (bo Tryz.f29))))))))) (M_nest_ValidateSheet 0 1) n (r + 1) (st_nest_ValidateSheet_0 t2 t70 t71 t72 c3_0 c3_1 c3_2 c3_3) K) (fun t2 t70 t71 t72 c3_0 c3_1 c3_2 c3_3 => K (.exit 1) (st_nest_ValidateSheet_0 t2 t70 t71 t72 c3_0 c3_1 c3_2 c3_3)) (fun t2 t70 t71 t72 c3_0 c3_1 c3_2 c3_3 => K .ret (st_nest_ValidateSheet_0 t2 t70 t71 t72 c3_0 c3_1 c3_2 c3_3)) t2 t70 t71 t72 t76 t77 t78 c3_0 c3_1 c3_2 c3_3 := by
  rw [loop_nest_ValidateSheet_1]
  have h0 : (fun t2 t70 t71 t72 t76 t77 t78 c3_0 c3_1 c3_2 c3_3 => k_nest_ValidateSheet_1 F n r K .ret (st_nest_ValidateSheet_1 t2 t70 t71 t72 t76 t77 t78 c3_0 c3_1 c3_2 c3_3)) = (fun t2 t70 t71 t72 t76 t77 t78 c3_0 c3_1 c3_2 c3_3 => g_nest_ValidateSheet_c1_0 (fun t2 t70 t71 t72 c3_0 c3_1 c3_2 c3_3 => iter (execG (inliner M_nest_ValidateSheet F 0 C_ref06_inside) C_ref06_inside Tryz.f29.ntmps M_nest_ValidateSheet F 1 (cL (cB (cS (cF (cS (cS (cS (bo Tryz.f29))))))))) (M_nest_ValidateSheet 0 1) n (r + 1) (st_nest_ValidateSheet_0 t2 t70 t71 t72 c3_0 c3_1 c3_2 c3_3) K) (fun t2 t70 t71 t72 c3_0 c3_1 c3_2 c3_3 => K (.exit 1) (st_nest_ValidateSheet_0 t2 t70 t71 t72 c3_0 c3_1 c3_2 c3_3)) (fun t2 t70 t71 t72 c3_0 c3_1 c3_2 c3_3 => K .ret (st_nest_ValidateSheet_0 t2 t70 t71 t72 c3_0 c3_1 c3_2 c3_3)) t2 t70 t71 t72 t76 t77 t78 c3_0 c3_1 c3_2 c3_3) := by
    funext t2 t70 t71 t72 t76 t77 t78 c3_0 c3_1 c3_2 c3_3
    rw [cont_nest_ValidateSheet_1_0]
  have h1 : (fun t2 t70 t71 t72 t76 t77 t78 c3_0 c3_1 c3_2 c3_3 => k_nest_ValidateSheet_1 F n r K (.exit 3) (st_nest_ValidateSheet_1 t2 t70 t71 t72 t76 t77 t78 c3_0 c3_1 c3_2 c3_3)) = (fun t2 t70 t71 t72 t76 t77 t78 c3_0 c3_1 c3_2 c3_3 => g_nest_ValidateSheet_c1_1 (fun t2 t70 t71 t72 c3_0 c3_1 c3_2 c3_3 => iter (execG (inliner M_nest_ValidateSheet F 0 C_ref06_inside) C_ref06_inside Tryz.f29.ntmps M_nest_ValidateSheet F 1 (cL (cB (cS (cF (cS (cS (cS (bo Tryz.f29))))))))) (M_nest_ValidateSheet 0 1) n (r + 1) (st_nest_ValidateSheet_0 t2 t70 t71 t72 c3_0 c3_1 c3_2 c3_3) K) (fun t2 t70 t71 t72 c3_0 c3_1 c3_2 c3_3 => K (.exit 1) (st_nest_ValidateSheet_0 t2 t70 t71 t72 c3_0 c3_1 c3_2 c3_3)) (fun t2 t70 t71 t72 c3_0 c3_1 c3_2 c3_3 => K .ret (st_nest_ValidateSheet_0 t2 t70 t71 t72 c3_0 c3_1 c3_2 c3_3)) t2 t70 t71 t72 t76 t77 t78 c3_0 c3_1 c3_2 c3_3) := by
    funext t2 t70 t71 t72 t76 t77 t78 c3_0 c3_1 c3_2 c3_3
    rw [cont_nest_ValidateSheet_1_1]
  rw [h0, h1]
  rfl
theorem loop_nest_ValidateSheet_0 (F : Nat) (K : AEx → ASt UU → Prop) : ∀ (n r : Nat) (t2 : Int) (t70 : List (List Rect)) (t71 : Int) (t72 : Int) (c3_0 : Int) (c3_1 : Int) (c3_2 : Int) (c3_3 : Int), iter (execG (inliner M_nest_ValidateSheet F 0 C_ref06_inside) C_ref06_inside Tryz.f29.ntmps M_nest_ValidateSheet F 1 (cL (cB (cS (cF (cS (cS (cS (bo Tryz.f29))))))))) (M_nest_ValidateSheet 0 1) n r (st_nest_ValidateSheet_0 t2 t70 t71 t72 c3_0 c3_1 c3_2 c3_3) K = w_nest_ValidateSheet_0 F  (fun t2 t70 t71 t72 c3_0 c3_1 c3_2 c3_3 => K (.exit 1) (st_nest_ValidateSheet_0 t2 t70 t71 t72 c3_0 c3_1 c3_2 c3_3)) (fun t2 t70 t71 t72 c3_0 c3_1 c3_2 c3_3 => K .ret (st_nest_ValidateSheet_0 t2 t70 t71 t72 c3_0 c3_1 c3_2 c3_3)) n t2 t70 t71 t72 c3_0 c3_1 c3_2 c3_3 := by
  intro n
  induction n with
  | zero => intros; rfl
  | succ n ih =>
    intro r t2 t70 t71 t72 c3_0 c3_1 c3_2 c3_3
    have e : (fun t2 t70 t71 t72 c3_0 c3_1 c3_2 c3_3 => iter (execG (inliner M_nest_ValidateSheet F 0 C_ref06_inside) C_ref06_inside Tryz.f29.ntmps M_nest_ValidateSheet F 1 (cL (cB (cS (cF (cS (cS (cS (bo Tryz.f29))))))))) (M_nest_ValidateSheet 0 1) n (r + 1) (st_nest_ValidateSheet_0 t2 t70 t71 t72 c3_0 c3_1 c3_2 c3_3) K) = w_nest_ValidateSheet_0 F  (fun t2 t70 t71 t72 c3_0 c3_1 c3_2 c3_3 => K (.exit 1) (st_nest_ValidateSheet_0 t2 t70 t71 t72 c3_0 c3_1 c3_2 c3_3)) (fun t2 t70 t71 t72 c3_0 c3_1 c3_2 c3_3 => K .ret (st_nest_ValidateSheet_0 t2 t70 t71 t72 c3_0 c3_1 c3_2 c3_3)) n := by
      funext t2 t70 t71 t72 c3_0 c3_1 c3_2 c3_3
      exact ih (r + 1) t2 t70 t71 t72 c3_0 c3_1 c3_2 c3_3
    have e1 : (fun t2 t70 t71 t72 t76 t77 t78 c3_0 c3_1 c3_2 c3_3 => iter (execG (inliner M_nest_ValidateSheet F 0 C_ref06_inside) C_ref06_inside Tryz.f29.ntmps M_nest_ValidateSheet F 3 (cL (cB (cS (cS (cB (cF (cS (cS (cL (cB (cS (cF (cS (cS (cS (bo Tryz.f29))))))))))))))))) (M_nest_ValidateSheet 0 3) F 0 (st_nest_ValidateSheet_1 t2 t70 t71 t72 t76 t77 t78 c3_0 c3_1 c3_2 c3_3) (k_nest_ValidateSheet_1 F n r K)) = (n_nest_ValidateSheet_1 F (fun t2 t70 t71 t72 c3_0 c3_1 c3_2 c3_3 => iter (execG (inliner M_nest_ValidateSheet F 0 C_ref06_inside) C_ref06_inside Tryz.f29.ntmps M_nest_ValidateSheet F 1 (cL (cB (cS (cF (cS (cS (cS (bo Tryz.f29))))))))) (M_nest_ValidateSheet 0 1) n (r + 1) (st_nest_ValidateSheet_0 t2 t70 t71 t72 c3_0 c3_1 c3_2 c3_3) K) (fun t2 t70 t71 t72 c3_0 c3_1 c3_2 c3_3 => K (.exit 1) (st_nest_ValidateSheet_0 t2 t70 t71 t72 c3_0 c3_1 c3_2 c3_3)) (fun t2 t70 t71 t72 c3_0 c3_1 c3_2 c3_3 => K .ret (st_nest_ValidateSheet_0 t2 t70 t71 t72 c3_0 c3_1 c3_2 c3_3))) := by
      funext t2 t70 t71 t72 t76 t77 t78 c3_0 c3_1 c3_2 c3_3
      exact nl_nest_ValidateSheet_1 F n r K t2 t70 t71 t72 t76 t77 t78 c3_0 c3_1 c3_2 c3_3
    rw [step_nest_ValidateSheet_0, e1, e]
    rfl
theorem nl_nest_ValidateSheet_0 (F : Nat) (Post : AVal UU → Prop) (t2 : Int) (t70 : List (List Rect)) (t71 : Int) (t72 : Int) (c3_0 : Int) (c3_1 : Int) (c3_2 : Int) (c3_3 : Int) : iter (execG (inliner M_nest_ValidateSheet F 0 C_ref06_inside) C_ref06_inside Tryz.f29.ntmps M_nest_ValidateSheet F 1 (cL (cB (cS (cF (cS (cS (cS (bo Tryz.f29))))))))) (M_nest_ValidateSheet 0 1) F 0 (st_nest_ValidateSheet_0 t2 t70 t71 t72 c3_0 c3_1 c3_2 c3_3) (k_nest_ValidateSheet_0 F Post) = n_nest_ValidateSheet_0 F (fun r0 => Post (.int .i64 r0)) t2 t70 t71 t72 c3_0 c3_1 c3_2 c3_3 := by
  rw [loop_nest_ValidateSheet_0]
  have h0 : (fun t2 t70 t71 t72 c3_0 c3_1 c3_2 c3_3 => k_nest_ValidateSheet_0 F Post (.exit 1) (st_nest_ValidateSheet_0 t2 t70 t71 t72 c3_0 c3_1 c3_2 c3_3)) = (fun t2 t70 t71 t72 c3_0 c3_1 c3_2 c3_3 => g_nest_ValidateSheet_c0_0 (fun r0 => Post (.int .i64 r0)) t2 t70 t71 t72 c3_0 c3_1 c3_2 c3_3) := by
    funext t2 t70 t71 t72 c3_0 c3_1 c3_2 c3_3
    rw [cont_nest_ValidateSheet_0_0]
  have h1 : (fun t2 t70 t71 t72 c3_0 c3_1 c3_2 c3_3 => k_nest_ValidateSheet_0 F Post .ret (st_nest_ValidateSheet_0 t2 t70 t71 t72 c3_0 c3_1 c3_2 c3_3)) = (fun t2 t70 t71 t72 c3_0 c3_1 c3_2 c3_3 => g_nest_ValidateSheet_c0_1 (fun r0 => Post (.int .i64 r0)) t2 t70 t71 t72 c3_0 c3_1 c3_2 c3_3) := by
    funext t2 t70 t71 t72 c3_0 c3_1 c3_2 c3_3
    rw [cont_nest_ValidateSheet_0_1]
  rw [h0, h1]
  rfl
theorem exec_nest_ValidateSheet (F : Nat) (Post : AVal UU → Prop) (a0_Name : ByteArray) (a0_Material : ByteArray) (a0_Gauge : Int) (a0_Grain : Int) (a0_Width : Int) (a0_Height : Int) (a0_Clamps : List Rect) (a0_Used : List Rect) : exec C_ref06_inside Tryz.f29.ntmps M_nest_ValidateSheet F 0 (bo Tryz.f29) (initSt [.agg [.str a0_Name, .str a0_Material, .int .i64 a0_Gauge, .int .i64 a0_Grain, .int .i64 a0_Width, .int .i64 a0_Height, .sl .rect a0_Clamps, .sl .rect a0_Used]]) (AEnds C_ref06_inside false Tryz.f29 Post) = w_nest_ValidateSheet F a0_Name a0_Material a0_Gauge a0_Grain a0_Width a0_Height a0_Clamps a0_Used (fun r0 => Post (.int .i64 r0)) := by
  rw [entry_nest_ValidateSheet]
  have e0 : (fun t2 t70 t71 t72 c3_0 c3_1 c3_2 c3_3 => iter (execG (inliner M_nest_ValidateSheet F 0 C_ref06_inside) C_ref06_inside Tryz.f29.ntmps M_nest_ValidateSheet F 1 (cL (cB (cS (cF (cS (cS (cS (bo Tryz.f29))))))))) (M_nest_ValidateSheet 0 1) F 0 (st_nest_ValidateSheet_0 t2 t70 t71 t72 c3_0 c3_1 c3_2 c3_3) (k_nest_ValidateSheet_0 F Post)) = (n_nest_ValidateSheet_0 F (fun r0 => Post (.int .i64 r0))) := by
    funext t2 t70 t71 t72 c3_0 c3_1 c3_2 c3_3
    exact nl_nest_ValidateSheet_0 F Post t2 t70 t71 t72 c3_0 c3_1 c3_2 c3_3
  rw [e0]
  rfl
def m_nest_ValidateSheet : Model UU
  | [.agg [.str a0_Name, .str a0_Material, .int .i64 a0_Gauge, .int .i64 a0_Grain, .int .i64 a0_Width, .int .i64 a0_Height, .sl .rect a0_Clamps, .sl .rect a0_Used]] => some ([], .int .i64 (sp_nest_ValidateSheet a0_Name a0_Material a0_Gauge a0_Grain a0_Width a0_Height a0_Clamps a0_Used))
  | _ => none
def C_nest_ValidateSheet : Cfg UU := C_ref06_inside.add 29 m_nest_ValidateSheet
theorem s_nest_ValidateSheet : SumOK C_nest_ValidateSheet := by
  refine s_ref06_inside.addD mixed (fn := Tryz.f29) (c := bo Tryz.f29) Tryz.func29 (by kernel_rfl) (by kernel_rfl) ?_
  intro xs cs r h hc
  unfold m_nest_ValidateSheet at h
  split at h
  · rename_i a0_Name a0_Material a0_Gauge a0_Grain a0_Width a0_Height a0_Clamps a0_Used
    cases h
    obtain ⟨F, hF⟩ := ok_nest_ValidateSheet a0_Name a0_Material a0_Gauge a0_Grain a0_Width a0_Height a0_Clamps a0_Used
    refine ⟨by kernel_rfl, M_nest_ValidateSheet, F, false, ⟨?_⟩⟩
    rw [exec_nest_ValidateSheet]
    refine hF _ ?_
    rfl
  · cases h
set_option maxRecDepth 100000 in
theorem entry_ref06_ValidateSheet (F : Nat) (Post : AVal UU → Prop) (a0_Name : ByteArray) (a0_Material : ByteArray) (a0_Gauge : Int) (a0_Grain : Int) (a0_Width : Int) (a0_Height : Int) (a0_Clamps : List Rect) (a0_Used : List Rect) : exec C_nest_ValidateSheet Tryz.f34.ntmps M_ref06_ValidateSheet F 0 (bo Tryz.f34) (initSt [.agg [.str a0_Name, .str a0_Material, .int .i64 a0_Gauge, .int .i64 a0_Grain, .int .i64 a0_Width, .int .i64 a0_Height, .sl .rect a0_Clamps, .sl .rect a0_Used]]) (AEnds C_nest_ValidateSheet false Tryz.f34 Post) = g_ref06_ValidateSheet_e a0_Name a0_Material a0_Gauge a0_Grain a0_Width a0_Height a0_Clamps a0_Used (fun r0 => Post (.int .i64 r0)) := by kernel_rfl
theorem exec_ref06_ValidateSheet (F : Nat) (Post : AVal UU → Prop) (a0_Name : ByteArray) (a0_Material : ByteArray) (a0_Gauge : Int) (a0_Grain : Int) (a0_Width : Int) (a0_Height : Int) (a0_Clamps : List Rect) (a0_Used : List Rect) : exec C_nest_ValidateSheet Tryz.f34.ntmps M_ref06_ValidateSheet F 0 (bo Tryz.f34) (initSt [.agg [.str a0_Name, .str a0_Material, .int .i64 a0_Gauge, .int .i64 a0_Grain, .int .i64 a0_Width, .int .i64 a0_Height, .sl .rect a0_Clamps, .sl .rect a0_Used]]) (AEnds C_nest_ValidateSheet false Tryz.f34 Post) = w_ref06_ValidateSheet F a0_Name a0_Material a0_Gauge a0_Grain a0_Width a0_Height a0_Clamps a0_Used (fun r0 => Post (.int .i64 r0)) := by
  rw [entry_ref06_ValidateSheet]
  rfl
def m_ref06_ValidateSheet : Model UU
  | [.agg [.str a0_Name, .str a0_Material, .int .i64 a0_Gauge, .int .i64 a0_Grain, .int .i64 a0_Width, .int .i64 a0_Height, .sl .rect a0_Clamps, .sl .rect a0_Used]] => some ([pre_ref06_ValidateSheet a0_Name a0_Material a0_Gauge a0_Grain a0_Width a0_Height a0_Clamps a0_Used], .int .i64 (sp_ref06_ValidateSheet a0_Name a0_Material a0_Gauge a0_Grain a0_Width a0_Height a0_Clamps a0_Used))
  | _ => none
def C_ref06_ValidateSheet : Cfg UU := C_nest_ValidateSheet.add 34 m_ref06_ValidateSheet
theorem s_ref06_ValidateSheet : SumOK C_ref06_ValidateSheet := by
  refine s_nest_ValidateSheet.addD mixed (fn := Tryz.f34) (c := bo Tryz.f34) Tryz.func34 (by kernel_rfl) (by kernel_rfl) ?_
  intro xs cs r h hc
  unfold m_ref06_ValidateSheet at h
  split at h
  · rename_i a0_Name a0_Material a0_Gauge a0_Grain a0_Width a0_Height a0_Clamps a0_Used
    cases h
    obtain ⟨F, hF⟩ := ok_ref06_ValidateSheet a0_Name a0_Material a0_Gauge a0_Grain a0_Width a0_Height a0_Clamps a0_Used hc
    refine ⟨by kernel_rfl, M_ref06_ValidateSheet, F, false, ⟨?_⟩⟩
    rw [exec_ref06_ValidateSheet]
    refine hF _ ?_
    rfl
  · cases h
end
end Go.Proofs.YteffpgliiilnjaaGreatDoor

namespace Go.Proofs.YteffpgliiilnjaaGreatDoor
open Go.Vm Go.RowKit
set_option linter.unusedVariables false
noncomputable section
def k_ref06_SameSegments_0 (F : Nat) (Post : AVal UU → Prop) : AEx → ASt UU → Prop := kBlock 0 (kSeq (inliner M_ref06_SameSegments F 0 C_ref06_ValidateSheet) C_ref06_ValidateSheet Tryz.f11.ntmps M_ref06_SameSegments F 0 (cS (cS (cS (bo Tryz.f11)))) (AEnds C_ref06_ValidateSheet false Tryz.f11 Post))
set_option maxRecDepth 100000 in
theorem step_ref06_SameSegments_0 (F n r : Nat) (K : AEx → ASt UU → Prop) (t0 : List Seg) (t1 : List Seg) (t4 : Bool) (t5 : Int) : iter (execG (inliner M_ref06_SameSegments F 0 C_ref06_ValidateSheet) C_ref06_ValidateSheet Tryz.f11.ntmps M_ref06_SameSegments F 0 (cL (cB (cS (cF (cS (cS (bo Tryz.f11)))))))) (M_ref06_SameSegments 0 0) (n + 1) r (st_ref06_SameSegments_0 t0 t1 t4 t5) K = g_ref06_SameSegments_s0 (fun t0 t1 t4 t5 => iter (execG (inliner M_ref06_SameSegments F 0 C_ref06_ValidateSheet) C_ref06_ValidateSheet Tryz.f11.ntmps M_ref06_SameSegments F 0 (cL (cB (cS (cF (cS (cS (bo Tryz.f11)))))))) (M_ref06_SameSegments 0 0) n (r + 1) (st_ref06_SameSegments_0 t0 t1 t4 t5) K) (fun t0 t1 t4 t5 => K .ret (st_ref06_SameSegments_0 t0 t1 t4 t5)) (fun t0 t1 t4 t5 => K (.exit 0) (st_ref06_SameSegments_0 t0 t1 t4 t5)) t0 t1 t4 t5 := by kernel_rfl
set_option maxRecDepth 100000 in
theorem cont_ref06_SameSegments_0_0 (F : Nat) (Post : AVal UU → Prop) (t0 : List Seg) (t1 : List Seg) (t4 : Bool) (t5 : Int) : k_ref06_SameSegments_0 F Post .ret (st_ref06_SameSegments_0 t0 t1 t4 t5) = g_ref06_SameSegments_c0_0 (fun r0 => Post (.bool r0)) t0 t1 t4 t5 := by kernel_rfl
set_option maxRecDepth 100000 in
theorem cont_ref06_SameSegments_0_1 (F : Nat) (Post : AVal UU → Prop) (t0 : List Seg) (t1 : List Seg) (t4 : Bool) (t5 : Int) : k_ref06_SameSegments_0 F Post (.exit 0) (st_ref06_SameSegments_0 t0 t1 t4 t5) = g_ref06_SameSegments_c0_1 (fun r0 => Post (.bool r0)) t0 t1 t4 t5 := by kernel_rfl
set_option maxRecDepth 100000 in
theorem entry_ref06_SameSegments (F : Nat) (Post : AVal UU → Prop) (a0 : List Seg) (a1 : List Seg) : exec C_ref06_ValidateSheet Tryz.f11.ntmps M_ref06_SameSegments F 0 (bo Tryz.f11) (initSt [.sl .seg a0, .sl .seg a1]) (AEnds C_ref06_ValidateSheet false Tryz.f11 Post) = g_ref06_SameSegments_e a0 a1 (fun r0 => Post (.bool r0)) (fun t0 t1 t4 t5 => iter (execG (inliner M_ref06_SameSegments F 0 C_ref06_ValidateSheet) C_ref06_ValidateSheet Tryz.f11.ntmps M_ref06_SameSegments F 0 (cL (cB (cS (cF (cS (cS (bo Tryz.f11)))))))) (M_ref06_SameSegments 0 0) F 0 (st_ref06_SameSegments_0 t0 t1 t4 t5) (k_ref06_SameSegments_0 F Post)) := by kernel_rfl
theorem loop_ref06_SameSegments_0 (F : Nat) (K : AEx → ASt UU → Prop) : ∀ (n r : Nat) (t0 : List Seg) (t1 : List Seg) (t4 : Bool) (t5 : Int), iter (execG (inliner M_ref06_SameSegments F 0 C_ref06_ValidateSheet) C_ref06_ValidateSheet Tryz.f11.ntmps M_ref06_SameSegments F 0 (cL (cB (cS (cF (cS (cS (bo Tryz.f11)))))))) (M_ref06_SameSegments 0 0) n r (st_ref06_SameSegments_0 t0 t1 t4 t5) K = w_ref06_SameSegments_0 F  (fun t0 t1 t4 t5 => K .ret (st_ref06_SameSegments_0 t0 t1 t4 t5)) (fun t0 t1 t4 t5 => K (.exit 0) (st_ref06_SameSegments_0 t0 t1 t4 t5)) n t0 t1 t4 t5 := by
  intro n
  induction n with
  | zero => intros; rfl
  | succ n ih =>
    intro r t0 t1 t4 t5
    have e : (fun t0 t1 t4 t5 => iter (execG (inliner M_ref06_SameSegments F 0 C_ref06_ValidateSheet) C_ref06_ValidateSheet Tryz.f11.ntmps M_ref06_SameSegments F 0 (cL (cB (cS (cF (cS (cS (bo Tryz.f11)))))))) (M_ref06_SameSegments 0 0) n (r + 1) (st_ref06_SameSegments_0 t0 t1 t4 t5) K) = w_ref06_SameSegments_0 F  (fun t0 t1 t4 t5 => K .ret (st_ref06_SameSegments_0 t0 t1 t4 t5)) (fun t0 t1 t4 t5 => K (.exit 0) (st_ref06_SameSegments_0 t0 t1 t4 t5)) n := by
      funext t0 t1 t4 t5
      exact ih (r + 1) t0 t1 t4 t5
    rw [step_ref06_SameSegments_0, e]
    rfl
theorem nl_ref06_SameSegments_0 (F : Nat) (Post : AVal UU → Prop) (t0 : List Seg) (t1 : List Seg) (t4 : Bool) (t5 : Int) : iter (execG (inliner M_ref06_SameSegments F 0 C_ref06_ValidateSheet) C_ref06_ValidateSheet Tryz.f11.ntmps M_ref06_SameSegments F 0 (cL (cB (cS (cF (cS (cS (bo Tryz.f11)))))))) (M_ref06_SameSegments 0 0) F 0 (st_ref06_SameSegments_0 t0 t1 t4 t5) (k_ref06_SameSegments_0 F Post) = n_ref06_SameSegments_0 F (fun r0 => Post (.bool r0)) t0 t1 t4 t5 := by
  rw [loop_ref06_SameSegments_0]
  have h0 : (fun t0 t1 t4 t5 => k_ref06_SameSegments_0 F Post .ret (st_ref06_SameSegments_0 t0 t1 t4 t5)) = (fun t0 t1 t4 t5 => g_ref06_SameSegments_c0_0 (fun r0 => Post (.bool r0)) t0 t1 t4 t5) := by
    funext t0 t1 t4 t5
    rw [cont_ref06_SameSegments_0_0]
  have h1 : (fun t0 t1 t4 t5 => k_ref06_SameSegments_0 F Post (.exit 0) (st_ref06_SameSegments_0 t0 t1 t4 t5)) = (fun t0 t1 t4 t5 => g_ref06_SameSegments_c0_1 (fun r0 => Post (.bool r0)) t0 t1 t4 t5) := by
    funext t0 t1 t4 t5
    rw [cont_ref06_SameSegments_0_1]
  rw [h0, h1]
  rfl
theorem exec_ref06_SameSegments (F : Nat) (Post : AVal UU → Prop) (a0 : List Seg) (a1 : List Seg) : exec C_ref06_ValidateSheet Tryz.f11.ntmps M_ref06_SameSegments F 0 (bo Tryz.f11) (initSt [.sl .seg a0, .sl .seg a1]) (AEnds C_ref06_ValidateSheet false Tryz.f11 Post) = w_ref06_SameSegments F a0 a1 (fun r0 => Post (.bool r0)) := by
  rw [entry_ref06_SameSegments]
  have e0 : (fun t0 t1 t4 t5 => iter (execG (inliner M_ref06_SameSegments F 0 C_ref06_ValidateSheet) C_ref06_ValidateSheet Tryz.f11.ntmps M_ref06_SameSegments F 0 (cL (cB (cS (cF (cS (cS (bo Tryz.f11)))))))) (M_ref06_SameSegments 0 0) F 0 (st_ref06_SameSegments_0 t0 t1 t4 t5) (k_ref06_SameSegments_0 F Post)) = (n_ref06_SameSegments_0 F (fun r0 => Post (.bool r0))) := by
    funext t0 t1 t4 t5
    exact nl_ref06_SameSegments_0 F Post t0 t1 t4 t5
  rw [e0]
  rfl
def m_ref06_SameSegments : Model UU
  | [.sl .seg a0, .sl .seg a1] => some ([pre_ref06_SameSegments a0 a1], .bool (sp_ref06_SameSegments a0 a1))
  | _ => none
def C_ref06_SameSegments : Cfg UU := C_ref06_ValidateSheet.add 11 m_ref06_SameSegments
theorem s_ref06_SameSegments : SumOK C_ref06_SameSegments := by
  refine s_ref06_ValidateSheet.addD mixed (fn := Tryz.f11) (c := bo Tryz.f11) Tryz.func11 (by kernel_rfl) (by kernel_rfl) ?_
  intro xs cs r h hc
  unfold m_ref06_SameSegments at h
  split at h
  · rename_i a0 a1
    cases h
    obtain ⟨F, hF⟩ := ok_ref06_SameSegments a0 a1 hc
    refine ⟨by kernel_rfl, M_ref06_SameSegments, F, false, ⟨?_⟩⟩
    rw [exec_ref06_SameSegments]
    refine hF _ ?_
    rfl
  · cases h
def k_ref06_SameRects_0 (F : Nat) (Post : AVal UU → Prop) : AEx → ASt UU → Prop := kBlock 0 (kSeq (inliner M_ref06_SameRects F 0 C_ref06_SameSegments) C_ref06_SameSegments Tryz.f12.ntmps M_ref06_SameRects F 0 (cS (cS (cS (bo Tryz.f12)))) (AEnds C_ref06_SameSegments false Tryz.f12 Post))
set_option maxRecDepth 100000 in
theorem step_ref06_SameRects_0 (F n r : Nat) (K : AEx → ASt UU → Prop) (t0 : List Rect) (t1 : List Rect) (t4 : Bool) (t5 : Int) : iter (execG (inliner M_ref06_SameRects F 0 C_ref06_SameSegments) C_ref06_SameSegments Tryz.f12.ntmps M_ref06_SameRects F 0 (cL (cB (cS (cF (cS (cS (bo Tryz.f12)))))))) (M_ref06_SameRects 0 0) (n + 1) r (st_ref06_SameRects_0 t0 t1 t4 t5) K = g_ref06_SameRects_s0 (fun t0 t1 t4 t5 => iter (execG (inliner M_ref06_SameRects F 0 C_ref06_SameSegments) C_ref06_SameSegments Tryz.f12.ntmps M_ref06_SameRects F 0 (cL (cB (cS (cF (cS (cS (bo Tryz.f12)))))))) (M_ref06_SameRects 0 0) n (r + 1) (st_ref06_SameRects_0 t0 t1 t4 t5) K) (fun t0 t1 t4 t5 => K .ret (st_ref06_SameRects_0 t0 t1 t4 t5)) (fun t0 t1 t4 t5 => K (.exit 0) (st_ref06_SameRects_0 t0 t1 t4 t5)) t0 t1 t4 t5 := by kernel_rfl
set_option maxRecDepth 100000 in
theorem cont_ref06_SameRects_0_0 (F : Nat) (Post : AVal UU → Prop) (t0 : List Rect) (t1 : List Rect) (t4 : Bool) (t5 : Int) : k_ref06_SameRects_0 F Post .ret (st_ref06_SameRects_0 t0 t1 t4 t5) = g_ref06_SameRects_c0_0 (fun r0 => Post (.bool r0)) t0 t1 t4 t5 := by kernel_rfl
set_option maxRecDepth 100000 in
theorem cont_ref06_SameRects_0_1 (F : Nat) (Post : AVal UU → Prop) (t0 : List Rect) (t1 : List Rect) (t4 : Bool) (t5 : Int) : k_ref06_SameRects_0 F Post (.exit 0) (st_ref06_SameRects_0 t0 t1 t4 t5) = g_ref06_SameRects_c0_1 (fun r0 => Post (.bool r0)) t0 t1 t4 t5 := by kernel_rfl
set_option maxRecDepth 100000 in
theorem entry_ref06_SameRects (F : Nat) (Post : AVal UU → Prop) (a0 : List Rect) (a1 : List Rect) : exec C_ref06_SameSegments Tryz.f12.ntmps M_ref06_SameRects F 0 (bo Tryz.f12) (initSt [.sl .rect a0, .sl .rect a1]) (AEnds C_ref06_SameSegments false Tryz.f12 Post) = g_ref06_SameRects_e a0 a1 (fun r0 => Post (.bool r0)) (fun t0 t1 t4 t5 => iter (execG (inliner M_ref06_SameRects F 0 C_ref06_SameSegments) C_ref06_SameSegments Tryz.f12.ntmps M_ref06_SameRects F 0 (cL (cB (cS (cF (cS (cS (bo Tryz.f12)))))))) (M_ref06_SameRects 0 0) F 0 (st_ref06_SameRects_0 t0 t1 t4 t5) (k_ref06_SameRects_0 F Post)) := by kernel_rfl
theorem loop_ref06_SameRects_0 (F : Nat) (K : AEx → ASt UU → Prop) : ∀ (n r : Nat) (t0 : List Rect) (t1 : List Rect) (t4 : Bool) (t5 : Int), iter (execG (inliner M_ref06_SameRects F 0 C_ref06_SameSegments) C_ref06_SameSegments Tryz.f12.ntmps M_ref06_SameRects F 0 (cL (cB (cS (cF (cS (cS (bo Tryz.f12)))))))) (M_ref06_SameRects 0 0) n r (st_ref06_SameRects_0 t0 t1 t4 t5) K = w_ref06_SameRects_0 F  (fun t0 t1 t4 t5 => K .ret (st_ref06_SameRects_0 t0 t1 t4 t5)) (fun t0 t1 t4 t5 => K (.exit 0) (st_ref06_SameRects_0 t0 t1 t4 t5)) n t0 t1 t4 t5 := by
  intro n
  induction n with
  | zero => intros; rfl
  | succ n ih =>
    intro r t0 t1 t4 t5
    have e : (fun t0 t1 t4 t5 => iter (execG (inliner M_ref06_SameRects F 0 C_ref06_SameSegments) C_ref06_SameSegments Tryz.f12.ntmps M_ref06_SameRects F 0 (cL (cB (cS (cF (cS (cS (bo Tryz.f12)))))))) (M_ref06_SameRects 0 0) n (r + 1) (st_ref06_SameRects_0 t0 t1 t4 t5) K) = w_ref06_SameRects_0 F  (fun t0 t1 t4 t5 => K .ret (st_ref06_SameRects_0 t0 t1 t4 t5)) (fun t0 t1 t4 t5 => K (.exit 0) (st_ref06_SameRects_0 t0 t1 t4 t5)) n := by
      funext t0 t1 t4 t5
      exact ih (r + 1) t0 t1 t4 t5
    rw [step_ref06_SameRects_0, e]
    rfl
theorem nl_ref06_SameRects_0 (F : Nat) (Post : AVal UU → Prop) (t0 : List Rect) (t1 : List Rect) (t4 : Bool) (t5 : Int) : iter (execG (inliner M_ref06_SameRects F 0 C_ref06_SameSegments) C_ref06_SameSegments Tryz.f12.ntmps M_ref06_SameRects F 0 (cL (cB (cS (cF (cS (cS (bo Tryz.f12)))))))) (M_ref06_SameRects 0 0) F 0 (st_ref06_SameRects_0 t0 t1 t4 t5) (k_ref06_SameRects_0 F Post) = n_ref06_SameRects_0 F (fun r0 => Post (.bool r0)) t0 t1 t4 t5 := by
  rw [loop_ref06_SameRects_0]
  have h0 : (fun t0 t1 t4 t5 => k_ref06_SameRects_0 F Post .ret (st_ref06_SameRects_0 t0 t1 t4 t5)) = (fun t0 t1 t4 t5 => g_ref06_SameRects_c0_0 (fun r0 => Post (.bool r0)) t0 t1 t4 t5) := by
    funext t0 t1 t4 t5
    rw [cont_ref06_SameRects_0_0]
  have h1 : (fun t0 t1 t4 t5 => k_ref06_SameRects_0 F Post (.exit 0) (st_ref06_SameRects_0 t0 t1 t4 t5)) = (fun t0 t1 t4 t5 => g_ref06_SameRects_c0_1 (fun r0 => Post (.bool r0)) t0 t1 t4 t5) := by
    funext t0 t1 t4 t5
    rw [cont_ref06_SameRects_0_1]
  rw [h0, h1]
  rfl
theorem exec_ref06_SameRects (F : Nat) (Post : AVal UU → Prop) (a0 : List Rect) (a1 : List Rect) : exec C_ref06_SameSegments Tryz.f12.ntmps M_ref06_SameRects F 0 (bo Tryz.f12) (initSt [.sl .rect a0, .sl .rect a1]) (AEnds C_ref06_SameSegments false Tryz.f12 Post) = w_ref06_SameRects F a0 a1 (fun r0 => Post (.bool r0)) := by
  rw [entry_ref06_SameRects]
  have e0 : (fun t0 t1 t4 t5 => iter (execG (inliner M_ref06_SameRects F 0 C_ref06_SameSegments) C_ref06_SameSegments Tryz.f12.ntmps M_ref06_SameRects F 0 (cL (cB (cS (cF (cS (cS (bo Tryz.f12)))))))) (M_ref06_SameRects 0 0) F 0 (st_ref06_SameRects_0 t0 t1 t4 t5) (k_ref06_SameRects_0 F Post)) = (n_ref06_SameRects_0 F (fun r0 => Post (.bool r0))) := by
    funext t0 t1 t4 t5
    exact nl_ref06_SameRects_0 F Post t0 t1 t4 t5
  rw [e0]
  rfl
def m_ref06_SameRects : Model UU
  | [.sl .rect a0, .sl .rect a1] => some ([pre_ref06_SameRects a0 a1], .bool (sp_ref06_SameRects a0 a1))
  | _ => none
def C_ref06_SameRects : Cfg UU := C_ref06_SameSegments.add 12 m_ref06_SameRects
theorem s_ref06_SameRects : SumOK C_ref06_SameRects := by
  refine s_ref06_SameSegments.addD mixed (fn := Tryz.f12) (c := bo Tryz.f12) Tryz.func12 (by kernel_rfl) (by kernel_rfl) ?_
  intro xs cs r h hc
  unfold m_ref06_SameRects at h
  split at h
  · rename_i a0 a1
    cases h
    obtain ⟨F, hF⟩ := ok_ref06_SameRects a0 a1 hc
    refine ⟨by kernel_rfl, M_ref06_SameRects, F, false, ⟨?_⟩⟩
    rw [exec_ref06_SameRects]
    refine hF _ ?_
    rfl
  · cases h
def k_ref08_Merge_0 (F : Nat) (Post : AVal UU → Prop) : AEx → ASt UU → Prop := kBlock 0 (kSeq (inliner M_ref08_Merge F 0 C_ref06_SameRects) C_ref06_SameRects Tryz.f39.ntmps M_ref08_Merge F 0 (cS (cS (cS (bo Tryz.f39)))) (AEnds C_ref06_SameRects true Tryz.f39 Post))
def k_ref08_Merge_1 (F n r : Nat) (K : AEx → ASt UU → Prop) : AEx → ASt UU → Prop := kBlock 2 (kBlock 1 (kSeq (inliner M_ref08_Merge F 0 C_ref06_SameRects) C_ref06_SameRects Tryz.f39.ntmps M_ref08_Merge F 0 (cS (cS (cL (cB (cS (cF (cS (cS (bo Tryz.f39))))))))) (kIter (execG (inliner M_ref08_Merge F 0 C_ref06_SameRects) C_ref06_SameRects Tryz.f39.ntmps M_ref08_Merge F 0 (cL (cB (cS (cF (cS (cS (bo Tryz.f39)))))))) (M_ref08_Merge 0 0) n r K)))
def k_ref08_Merge_2 (F : Nat) (Post : AVal UU → Prop) : AEx → ASt UU → Prop := kBlock 4 (kSeq (inliner M_ref08_Merge F 0 C_ref06_SameRects) C_ref06_SameRects Tryz.f39.ntmps M_ref08_Merge F 0 (cS (cS (cS (cS (bo Tryz.f39))))) (AEnds C_ref06_SameRects true Tryz.f39 Post))
set_option maxRecDepth 100000 in
theorem step_ref08_Merge_0 (F n r : Nat) (K : AEx → ASt UU → Prop) (t0 : List Seg) (t5 : Int) (l119 : List Seg) : iter (execG (inliner M_ref08_Merge F 0 C_ref06_SameRects) C_ref06_SameRects Tryz.f39.ntmps M_ref08_Merge F 0 (cL (cB (cS (cF (cS (cS (bo Tryz.f39)))))))) (M_ref08_Merge 0 0) (n + 1) r (st_ref08_Merge_0 t0 t5 l119) K = g_ref08_Merge_s0 (fun t0 t5 l119 => iter (execG (inliner M_ref08_Merge F 0 C_ref06_SameRects) C_ref06_SameRects Tryz.f39.ntmps M_ref08_Merge F 0 (cL (cB (cS (cF (cS (cS (bo Tryz.f39)))))))) (M_ref08_Merge 0 0) n (r + 1) (st_ref08_Merge_0 t0 t5 l119) K) (fun t0 t5 l119 => K (.exit 0) (st_ref08_Merge_0 t0 t5 l119)) t0 t5 l119 (fun t0 t5 t6 l119 => iter (execG (inliner M_ref08_Merge F 0 C_ref06_SameRects) C_ref06_SameRects Tryz.f39.ntmps M_ref08_Merge F 2 (cL (cB (cS (cS (cB (cF (cS (cL (cB (cS (cF (cS (cS (bo Tryz.f39))))))))))))))) (M_ref08_Merge 0 2) F 0 (st_ref08_Merge_1 t0 t5 t6 l119) (k_ref08_Merge_1 F n r K)) := by kernel_rfl
set_option maxRecDepth 100000 in
theorem cont_ref08_Merge_0_0 (F : Nat) (Post : AVal UU → Prop) (t0 : List Seg) (t5 : Int) (l119 : List Seg) : k_ref08_Merge_0 F Post (.exit 0) (st_ref08_Merge_0 t0 t5 l119) = g_ref08_Merge_c0_0 (fun r0 => Post (.new .seg r0)) t0 t5 l119 (fun t8 l119 l120 => iter (execG (inliner M_ref08_Merge F 0 C_ref06_SameRects) C_ref06_SameRects Tryz.f39.ntmps M_ref08_Merge F 4 (cL (cB (cS (cF (cS (cS (cS (bo Tryz.f39))))))))) (M_ref08_Merge 0 4) F 0 (st_ref08_Merge_2 t8 l119 l120) (k_ref08_Merge_2 F Post)) := by kernel_rfl
set_option maxRecDepth 100000 in
theorem step_ref08_Merge_1 (F n r : Nat) (K : AEx → ASt UU → Prop) (t0 : List Seg) (t5 : Int) (t6 : Int) (l119 : List Seg) : iter (execG (inliner M_ref08_Merge F 0 C_ref06_SameRects) C_ref06_SameRects Tryz.f39.ntmps M_ref08_Merge F 2 (cL (cB (cS (cS (cB (cF (cS (cL (cB (cS (cF (cS (cS (bo Tryz.f39))))))))))))))) (M_ref08_Merge 0 2) (n + 1) r (st_ref08_Merge_1 t0 t5 t6 l119) K = g_ref08_Merge_s1 (fun t0 t5 t6 l119 => iter (execG (inliner M_ref08_Merge F 0 C_ref06_SameRects) C_ref06_SameRects Tryz.f39.ntmps M_ref08_Merge F 2 (cL (cB (cS (cS (cB (cF (cS (cL (cB (cS (cF (cS (cS (bo Tryz.f39))))))))))))))) (M_ref08_Merge 0 2) n (r + 1) (st_ref08_Merge_1 t0 t5 t6 l119) K) (fun t0 t5 t6 l119 => K (.exit 2) (st_ref08_Merge_1 t0 t5 t6 l119)) t0 t5 t6 l119 := by kernel_rfl
set_option maxRecDepth 100000 in
theorem cont_ref08_Merge_1_0 (F n r : Nat) (K : AEx → ASt UU → Prop) (t0 : List Seg) (t5 : Int) (t6 : Int) (l119 : List Seg) : k_ref08_Merge_1 F n r K (.exit 2) (st_ref08_Merge_1 t0 t5 t6 l119) = g_ref08_Merge_c1_0 (fun t0 t5 l119 => iter (execG (inliner M_ref08_Merge F 0 C_ref06_SameRects) C_ref06_SameRects Tryz.f39.ntmps M_ref08_Merge F 0 (cL (cB (cS (cF (cS (cS (bo Tryz.f39)))))))) (M_ref08_Merge 0 0) n (r + 1) (st_ref08_Merge_0 t0 t5 l119) K) (fun t0 t5 l119 => K (.exit 0) (st_ref08_Merge_0 t0 t5 l119)) t0 t5 t6 l119 := by kernel_rfl
set_option maxRecDepth 100000 in
theorem step_ref08_Merge_2 (F n r : Nat) (K : AEx → ASt UU → Prop) (t8 : Int) (l119 : List Seg) (l120 : List Seg) : iter (execG (inliner M_ref08_Merge F 0 C_ref06_SameRects) C_ref06_SameRects Tryz.f39.ntmps M_ref08_Merge F 4 (cL (cB (cS (cF (cS (cS (cS (bo Tryz.f39))))))))) (M_ref08_Merge 0 4) (n + 1) r (st_ref08_Merge_2 t8 l119 l120) K = g_ref08_Merge_s2 (fun t8 l119 l120 => iter (execG (inliner M_ref08_Merge F 0 C_ref06_SameRects) C_ref06_SameRects Tryz.f39.ntmps M_ref08_Merge F 4 (cL (cB (cS (cF (cS (cS (cS (bo Tryz.f39))))))))) (M_ref08_Merge 0 4) n (r + 1) (st_ref08_Merge_2 t8 l119 l120) K) (fun t8 l119 l120 => K (.exit 4) (st_ref08_Merge_2 t8 l119 l120)) t8 l119 l120 := by kernel_rfl
set_option maxRecDepth 100000 in
theorem cont_ref08_Merge_2_0 (F : Nat) (Post : AVal UU → Prop) (t8 : Int) (l119 : List Seg) (l120 : List Seg) : k_ref08_Merge_2 F Post (.exit 4) (st_ref08_Merge_2 t8 l119 l120) = g_ref08_Merge_c2_0 (fun r0 => Post (.new .seg r0)) t8 l119 l120 := by kernel_rfl
set_option maxRecDepth 100000 in
theorem entry_ref08_Merge (F : Nat) (Post : AVal UU → Prop) (a0 : List Seg) : exec C_ref06_SameRects Tryz.f39.ntmps M_ref08_Merge F 0 (bo Tryz.f39) (initSt [.sl .seg a0]) (AEnds C_ref06_SameRects true Tryz.f39 Post) = g_ref08_Merge_e a0 (fun r0 => Post (.new .seg r0)) (fun t0 t5 l119 => iter (execG (inliner M_ref08_Merge F 0 C_ref06_SameRects) C_ref06_SameRects Tryz.f39.ntmps M_ref08_Merge F 0 (cL (cB (cS (cF (cS (cS (bo Tryz.f39)))))))) (M_ref08_Merge 0 0) F 0 (st_ref08_Merge_0 t0 t5 l119) (k_ref08_Merge_0 F Post)) := by kernel_rfl
theorem loop_ref08_Merge_1 (F : Nat) (K : AEx → ASt UU → Prop) : ∀ (n r : Nat) (t0 : List Seg) (t5 : Int) (t6 : Int) (l119 : List Seg), iter (execG (inliner M_ref08_Merge F 0 C_ref06_SameRects) C_ref06_SameRects Tryz.f39.ntmps M_ref08_Merge F 2 (cL (cB (cS (cS (cB (cF (cS (cL (cB (cS (cF (cS (cS (bo Tryz.f39))))))))))))))) (M_ref08_Merge 0 2) n r (st_ref08_Merge_1 t0 t5 t6 l119) K = w_ref08_Merge_1 F  (fun t0 t5 t6 l119 => K (.exit 2) (st_ref08_Merge_1 t0 t5 t6 l119)) n t0 t5 t6 l119 := by
  intro n
  induction n with
  | zero => intros; rfl
  | succ n ih =>
    intro r t0 t5 t6 l119
    have e : (fun t0 t5 t6 l119 => iter (execG (inliner M_ref08_Merge F 0 C_ref06_SameRects) C_ref06_SameRects Tryz.f39.ntmps M_ref08_Merge F 2 (cL (cB (cS (cS (cB (cF (cS (cL (cB (cS (cF (cS (cS (bo Tryz.f39))))))))))))))) (M_ref08_Merge 0 2) n (r + 1) (st_ref08_Merge_1 t0 t5 t6 l119) K) = w_ref08_Merge_1 F  (fun t0 t5 t6 l119 => K (.exit 2) (st_ref08_Merge_1 t0 t5 t6 l119)) n := by
      funext t0 t5 t6 l119
      exact ih (r + 1) t0 t5 t6 l119
    rw [step_ref08_Merge_1, e]
    rfl
theorem nl_ref08_Merge_1 (F n r : Nat) (K : AEx → ASt UU → Prop) (t0 : List Seg) (t5 : Int) (t6 : Int) (l119 : List Seg) : iter (execG (inliner M_ref08_Merge F 0 C_ref06_SameRects) C_ref06_SameRects Tryz.f39.ntmps M_ref08_Merge F 2 (cL (cB (cS (cS (cB (cF (cS (cL (cB (cS (cF (cS (cS (bo Tryz.f39))))))))))))))) (M_ref08_Merge 0 2) F 0 (st_ref08_Merge_1 t0 t5 t6 l119) (k_ref08_Merge_1 F n r K) = n_ref08_Merge_1 F (fun t0 t5 l119 => iter (execG (inliner M_ref08_Merge F 0 C_ref06_SameRects) C_ref06_SameRects Tryz.f39.ntmps M_ref08_Merge F 0 (cL (cB (cS (cF (cS (cS (bo Tryz.f39)))))))) (M_ref08_Merge 0 0) n (r + 1) (st_ref08_Merge_0 t0 t5 l119) K) (fun t0 t5 l119 => K (.exit 0) (st_ref08_Merge_0 t0 t5 l119)) t0 t5 t6 l119 := by
  rw [loop_ref08_Merge_1]
  have h0 : (fun t0 t5 t6 l119 => k_ref08_Merge_1 F n r K (.exit 2) (st_ref08_Merge_1 t0 t5 t6 l119)) = (fun t0 t5 t6 l119 => g_ref08_Merge_c1_0 (fun t0 t5 l119 => iter (execG (inliner M_ref08_Merge F 0 C_ref06_SameRects) C_ref06_SameRects Tryz.f39.ntmps M_ref08_Merge F 0 (cL (cB (cS (cF (cS (cS (bo Tryz.f39)))))))) (M_ref08_Merge 0 0) n (r + 1) (st_ref08_Merge_0 t0 t5 l119) K) (fun t0 t5 l119 => K (.exit 0) (st_ref08_Merge_0 t0 t5 l119)) t0 t5 t6 l119) := by
    funext t0 t5 t6 l119
    rw [cont_ref08_Merge_1_0]
  rw [h0]
  rfl
theorem loop_ref08_Merge_2 (F : Nat) (K : AEx → ASt UU → Prop) : ∀ (n r : Nat) (t8 : Int) (l119 : List Seg) (l120 : List Seg), iter (execG (inliner M_ref08_Merge F 0 C_ref06_SameRects) C_ref06_SameRects Tryz.f39.ntmps M_ref08_Merge F 4 (cL (cB (cS (cF (cS (cS (cS (bo Tryz.f39))))))))) (M_ref08_Merge 0 4) n r (st_ref08_Merge_2 t8 l119 l120) K = w_ref08_Merge_2 F  (fun t8 l119 l120 => K (.exit 4) (st_ref08_Merge_2 t8 l119 l120)) n t8 l119 l120 := by
  intro n
  induction n with
  | zero => intros; rfl
  | succ n ih =>
    intro r t8 l119 l120
    have e : (fun t8 l119 l120 => iter (execG (inliner M_ref08_Merge F 0 C_ref06_SameRects) C_ref06_SameRects Tryz.f39.ntmps M_ref08_Merge F 4 (cL (cB (cS (cF (cS (cS (cS (bo Tryz.f39))))))))) (M_ref08_Merge 0 4) n (r + 1) (st_ref08_Merge_2 t8 l119 l120) K) = w_ref08_Merge_2 F  (fun t8 l119 l120 => K (.exit 4) (st_ref08_Merge_2 t8 l119 l120)) n := by
      funext t8 l119 l120
      exact ih (r + 1) t8 l119 l120
    rw [step_ref08_Merge_2, e]
    rfl
theorem nl_ref08_Merge_2 (F : Nat) (Post : AVal UU → Prop) (t8 : Int) (l119 : List Seg) (l120 : List Seg) : iter (execG (inliner M_ref08_Merge F 0 C_ref06_SameRects) C_ref06_SameRects Tryz.f39.ntmps M_ref08_Merge F 4 (cL (cB (cS (cF (cS (cS (cS (bo Tryz.f39))))))))) (M_ref08_Merge 0 4) F 0 (st_ref08_Merge_2 t8 l119 l120) (k_ref08_Merge_2 F Post) = n_ref08_Merge_2 F (fun r0 => Post (.new .seg r0)) t8 l119 l120 := by
  rw [loop_ref08_Merge_2]
  have h0 : (fun t8 l119 l120 => k_ref08_Merge_2 F Post (.exit 4) (st_ref08_Merge_2 t8 l119 l120)) = (fun t8 l119 l120 => g_ref08_Merge_c2_0 (fun r0 => Post (.new .seg r0)) t8 l119 l120) := by
    funext t8 l119 l120
    rw [cont_ref08_Merge_2_0]
  rw [h0]
  rfl
theorem loop_ref08_Merge_0 (F : Nat) (K : AEx → ASt UU → Prop) : ∀ (n r : Nat) (t0 : List Seg) (t5 : Int) (l119 : List Seg), iter (execG (inliner M_ref08_Merge F 0 C_ref06_SameRects) C_ref06_SameRects Tryz.f39.ntmps M_ref08_Merge F 0 (cL (cB (cS (cF (cS (cS (bo Tryz.f39)))))))) (M_ref08_Merge 0 0) n r (st_ref08_Merge_0 t0 t5 l119) K = w_ref08_Merge_0 F  (fun t0 t5 l119 => K (.exit 0) (st_ref08_Merge_0 t0 t5 l119)) n t0 t5 l119 := by
  intro n
  induction n with
  | zero => intros; rfl
  | succ n ih =>
    intro r t0 t5 l119
    have e : (fun t0 t5 l119 => iter (execG (inliner M_ref08_Merge F 0 C_ref06_SameRects) C_ref06_SameRects Tryz.f39.ntmps M_ref08_Merge F 0 (cL (cB (cS (cF (cS (cS (bo Tryz.f39)))))))) (M_ref08_Merge 0 0) n (r + 1) (st_ref08_Merge_0 t0 t5 l119) K) = w_ref08_Merge_0 F  (fun t0 t5 l119 => K (.exit 0) (st_ref08_Merge_0 t0 t5 l119)) n := by
      funext t0 t5 l119
      exact ih (r + 1) t0 t5 l119
    have e1 : (fun t0 t5 t6 l119 => iter (execG (inliner M_ref08_Merge F 0 C_ref06_SameRects) C_ref06_SameRects Tryz.f39.ntmps M_ref08_Merge F 2 (cL (cB (cS (cS (cB (cF (cS (cL (cB (cS (cF (cS (cS (bo Tryz.f39))))))))))))))) (M_ref08_Merge 0 2) F 0 (st_ref08_Merge_1 t0 t5 t6 l119) (k_ref08_Merge_1 F n r K)) = (n_ref08_Merge_1 F (fun t0 t5 l119 => iter (execG (inliner M_ref08_Merge F 0 C_ref06_SameRects) C_ref06_SameRects Tryz.f39.ntmps M_ref08_Merge F 0 (cL (cB (cS (cF (cS (cS (bo Tryz.f39)))))))) (M_ref08_Merge 0 0) n (r + 1) (st_ref08_Merge_0 t0 t5 l119) K) (fun t0 t5 l119 => K (.exit 0) (st_ref08_Merge_0 t0 t5 l119))) := by
      funext t0 t5 t6 l119
      exact nl_ref08_Merge_1 F n r K t0 t5 t6 l119
    rw [step_ref08_Merge_0, e1, e]
    rfl
theorem nl_ref08_Merge_0 (F : Nat) (Post : AVal UU → Prop) (t0 : List Seg) (t5 : Int) (l119 : List Seg) : iter (execG (inliner M_ref08_Merge F 0 C_ref06_SameRects) C_ref06_SameRects Tryz.f39.ntmps M_ref08_Merge F 0 (cL (cB (cS (cF (cS (cS (bo Tryz.f39)))))))) (M_ref08_Merge 0 0) F 0 (st_ref08_Merge_0 t0 t5 l119) (k_ref08_Merge_0 F Post) = n_ref08_Merge_0 F (fun r0 => Post (.new .seg r0)) t0 t5 l119 := by
  rw [loop_ref08_Merge_0]
  have e2 : (fun t8 l119 l120 => iter (execG (inliner M_ref08_Merge F 0 C_ref06_SameRects) C_ref06_SameRects Tryz.f39.ntmps M_ref08_Merge F 4 (cL (cB (cS (cF (cS (cS (cS (bo Tryz.f39))))))))) (M_ref08_Merge 0 4) F 0 (st_ref08_Merge_2 t8 l119 l120) (k_ref08_Merge_2 F Post)) = (n_ref08_Merge_2 F (fun r0 => Post (.new .seg r0))) := by
    funext t8 l119 l120
    exact nl_ref08_Merge_2 F Post t8 l119 l120
  have h0 : (fun t0 t5 l119 => k_ref08_Merge_0 F Post (.exit 0) (st_ref08_Merge_0 t0 t5 l119)) = (fun t0 t5 l119 => g_ref08_Merge_c0_0 (fun r0 => Post (.new .seg r0)) t0 t5 l119 (n_ref08_Merge_2 F (fun r0 => Post (.new .seg r0)))) := by
    funext t0 t5 l119
    rw [cont_ref08_Merge_0_0, e2]
  rw [h0]
  rfl
theorem exec_ref08_Merge (F : Nat) (Post : AVal UU → Prop) (a0 : List Seg) : exec C_ref06_SameRects Tryz.f39.ntmps M_ref08_Merge F 0 (bo Tryz.f39) (initSt [.sl .seg a0]) (AEnds C_ref06_SameRects true Tryz.f39 Post) = w_ref08_Merge F a0 (fun r0 => Post (.new .seg r0)) := by
  rw [entry_ref08_Merge]
  have e0 : (fun t0 t5 l119 => iter (execG (inliner M_ref08_Merge F 0 C_ref06_SameRects) C_ref06_SameRects Tryz.f39.ntmps M_ref08_Merge F 0 (cL (cB (cS (cF (cS (cS (bo Tryz.f39)))))))) (M_ref08_Merge 0 0) F 0 (st_ref08_Merge_0 t0 t5 l119) (k_ref08_Merge_0 F Post)) = (n_ref08_Merge_0 F (fun r0 => Post (.new .seg r0))) := by
    funext t0 t5 l119
    exact nl_ref08_Merge_0 F Post t0 t5 l119
  rw [e0]
  rfl
def m_ref08_Merge : Model UU
  | [.sl .seg a0] => some ([pre_ref08_Merge a0], .new .seg (sp_ref08_Merge a0))
  | _ => none
def C_ref08_Merge : Cfg UU := C_ref06_SameRects.add 39 m_ref08_Merge
theorem s_ref08_Merge : SumOK C_ref08_Merge := by
  refine s_ref06_SameRects.addD mixed (fn := Tryz.f39) (c := bo Tryz.f39) Tryz.func39 (by kernel_rfl) (by kernel_rfl) ?_
  intro xs cs r h hc
  unfold m_ref08_Merge at h
  split at h
  · rename_i a0
    cases h
    obtain ⟨F, hF⟩ := ok_ref08_Merge a0 hc
    refine ⟨by kernel_rfl, M_ref08_Merge, F, true, ⟨?_⟩⟩
    rw [exec_ref08_Merge]
    refine hF _ ?_
    rfl
  · cases h
def k_program_inRange_0 (F : Nat) (Post : AVal UU → Prop) : AEx → ASt UU → Prop := kBlock 0 (kSeq (inliner M_program_inRange F 0 C_ref08_Merge) C_ref08_Merge Tryz.f53.ntmps M_program_inRange F 0 (cS (cS (bo Tryz.f53))) (AEnds C_ref08_Merge false Tryz.f53 Post))
set_option maxRecDepth 100000 in
theorem step_program_inRange_0 (F n r : Nat) (K : AEx → ASt UU → Prop) (t2 : Bool) (t16 : Int) (t17 : Int) (l28 : List Int) : iter (execG (inliner M_program_inRange F 0 C_ref08_Merge) C_ref08_Merge Tryz.f53.ntmps M_program_inRange F 0 (cL (cB (cS (cF (cS (bo Tryz.f53))))))) (M_program_inRange 0 0) (n + 1) r (st_program_inRange_0 t2 t16 t17 l28) K = g_program_inRange_s0 (fun t2 t16 t17 l28 => iter (execG (inliner M_program_inRange F 0 C_ref08_Merge) C_ref08_Merge Tryz.f53.ntmps M_program_inRange F 0 (cL (cB (cS (cF (cS (bo Tryz.f53))))))) (M_program_inRange 0 0) n (r + 1) (st_program_inRange_0 t2 t16 t17 l28) K) (fun t2 t16 t17 l28 => K .ret (st_program_inRange_0 t2 t16 t17 l28)) (fun t2 t16 t17 l28 => K (.exit 0) (st_program_inRange_0 t2 t16 t17 l28)) t2 t16 t17 l28 := by kernel_rfl
set_option maxRecDepth 100000 in
theorem cont_program_inRange_0_0 (F : Nat) (Post : AVal UU → Prop) (t2 : Bool) (t16 : Int) (t17 : Int) (l28 : List Int) : k_program_inRange_0 F Post .ret (st_program_inRange_0 t2 t16 t17 l28) = g_program_inRange_c0_0 (fun r0 => Post (.bool r0)) t2 t16 t17 l28 := by kernel_rfl
set_option maxRecDepth 100000 in
theorem cont_program_inRange_0_1 (F : Nat) (Post : AVal UU → Prop) (t2 : Bool) (t16 : Int) (t17 : Int) (l28 : List Int) : k_program_inRange_0 F Post (.exit 0) (st_program_inRange_0 t2 t16 t17 l28) = g_program_inRange_c0_1 (fun r0 => Post (.bool r0)) t2 t16 t17 l28 := by kernel_rfl
set_option maxRecDepth 100000 in
theorem entry_program_inRange (F : Nat) (Post : AVal UU → Prop) (a0_Kind : Int) (a0_X : Int) (a0_Y : Int) (a0_W : Int) (a0_H : Int) (a0_N : Int) : exec C_ref08_Merge Tryz.f53.ntmps M_program_inRange F 0 (bo Tryz.f53) (initSt [.agg [.int .i64 a0_Kind, .int .i64 a0_X, .int .i64 a0_Y, .int .i64 a0_W, .int .i64 a0_H, .int .i64 a0_N]]) (AEnds C_ref08_Merge false Tryz.f53 Post) = g_program_inRange_e a0_Kind a0_X a0_Y a0_W a0_H a0_N (fun r0 => Post (.bool r0)) (fun t2 t16 t17 l28 => iter (execG (inliner M_program_inRange F 0 C_ref08_Merge) C_ref08_Merge Tryz.f53.ntmps M_program_inRange F 0 (cL (cB (cS (cF (cS (bo Tryz.f53))))))) (M_program_inRange 0 0) F 0 (st_program_inRange_0 t2 t16 t17 l28) (k_program_inRange_0 F Post)) := by kernel_rfl
theorem loop_program_inRange_0 (F : Nat) (K : AEx → ASt UU → Prop) : ∀ (n r : Nat) (t2 : Bool) (t16 : Int) (t17 : Int) (l28 : List Int), iter (execG (inliner M_program_inRange F 0 C_ref08_Merge) C_ref08_Merge Tryz.f53.ntmps M_program_inRange F 0 (cL (cB (cS (cF (cS (bo Tryz.f53))))))) (M_program_inRange 0 0) n r (st_program_inRange_0 t2 t16 t17 l28) K = w_program_inRange_0 F  (fun t2 t16 t17 l28 => K .ret (st_program_inRange_0 t2 t16 t17 l28)) (fun t2 t16 t17 l28 => K (.exit 0) (st_program_inRange_0 t2 t16 t17 l28)) n t2 t16 t17 l28 := by
  intro n
  induction n with
  | zero => intros; rfl
  | succ n ih =>
    intro r t2 t16 t17 l28
    have e : (fun t2 t16 t17 l28 => iter (execG (inliner M_program_inRange F 0 C_ref08_Merge) C_ref08_Merge Tryz.f53.ntmps M_program_inRange F 0 (cL (cB (cS (cF (cS (bo Tryz.f53))))))) (M_program_inRange 0 0) n (r + 1) (st_program_inRange_0 t2 t16 t17 l28) K) = w_program_inRange_0 F  (fun t2 t16 t17 l28 => K .ret (st_program_inRange_0 t2 t16 t17 l28)) (fun t2 t16 t17 l28 => K (.exit 0) (st_program_inRange_0 t2 t16 t17 l28)) n := by
      funext t2 t16 t17 l28
      exact ih (r + 1) t2 t16 t17 l28
    rw [step_program_inRange_0, e]
    rfl
theorem nl_program_inRange_0 (F : Nat) (Post : AVal UU → Prop) (t2 : Bool) (t16 : Int) (t17 : Int) (l28 : List Int) : iter (execG (inliner M_program_inRange F 0 C_ref08_Merge) C_ref08_Merge Tryz.f53.ntmps M_program_inRange F 0 (cL (cB (cS (cF (cS (bo Tryz.f53))))))) (M_program_inRange 0 0) F 0 (st_program_inRange_0 t2 t16 t17 l28) (k_program_inRange_0 F Post) = n_program_inRange_0 F (fun r0 => Post (.bool r0)) t2 t16 t17 l28 := by
  rw [loop_program_inRange_0]
  have h0 : (fun t2 t16 t17 l28 => k_program_inRange_0 F Post .ret (st_program_inRange_0 t2 t16 t17 l28)) = (fun t2 t16 t17 l28 => g_program_inRange_c0_0 (fun r0 => Post (.bool r0)) t2 t16 t17 l28) := by
    funext t2 t16 t17 l28
    rw [cont_program_inRange_0_0]
  have h1 : (fun t2 t16 t17 l28 => k_program_inRange_0 F Post (.exit 0) (st_program_inRange_0 t2 t16 t17 l28)) = (fun t2 t16 t17 l28 => g_program_inRange_c0_1 (fun r0 => Post (.bool r0)) t2 t16 t17 l28) := by
    funext t2 t16 t17 l28
    rw [cont_program_inRange_0_1]
  rw [h0, h1]
  rfl
theorem exec_program_inRange (F : Nat) (Post : AVal UU → Prop) (a0_Kind : Int) (a0_X : Int) (a0_Y : Int) (a0_W : Int) (a0_H : Int) (a0_N : Int) : exec C_ref08_Merge Tryz.f53.ntmps M_program_inRange F 0 (bo Tryz.f53) (initSt [.agg [.int .i64 a0_Kind, .int .i64 a0_X, .int .i64 a0_Y, .int .i64 a0_W, .int .i64 a0_H, .int .i64 a0_N]]) (AEnds C_ref08_Merge false Tryz.f53 Post) = w_program_inRange F a0_Kind a0_X a0_Y a0_W a0_H a0_N (fun r0 => Post (.bool r0)) := by
  rw [entry_program_inRange]
  have e0 : (fun t2 t16 t17 l28 => iter (execG (inliner M_program_inRange F 0 C_ref08_Merge) C_ref08_Merge Tryz.f53.ntmps M_program_inRange F 0 (cL (cB (cS (cF (cS (bo Tryz.f53))))))) (M_program_inRange 0 0) F 0 (st_program_inRange_0 t2 t16 t17 l28) (k_program_inRange_0 F Post)) = (n_program_inRange_0 F (fun r0 => Post (.bool r0))) := by
    funext t2 t16 t17 l28
    exact nl_program_inRange_0 F Post t2 t16 t17 l28
  rw [e0]
  rfl
def m_program_inRange : Model UU
  | [.agg [.int .i64 a0_Kind, .int .i64 a0_X, .int .i64 a0_Y, .int .i64 a0_W, .int .i64 a0_H, .int .i64 a0_N]] => some ([], .bool (sp_program_inRange a0_Kind a0_X a0_Y a0_W a0_H a0_N))
  | _ => none
def C_program_inRange : Cfg UU := C_ref08_Merge.add 53 m_program_inRange
theorem s_program_inRange : SumOK C_program_inRange := by
  refine s_ref08_Merge.addD mixed (fn := Tryz.f53) (c := bo Tryz.f53) Tryz.func53 (by kernel_rfl) (by kernel_rfl) ?_
  intro xs cs r h hc
  unfold m_program_inRange at h
  split at h
  · rename_i a0_Kind a0_X a0_Y a0_W a0_H a0_N
    cases h
    obtain ⟨F, hF⟩ := ok_program_inRange a0_Kind a0_X a0_Y a0_W a0_H a0_N
    refine ⟨by kernel_rfl, M_program_inRange, F, false, ⟨?_⟩⟩
    rw [exec_program_inRange]
    refine hF _ ?_
    rfl
  · cases h
end
end Go.Proofs.YteffpgliiilnjaaGreatDoor

namespace Go.Proofs.YteffpgliiilnjaaGreatDoor
open Go.Vm Go.RowKit
set_option linter.unusedVariables false
noncomputable section
set_option maxRecDepth 100000 in
theorem entry_do1 (F : Nat) (Post : AVal UU → Prop) (a_0 : Int) (a_1 : Int) (a_2 : Int) (a_3 : Int) (c_0 : Int) (c_1 : Int) (c_2 : Int) (c_3 : Int) : exec C_program_inRange Tryz.f84.ntmps M_do1 F 0 (bo Tryz.f84) (initSt [.agg [.int .i64 a_0, .int .i64 a_1, .int .i64 a_2, .int .i64 a_3], .ref [.int .i64 c_0, .int .i64 c_1, .int .i64 c_2, .int .i64 c_3] 0]) (AEnds C_program_inRange false Tryz.f84 Post) = g_do1_e a_0 a_1 a_2 a_3 c_0 c_1 c_2 c_3 (fun r0 => Post (.bool r0)) := by kernel_rfl
theorem exec_do1 (F : Nat) (Post : AVal UU → Prop) (a_0 : Int) (a_1 : Int) (a_2 : Int) (a_3 : Int) (c_0 : Int) (c_1 : Int) (c_2 : Int) (c_3 : Int) : exec C_program_inRange Tryz.f84.ntmps M_do1 F 0 (bo Tryz.f84) (initSt [.agg [.int .i64 a_0, .int .i64 a_1, .int .i64 a_2, .int .i64 a_3], .ref [.int .i64 c_0, .int .i64 c_1, .int .i64 c_2, .int .i64 c_3] 0]) (AEnds C_program_inRange false Tryz.f84 Post) = w_do1 F a_0 a_1 a_2 a_3 c_0 c_1 c_2 c_3 (fun r0 => Post (.bool r0)) := by
  rw [entry_do1]
  rfl
def m_do1 : Model UU
  | [.agg [.int .i64 a_0, .int .i64 a_1, .int .i64 a_2, .int .i64 a_3], .ref [.int .i64 c_0, .int .i64 c_1, .int .i64 c_2, .int .i64 c_3] 0] => some ([], .bool (sp_do1 a_0 a_1 a_2 a_3 c_0 c_1 c_2 c_3))
  | _ => none
def C_do1 : Cfg UU := C_program_inRange.add 84 m_do1
theorem s_do1 : SumOK C_do1 := by
  refine s_program_inRange.addD mixed (fn := Tryz.f84) (c := bo Tryz.f84) Tryz.func84 (by kernel_rfl) (by kernel_rfl) ?_
  intro xs cs r h hc
  unfold m_do1 at h
  split at h
  · rename_i a_0 a_1 a_2 a_3 c_0 c_1 c_2 c_3
    cases h
    obtain ⟨F, hF⟩ := ok_do1 a_0 a_1 a_2 a_3 c_0 c_1 c_2 c_3
    refine ⟨by kernel_rfl, M_do1, F, false, ⟨?_⟩⟩
    rw [exec_do1]
    refine hF _ ?_
    rfl
  · cases h
def k_ixf1_0 (F : Nat) (Post : AVal UU → Prop) : AEx → ASt UU → Prop := kBlock 0 (kSeq (inliner M_ixf1 F 0 C_do1) C_do1 Tryz.f44.ntmps M_ixf1 F 0 (cS (cS (bo Tryz.f44))) (AEnds C_do1 false Tryz.f44 Post))
set_option maxRecDepth 100000 in
theorem step_ixf1_0 (F n r : Nat) (K : AEx → ASt UU → Prop) (t0 : List Rect) (t1_0_0 : Int) (t1_0_1 : Int) (t1_0_2 : Int) (t1_0_3 : Int) (t4 : Int) (t7 : Int) (t8 : Int) : iter (execG (inliner M_ixf1 F 0 C_do1) C_do1 Tryz.f44.ntmps M_ixf1 F 0 (cL (cB (cS (cF (cS (bo Tryz.f44))))))) (M_ixf1 0 0) (n + 1) r (st_ixf1_0 t0 t1_0_0 t1_0_1 t1_0_2 t1_0_3 t4 t7 t8) K = g_ixf1_s0 (fun t0 t1_0_0 t1_0_1 t1_0_2 t1_0_3 t4 t7 t8 => iter (execG (inliner M_ixf1 F 0 C_do1) C_do1 Tryz.f44.ntmps M_ixf1 F 0 (cL (cB (cS (cF (cS (bo Tryz.f44))))))) (M_ixf1 0 0) n (r + 1) (st_ixf1_0 t0 t1_0_0 t1_0_1 t1_0_2 t1_0_3 t4 t7 t8) K) (fun t0 t1_0_0 t1_0_1 t1_0_2 t1_0_3 t4 t7 t8 => K .ret (st_ixf1_0 t0 t1_0_0 t1_0_1 t1_0_2 t1_0_3 t4 t7 t8)) (fun t0 t1_0_0 t1_0_1 t1_0_2 t1_0_3 t4 t7 t8 => K (.exit 0) (st_ixf1_0 t0 t1_0_0 t1_0_1 t1_0_2 t1_0_3 t4 t7 t8)) t0 t1_0_0 t1_0_1 t1_0_2 t1_0_3 t4 t7 t8 := by kernel_rfl
set_option maxRecDepth 100000 in
theorem cont_ixf1_0_0 (F : Nat) (Post : AVal UU → Prop) (t0 : List Rect) (t1_0_0 : Int) (t1_0_1 : Int) (t1_0_2 : Int) (t1_0_3 : Int) (t4 : Int) (t7 : Int) (t8 : Int) : k_ixf1_0 F Post .ret (st_ixf1_0 t0 t1_0_0 t1_0_1 t1_0_2 t1_0_3 t4 t7 t8) = g_ixf1_c0_0 (fun r0 => Post (.int .i64 r0)) t0 t1_0_0 t1_0_1 t1_0_2 t1_0_3 t4 t7 t8 := by kernel_rfl
set_option maxRecDepth 100000 in
theorem cont_ixf1_0_1 (F : Nat) (Post : AVal UU → Prop) (t0 : List Rect) (t1_0_0 : Int) (t1_0_1 : Int) (t1_0_2 : Int) (t1_0_3 : Int) (t4 : Int) (t7 : Int) (t8 : Int) : k_ixf1_0 F Post (.exit 0) (st_ixf1_0 t0 t1_0_0 t1_0_1 t1_0_2 t1_0_3 t4 t7 t8) = g_ixf1_c0_1 (fun r0 => Post (.int .i64 r0)) t0 t1_0_0 t1_0_1 t1_0_2 t1_0_3 t4 t7 t8 := by kernel_rfl
set_option maxRecDepth 100000 in
theorem entry_ixf1 (F : Nat) (Post : AVal UU → Prop) (l : List Rect) (c_0 : Int) (c_1 : Int) (c_2 : Int) (c_3 : Int) : exec C_do1 Tryz.f44.ntmps M_ixf1 F 0 (bo Tryz.f44) (initSt [.sl .rect l, .fn 84 [.ref [.int .i64 c_0, .int .i64 c_1, .int .i64 c_2, .int .i64 c_3] 0]]) (AEnds C_do1 false Tryz.f44 Post) = g_ixf1_e l c_0 c_1 c_2 c_3 (fun r0 => Post (.int .i64 r0)) (fun t0 t1_0_0 t1_0_1 t1_0_2 t1_0_3 t4 t7 t8 => iter (execG (inliner M_ixf1 F 0 C_do1) C_do1 Tryz.f44.ntmps M_ixf1 F 0 (cL (cB (cS (cF (cS (bo Tryz.f44))))))) (M_ixf1 0 0) F 0 (st_ixf1_0 t0 t1_0_0 t1_0_1 t1_0_2 t1_0_3 t4 t7 t8) (k_ixf1_0 F Post)) := by kernel_rfl
theorem loop_ixf1_0 (F : Nat) (K : AEx → ASt UU → Prop) : ∀ (n r : Nat) (t0 : List Rect) (t1_0_0 : Int) (t1_0_1 : Int) (t1_0_2 : Int) (t1_0_3 : Int) (t4 : Int) (t7 : Int) (t8 : Int), iter (execG (inliner M_ixf1 F 0 C_do1) C_do1 Tryz.f44.ntmps M_ixf1 F 0 (cL (cB (cS (cF (cS (bo Tryz.f44))))))) (M_ixf1 0 0) n r (st_ixf1_0 t0 t1_0_0 t1_0_1 t1_0_2 t1_0_3 t4 t7 t8) K = w_ixf1_0 F  (fun t0 t1_0_0 t1_0_1 t1_0_2 t1_0_3 t4 t7 t8 => K .ret (st_ixf1_0 t0 t1_0_0 t1_0_1 t1_0_2 t1_0_3 t4 t7 t8)) (fun t0 t1_0_0 t1_0_1 t1_0_2 t1_0_3 t4 t7 t8 => K (.exit 0) (st_ixf1_0 t0 t1_0_0 t1_0_1 t1_0_2 t1_0_3 t4 t7 t8)) n t0 t1_0_0 t1_0_1 t1_0_2 t1_0_3 t4 t7 t8 := by
  intro n
  induction n with
  | zero => intros; rfl
  | succ n ih =>
    intro r t0 t1_0_0 t1_0_1 t1_0_2 t1_0_3 t4 t7 t8
    have e : (fun t0 t1_0_0 t1_0_1 t1_0_2 t1_0_3 t4 t7 t8 => iter (execG (inliner M_ixf1 F 0 C_do1) C_do1 Tryz.f44.ntmps M_ixf1 F 0 (cL (cB (cS (cF (cS (bo Tryz.f44))))))) (M_ixf1 0 0) n (r + 1) (st_ixf1_0 t0 t1_0_0 t1_0_1 t1_0_2 t1_0_3 t4 t7 t8) K) = w_ixf1_0 F  (fun t0 t1_0_0 t1_0_1 t1_0_2 t1_0_3 t4 t7 t8 => K .ret (st_ixf1_0 t0 t1_0_0 t1_0_1 t1_0_2 t1_0_3 t4 t7 t8)) (fun t0 t1_0_0 t1_0_1 t1_0_2 t1_0_3 t4 t7 t8 => K (.exit 0) (st_ixf1_0 t0 t1_0_0 t1_0_1 t1_0_2 t1_0_3 t4 t7 t8)) n := by
      funext t0 t1_0_0 t1_0_1 t1_0_2 t1_0_3 t4 t7 t8
      exact ih (r + 1) t0 t1_0_0 t1_0_1 t1_0_2 t1_0_3 t4 t7 t8
    rw [step_ixf1_0, e]
    rfl
theorem nl_ixf1_0 (F : Nat) (Post : AVal UU → Prop) (t0 : List Rect) (t1_0_0 : Int) (t1_0_1 : Int) (t1_0_2 : Int) (t1_0_3 : Int) (t4 : Int) (t7 : Int) (t8 : Int) : iter (execG (inliner M_ixf1 F 0 C_do1) C_do1 Tryz.f44.ntmps M_ixf1 F 0 (cL (cB (cS (cF (cS (bo Tryz.f44))))))) (M_ixf1 0 0) F 0 (st_ixf1_0 t0 t1_0_0 t1_0_1 t1_0_2 t1_0_3 t4 t7 t8) (k_ixf1_0 F Post) = n_ixf1_0 F (fun r0 => Post (.int .i64 r0)) t0 t1_0_0 t1_0_1 t1_0_2 t1_0_3 t4 t7 t8 := by
  rw [loop_ixf1_0]
  have h0 : (fun t0 t1_0_0 t1_0_1 t1_0_2 t1_0_3 t4 t7 t8 => k_ixf1_0 F Post .ret (st_ixf1_0 t0 t1_0_0 t1_0_1 t1_0_2 t1_0_3 t4 t7 t8)) = (fun t0 t1_0_0 t1_0_1 t1_0_2 t1_0_3 t4 t7 t8 => g_ixf1_c0_0 (fun r0 => Post (.int .i64 r0)) t0 t1_0_0 t1_0_1 t1_0_2 t1_0_3 t4 t7 t8) := by
    funext t0 t1_0_0 t1_0_1 t1_0_2 t1_0_3 t4 t7 t8
    rw [cont_ixf1_0_0]
  have h1 : (fun t0 t1_0_0 t1_0_1 t1_0_2 t1_0_3 t4 t7 t8 => k_ixf1_0 F Post (.exit 0) (st_ixf1_0 t0 t1_0_0 t1_0_1 t1_0_2 t1_0_3 t4 t7 t8)) = (fun t0 t1_0_0 t1_0_1 t1_0_2 t1_0_3 t4 t7 t8 => g_ixf1_c0_1 (fun r0 => Post (.int .i64 r0)) t0 t1_0_0 t1_0_1 t1_0_2 t1_0_3 t4 t7 t8) := by
    funext t0 t1_0_0 t1_0_1 t1_0_2 t1_0_3 t4 t7 t8
    rw [cont_ixf1_0_1]
  rw [h0, h1]
  rfl
theorem exec_ixf1 (F : Nat) (Post : AVal UU → Prop) (l : List Rect) (c_0 : Int) (c_1 : Int) (c_2 : Int) (c_3 : Int) : exec C_do1 Tryz.f44.ntmps M_ixf1 F 0 (bo Tryz.f44) (initSt [.sl .rect l, .fn 84 [.ref [.int .i64 c_0, .int .i64 c_1, .int .i64 c_2, .int .i64 c_3] 0]]) (AEnds C_do1 false Tryz.f44 Post) = w_ixf1 F l c_0 c_1 c_2 c_3 (fun r0 => Post (.int .i64 r0)) := by
  rw [entry_ixf1]
  have e0 : (fun t0 t1_0_0 t1_0_1 t1_0_2 t1_0_3 t4 t7 t8 => iter (execG (inliner M_ixf1 F 0 C_do1) C_do1 Tryz.f44.ntmps M_ixf1 F 0 (cL (cB (cS (cF (cS (bo Tryz.f44))))))) (M_ixf1 0 0) F 0 (st_ixf1_0 t0 t1_0_0 t1_0_1 t1_0_2 t1_0_3 t4 t7 t8) (k_ixf1_0 F Post)) = (n_ixf1_0 F (fun r0 => Post (.int .i64 r0))) := by
    funext t0 t1_0_0 t1_0_1 t1_0_2 t1_0_3 t4 t7 t8
    exact nl_ixf1_0 F Post t0 t1_0_0 t1_0_1 t1_0_2 t1_0_3 t4 t7 t8
  rw [e0]
  rfl
def m_ixf1 : Model UU
  | [.sl .rect l, .fn 84 [.ref [.int .i64 c_0, .int .i64 c_1, .int .i64 c_2, .int .i64 c_3] 0]] => some ([pre_ixf1 l c_0 c_1 c_2 c_3], .int .i64 (sp_ixf1 l c_0 c_1 c_2 c_3))
  | _ => none
def C_ixf1 : Cfg UU := C_do1.add 44 m_ixf1
theorem s_ixf1 : SumOK C_ixf1 := by
  refine s_do1.addD mixed (fn := Tryz.f44) (c := bo Tryz.f44) Tryz.func44 (by kernel_rfl) (by kernel_rfl) ?_
  intro xs cs r h hc
  unfold m_ixf1 at h
  split at h
  · rename_i l c_0 c_1 c_2 c_3
    cases h
    obtain ⟨F, hF⟩ := ok_ixf1 l c_0 c_1 c_2 c_3 hc
    refine ⟨by kernel_rfl, M_ixf1, F, false, ⟨?_⟩⟩
    rw [exec_ixf1]
    refine hF _ ?_
    rfl
  · cases h
end
end Go.Proofs.YteffpgliiilnjaaGreatDoor

namespace Go.Proofs.YteffpgliiilnjaaGreatDoor
open Go.Vm Go.RowKit
set_option linter.unusedVariables false
noncomputable section
set_option maxRecDepth 100000 in
theorem entry_cof1 (F : Nat) (Post : AVal UU → Prop) (l : List Rect) (c_0 : Int) (c_1 : Int) (c_2 : Int) (c_3 : Int) : exec C_ixf1 Tryz.f83.ntmps M_cof1 F 0 (bo Tryz.f83) (initSt [.sl .rect l, .fn 84 [.ref [.int .i64 c_0, .int .i64 c_1, .int .i64 c_2, .int .i64 c_3] 0]]) (AEnds C_ixf1 false Tryz.f83 Post) = g_cof1_e l c_0 c_1 c_2 c_3 (fun r0 => Post (.bool r0)) := by kernel_rfl
theorem exec_cof1 (F : Nat) (Post : AVal UU → Prop) (l : List Rect) (c_0 : Int) (c_1 : Int) (c_2 : Int) (c_3 : Int) : exec C_ixf1 Tryz.f83.ntmps M_cof1 F 0 (bo Tryz.f83) (initSt [.sl .rect l, .fn 84 [.ref [.int .i64 c_0, .int .i64 c_1, .int .i64 c_2, .int .i64 c_3] 0]]) (AEnds C_ixf1 false Tryz.f83 Post) = w_cof1 F l c_0 c_1 c_2 c_3 (fun r0 => Post (.bool r0)) := by
  rw [entry_cof1]
  rfl
def m_cof1 : Model UU
  | [.sl .rect l, .fn 84 [.ref [.int .i64 c_0, .int .i64 c_1, .int .i64 c_2, .int .i64 c_3] 0]] => some ([pre_cof1 l c_0 c_1 c_2 c_3], .bool (sp_cof1 l c_0 c_1 c_2 c_3))
  | _ => none
def C_cof1 : Cfg UU := C_ixf1.add 83 m_cof1
theorem s_cof1 : SumOK C_cof1 := by
  refine s_ixf1.addD mixed (fn := Tryz.f83) (c := bo Tryz.f83) Tryz.func83 (by kernel_rfl) (by kernel_rfl) ?_
  intro xs cs r h hc
  unfold m_cof1 at h
  split at h
  · rename_i l c_0 c_1 c_2 c_3
    cases h
    obtain ⟨F, hF⟩ := ok_cof1 l c_0 c_1 c_2 c_3 hc
    refine ⟨by kernel_rfl, M_cof1, F, false, ⟨?_⟩⟩
    rw [exec_cof1]
    refine hF _ ?_
    rfl
  · cases h
end
end Go.Proofs.YteffpgliiilnjaaGreatDoor

namespace Go.Proofs.YteffpgliiilnjaaGreatDoor
open Go.Vm Go.RowKit Go.Lib
set_option linter.unusedVariables false
noncomputable section

/-- A new slice with elements that the arguments had. -/
theorem fresh_new {w0 w : World} {N : Nat → Prop} {τ : Knd} {xs : List (UU.T τ)} {v : Value} {cs : List Value} (hb : Below w0.heap.size w0 w)
    (ho : w.ownsRow w0.heap.size (UU.ety τ) (UU.size τ) v xs.length cs) (hp : ∀ a, v ≠ .pointer a)
    (hr : ∀ i (h : i < xs.length) k (hk : k < (EE.enc τ xs[i]).length), Rel EE w0 noOwn (Out' N w0) (EE.enc τ xs[i])[k] (cs.getD (i * UU.size τ + k) undef)) : Fresh EE w0.heap.size N w (.new τ xs) v := by
  have hblk : ∀ b, blk v = some b → w0.heap.size ≤ b ∧ b < w.heap.size := (ownsRow_oneCell ho hp).2
  refine ⟨fun k => if k = .ob 0 then some (0, v) else none, .osl 0 0 _ (by simp) hp, fun k x hk => ?_, fun k g u hk => ?_, fun i j g g' u u' b hi hj hne => ?_⟩
  · cases k with
    | zero =>
      have : (⟨false, τ, xs⟩ : NewRow UU) = x := by simpa [AVal.news, news2, news1] using hk
      subst this
      refine ⟨_, _, by simp, hp, ho, fun i hi k hk' => ?_⟩
      refine ((hr i hi k hk').flat (ρ' := fun k => if k = .ob 0 then some (0, v) else none) (EE.enc_flat _ _ _ (List.getElem_mem hk')).1).mono (fun b hb' => ⟨⟨?_, hb'.2, fun nm g u hnm => ?_⟩, hb.block b hb'.1⟩) (fun nm g u h => .inl h)
      · have := hb.size
        have := hb'.1
        omega
      · by_cases hnm0 : nm = .ob 0
        · subst hnm0
          simp only [if_true, Option.some.injEq, Prod.mk.injEq] at hnm
          obtain ⟨_, rfl⟩ := hnm
          intro e
          have := (hblk b e).1
          have := hb'.1
          omega
        · simp [hnm0] at hnm
    | succ k => simp [AVal.news, news2, news1] at hk
  · by_cases hk0 : k = .ob 0
    · subst hk0
      exact ⟨⟨false, τ, xs⟩, by simp [AVal.news, news2, news1, Name.id], fun _ => ⟨0, rfl⟩⟩
    · simp [hk0] at hk
  · by_cases hi0 : i = .ob 0
    · by_cases hj0 : j = .ob 0
      · exact absurd (hi0.trans hj0.symm) hne
      · simp [hj0] at hj
    · simp [hi0] at hi
theorem map_range_getD (f : Nat → Value) (n i : Nat) (h : i < n) : ((List.range n).map f).getD i undef = f i := by simp [List.getD_eq_getElem?_getD, h]

set_option maxHeartbeats 2000000 in
set_option maxRecDepth 100000 in
theorem clone87_some (b off n c : Nat) (f : Nat → Value) (w : World) (hbig : n * 32 ≤ 140737488355328) (hc : ∀ j, j < n * 4 → w.cell? ⟨b, off + j, none⟩ = some (f j)) (h1 : ∀ j, j < n * 4 → (f j).oneCell' = true) :
    Calls Tryz.prog 87 #[.slice (some ⟨b, off, none⟩) n c] w fun e w' => ∃ v', e = .returned v' ∧ w'.ownsRow w.heap.size 43 4 v' n ((List.range (n * 4)).map f) ∧ (∀ a, v' ≠ .pointer a) ∧ Below w.heap.size w w' := by
  have q26 : ∀ (w : World) (a : Option Addr) (n c n' c' : Nat), (binOp .eql 26 (.slice a n c) (.slice none n' c')).run Tryz.prog w = .ok (.bool a.isNone) w := fun w a n c n' c' => Lib.run_eql_slice_nil w _ _ a n c n' c' Tryz.underlying26
  obtain ⟨i0, hi, hz0, hz1, hz2⟩ := info_parts (P := Tryz.prog) (e := 43) (z := .agg #[.int .i64 0, .int .i64 0, .int .i64 0, .int .i64 0]) (size := 4) (bytes := 32) (by kernel_rfl)
  have A : Aside ((∀ j, j < n * 4 → w.cell? ⟨b, off + j, none⟩ = some (f j)) ∧ ∀ j, j < n * 4 → (f j).oneCell' = true) := ⟨hc, h1⟩
  clear hc h1
  go_enter Tryz.func87, Tryz.ntmps87
  go_wp2_with (at_builtin; refine wpList_append_own _ rfl _ _ 26 rfl w.heap.size 43 i0 (.agg #[.int .i64 0, .int .i64 0, .int .i64 0, .int .i64 0]) 4 32 Tryz.underlying26 hi hz0 hz1 hz2 rfl (by decide) _ _ _ rfl (World.ownsRow_made w #[] 0 (Nat.le_refl _) (Nat.zero_le _) rfl) ⟨b, off, none⟩ n c ((List.range (n * 4)).map f) rfl ?qc1 ?qc2 ?qc3 ?qc4 ?qc5 ?qc6 ?_)
  case qc1 => simp
  case qc2 =>
    intro j u hj
    have hjn : j < n * 4 := by
      have := (List.getElem?_eq_some_iff.1 hj).1
      simpa using this
    rw [Addr.add_lit]
    refine Lib.cell?_alloc_some _ ?_
    rw [A.out.1 j hjn]
    simpa [hjn] using hj
  case qc3 =>
    intro u hu
    obtain ⟨x, hx, rfl⟩ := List.mem_map.1 hu
    exact A.out.2 x (List.mem_range.1 hx)
  case qc4 => unfold maxLen; omega
  case qc5 => omega
  case qc6 => simp
  intro v' w1 hown hgrow hnil
  go_wp2
  go_ret
  refine ⟨v', rfl, by simpa using hown, ?_, ?_⟩
  · intro a e
    subst e
    rcases hown.2 with ⟨h, _⟩ | ⟨_, _, _, h, _⟩ <;> cases h
  · exact ((Below.refl _ w).alloc (Nat.le_refl _) _).grown hgrow (by simp) (by intro k hk; simp [Value.ownBlock] at hk; omega)
set_option maxHeartbeats 1000000 in
theorem clone87_nil (w : World) :
    Calls Tryz.prog 87 #[.slice none 0 0] w fun e w' => e = .returned (.slice none 0 0) ∧ w' = w := by
  have q26 : ∀ (w : World) (a : Option Addr) (n c n' c' : Nat), (binOp .eql 26 (.slice a n c) (.slice none n' c')).run Tryz.prog w = .ok (.bool a.isNone) w := fun w a n c n' c' => Lib.run_eql_slice_nil w _ _ a n c n' c' Tryz.underlying26
  go_enter Tryz.func87, Tryz.ntmps87
  go_wp2
  go_ret
  exact ⟨rfl, rfl⟩
def mClone87 : Model UU
  | [.sl .seg xs] => some ([xs.length ≤ 100000], .new .seg xs)
  | _ => none
theorem sClone87 {C : Cfg UU} (hE : C.E = EE) (hs : SumOK C) (hP : C.P = Tryz.prog) : SumOK (C.add 87 mClone87) := by
  refine hs.put ⟨fun args w => by rw [hP]; exact callFunc_run (fn := Tryz.f87) Tryz.func87 (by kernel_rfl) rfl args w, ?_⟩
  intro N w args xs cs r hinv hN hargs hm hc
  unfold mClone87 at hm
  split at hm
  · rename_i l
    cases hm
    have hc' : l.length ≤ 100000 := hc
    obtain ⟨a, rfl, ha⟩ := args1 hargs
    rw [hP]
    rw [hE] at ha ⊢
    cases ha with
    | sl0 =>
      refine (clone87_nil w).mono ?_
      rintro e w' ⟨rfl, rfl⟩
      refine ⟨_, rfl, fresh_new (cs := []) (Below.refl _ _) (World.ownsRow_nil _ _ _ _) (by intro a e; cases e) (fun i h => absurd h (by simp)), Below.refl _ _⟩
    | sl _ _ b o cap f hb hcap hc hl =>
      have hidx : ∀ j, j < l.length * 4 → ∃ i k, ∃ (hi : i < l.length) (hk : k < (EE.enc .seg l[i]).length), j = i * UU.size .seg + k := fun j hj => by
        have hi : j / 4 < l.length := by omega
        refine ⟨j / 4, j % 4, hi, by rw [EE.enc_len]; exact Nat.mod_lt _ (by decide), ?_⟩
        show j = j / 4 * 4 + j % 4
        omega
      refine (clone87_some b o l.length cap f w (by omega) hc (fun j hj => ?_)).mono ?_
      · obtain ⟨i, k, hi, hk, rfl⟩ := hidx j hj
        have hfl := EE.enc_flat _ _ _ (List.getElem_mem hk)
        exact (hl i hi k hk).oneCell hfl.2 (fun nm g u h => by cases h) (fun id g h => by rw [h] at hfl; cases hfl.1) (fun id g i off sz h => by rw [h] at hfl; cases hfl.1) (fun id i g h => by rw [h] at hfl; cases hfl.1) (fun id i g j off sz h => by rw [h] at hfl; cases hfl.1)
      · rintro e w' ⟨v', rfl, h1, h2, h3⟩
        refine ⟨_, rfl, fresh_new h3 h1 h2 (fun i hi k hk => ?_), h3⟩
        have hk' : k < 4 := by
          have := hk
          rw [EE.enc_len] at this
          exact this
        rw [show i * UU.size .seg + k = i * 4 + k from rfl, map_range_getD _ _ _ (by
          have : i * 4 + 4 ≤ l.length * 4 := by
            have := Nat.mul_le_mul_right 4 (show i + 1 ≤ l.length from hi)
            omega
          omega)]
        exact hl i hi k hk
  · cases hm

set_option maxHeartbeats 2000000 in
set_option maxRecDepth 100000 in
theorem clone33_some (b off n c : Nat) (f : Nat → Value) (w : World) (hbig : n * 32 ≤ 140737488355328) (hc : ∀ j, j < n * 4 → w.cell? ⟨b, off + j, none⟩ = some (f j)) (h1 : ∀ j, j < n * 4 → (f j).oneCell' = true) :
    Calls Tryz.prog 33 #[.slice (some ⟨b, off, none⟩) n c] w fun e w' => ∃ v', e = .returned v' ∧ w'.ownsRow w.heap.size 65 4 v' n ((List.range (n * 4)).map f) ∧ (∀ a, v' ≠ .pointer a) ∧ Below w.heap.size w w' := by
  have q26 : ∀ (w : World) (a : Option Addr) (n c n' c' : Nat), (binOp .eql 22 (.slice a n c) (.slice none n' c')).run Tryz.prog w = .ok (.bool a.isNone) w := fun w a n c n' c' => Lib.run_eql_slice_nil w _ _ a n c n' c' Tryz.underlying22
  obtain ⟨i0, hi, hz0, hz1, hz2⟩ := info_parts (P := Tryz.prog) (e := 65) (z := .agg #[.int .i64 0, .int .i64 0, .int .i64 0, .int .i64 0]) (size := 4) (bytes := 32) (by kernel_rfl)
  have A : Aside ((∀ j, j < n * 4 → w.cell? ⟨b, off + j, none⟩ = some (f j)) ∧ ∀ j, j < n * 4 → (f j).oneCell' = true) := ⟨hc, h1⟩
  clear hc h1
  go_enter Tryz.func33, Tryz.ntmps33
  go_wp2_with (at_builtin; refine wpList_append_own _ rfl _ _ 22 rfl w.heap.size 65 i0 (.agg #[.int .i64 0, .int .i64 0, .int .i64 0, .int .i64 0]) 4 32 Tryz.underlying22 hi hz0 hz1 hz2 rfl (by decide) _ _ _ rfl (World.ownsRow_made w #[] 0 (Nat.le_refl _) (Nat.zero_le _) rfl) ⟨b, off, none⟩ n c ((List.range (n * 4)).map f) rfl ?qc1 ?qc2 ?qc3 ?qc4 ?qc5 ?qc6 ?_)
  case qc1 => simp
  case qc2 =>
    intro j u hj
    have hjn : j < n * 4 := by
      have := (List.getElem?_eq_some_iff.1 hj).1
      simpa using this
    rw [Addr.add_lit]
    refine Lib.cell?_alloc_some _ ?_
    rw [A.out.1 j hjn]
    simpa [hjn] using hj
  case qc3 =>
    intro u hu
    obtain ⟨x, hx, rfl⟩ := List.mem_map.1 hu
    exact A.out.2 x (List.mem_range.1 hx)
  case qc4 => unfold maxLen; omega
  case qc5 => omega
  case qc6 => simp
  intro v' w1 hown hgrow hnil
  go_wp2
  go_ret
  refine ⟨v', rfl, by simpa using hown, ?_, ?_⟩
  · intro a e
    subst e
    rcases hown.2 with ⟨h, _⟩ | ⟨_, _, _, h, _⟩ <;> cases h
  · exact ((Below.refl _ w).alloc (Nat.le_refl _) _).grown hgrow (by simp) (by intro k hk; simp [Value.ownBlock] at hk; omega)
set_option maxHeartbeats 1000000 in
theorem clone33_nil (w : World) :
    Calls Tryz.prog 33 #[.slice none 0 0] w fun e w' => e = .returned (.slice none 0 0) ∧ w' = w := by
  have q26 : ∀ (w : World) (a : Option Addr) (n c n' c' : Nat), (binOp .eql 22 (.slice a n c) (.slice none n' c')).run Tryz.prog w = .ok (.bool a.isNone) w := fun w a n c n' c' => Lib.run_eql_slice_nil w _ _ a n c n' c' Tryz.underlying22
  go_enter Tryz.func33, Tryz.ntmps33
  go_wp2
  go_ret
  exact ⟨rfl, rfl⟩
def mClone33 : Model UU
  | [.sl .rect xs] => some ([xs.length ≤ 100000], .new .rect xs)
  | _ => none
theorem sClone33 {C : Cfg UU} (hE : C.E = EE) (hs : SumOK C) (hP : C.P = Tryz.prog) : SumOK (C.add 33 mClone33) := by
  refine hs.put ⟨fun args w => by rw [hP]; exact callFunc_run (fn := Tryz.f33) Tryz.func33 (by kernel_rfl) rfl args w, ?_⟩
  intro N w args xs cs r hinv hN hargs hm hc
  unfold mClone33 at hm
  split at hm
  · rename_i l
    cases hm
    have hc' : l.length ≤ 100000 := hc
    obtain ⟨a, rfl, ha⟩ := args1 hargs
    rw [hP]
    rw [hE] at ha ⊢
    cases ha with
    | sl0 =>
      refine (clone33_nil w).mono ?_
      rintro e w' ⟨rfl, rfl⟩
      refine ⟨_, rfl, fresh_new (cs := []) (Below.refl _ _) (World.ownsRow_nil _ _ _ _) (by intro a e; cases e) (fun i h => absurd h (by simp)), Below.refl _ _⟩
    | sl _ _ b o cap f hb hcap hc hl =>
      have hidx : ∀ j, j < l.length * 4 → ∃ i k, ∃ (hi : i < l.length) (hk : k < (EE.enc .rect l[i]).length), j = i * UU.size .rect + k := fun j hj => by
        have hi : j / 4 < l.length := by omega
        refine ⟨j / 4, j % 4, hi, by rw [EE.enc_len]; exact Nat.mod_lt _ (by decide), ?_⟩
        show j = j / 4 * 4 + j % 4
        omega
      refine (clone33_some b o l.length cap f w (by omega) hc (fun j hj => ?_)).mono ?_
      · obtain ⟨i, k, hi, hk, rfl⟩ := hidx j hj
        have hfl := EE.enc_flat _ _ _ (List.getElem_mem hk)
        exact (hl i hi k hk).oneCell hfl.2 (fun nm g u h => by cases h) (fun id g h => by rw [h] at hfl; cases hfl.1) (fun id g i off sz h => by rw [h] at hfl; cases hfl.1) (fun id i g h => by rw [h] at hfl; cases hfl.1) (fun id i g j off sz h => by rw [h] at hfl; cases hfl.1)
      · rintro e w' ⟨v', rfl, h1, h2, h3⟩
        refine ⟨_, rfl, fresh_new h3 h1 h2 (fun i hi k hk => ?_), h3⟩
        have hk' : k < 4 := by
          have := hk
          rw [EE.enc_len] at this
          exact this
        rw [show i * UU.size .rect + k = i * 4 + k from rfl, map_range_getD _ _ _ (by
          have : i * 4 + 4 ≤ l.length * 4 := by
            have := Nat.mul_le_mul_right 4 (show i + 1 ≤ l.length from hi)
            omega
          omega)]
        exact hl i hi k hk
  · cases hm
end
end Go.Proofs.YteffpgliiilnjaaGreatDoor

namespace Go.Proofs
open Go.RowKit Go.Extern
theorem Tryz.valueOf165 (t : Addr) (w : World) : (ReflectliteValue.unpack (.iface 165 (.pointer (some t)))).run Tryz.prog w
    = .ok (.agg #[.pointer (some ⟨9, 165, none⟩), .pointer (some ⟨w.heap.size, 0, none⟩), .int .u64 150]) (w.alloc (.cells #[.pointer (some t)] 165)) := by kernel_rfl
theorem Tryz.rtype165 (a : Addr) (w : World) : (ReflectliteValue.methodAny (ReflectliteValue.valueError "reflectlite.Value.Type" 0) (fun t _ _ _ => ReflectliteType.toType t) #[.agg #[.pointer (some ⟨9, 165, none⟩), .pointer (some a), .int .u64 150]]).run Tryz.prog w
    = .ok (.iface 244 (.agg #[.pointer (some ⟨9, 165, none⟩)])) w := by kernel_rfl
theorem Tryz.methodKind (h : Value) (w : World) : (Go.method 453 244 (.agg #[h]) "Kind").run Tryz.prog w = .ok (263, h) w := by kernel_rfl
theorem Tryz.kind165 (w : World) : ((ReflectliteType.abiMethod fun t => (fun a : Nat => Value.int IntKind.u8 (a : Int)) <$> Rtype.kind t) #[.pointer (some ⟨9, 165, none⟩)]).run Tryz.prog w = .ok (.int .u8 22) w := by kernel_rfl
theorem Tryz.kind161 (w : World) : ((ReflectliteType.abiMethod fun t => (fun a : Nat => Value.int IntKind.u8 (a : Int)) <$> Rtype.kind t) #[.pointer (some ⟨9, 161, none⟩)]).run Tryz.prog w = .ok (.int .u8 25) w := by kernel_rfl
theorem rlm (z : Sem Value) (f : TypeId → Addr → Nat → Nat → Sem Value) (v : Value) :
    ReflectliteValue.method z f #[v] = (do match ← ReflectliteValue.parts v with | none => z | some (t, a, fl) => f t a fl (fl % 32)) := rfl
theorem Tryz.parts165 (a : Addr) (w : World) : (ReflectliteValue.parts (.agg #[.pointer (some ⟨9, 165, none⟩), .pointer (some a), .int .u64 150])).run Tryz.prog w = .ok (some (165, a, 150)) w := by kernel_rfl
theorem Tryz.isNil165 (a p : Addr) (W : World) (ha : W.cell? a = some (.pointer (some p))) :
    (ReflectliteValue.method (ReflectliteValue.valueError "reflectlite.Value.IsNil" 0) ReflectliteValue.isNil #[.agg #[.pointer (some ⟨9, 165, none⟩), .pointer (some a), .int .u64 150]]).run Tryz.prog W = .ok (.bool false) W := by
  rw [rlm]
  simp only [Sem.run_bind, Tryz.parts165, Result.andThen]
  simp [ReflectliteValue.isNil, loadVar, isAgg, underlying, Tryz.underlying165, ha, Result.andThen]
theorem Tryz.methodElem (h : Value) (w : World) : (Go.method 453 244 (.agg #[h]) "Elem").run Tryz.prog w = .ok (274, .agg #[h]) w := by kernel_rfl
theorem Tryz.methodImplements (h : Value) (w : World) : (Go.method 453 244 (.agg #[h]) "Implements").run Tryz.prog w = .ok (275, .agg #[h]) w := by kernel_rfl
theorem Tryz.methodAssignableTo (h : Value) (w : World) : (Go.method 453 244 (.agg #[h]) "AssignableTo").run Tryz.prog w = .ok (272, .agg #[h]) w := by kernel_rfl
theorem Tryz.elem165 (w : World) : (ReflectliteType.method ReflectliteType.elem #[.agg #[.pointer (some ⟨9, 165, none⟩)]]).run Tryz.prog w = .ok (.iface 244 (.agg #[.pointer (some ⟨9, 161, none⟩)])) w := by kernel_rfl
theorem Tryz.implements161 (w : World) : (ReflectliteType.relation "Implements" ReflectliteType.implements_ #[.agg #[.pointer (some ⟨9, 161, none⟩)], .iface 244 (.agg #[.pointer (some ⟨9, 73, none⟩)])]).run Tryz.prog w = .ok (.bool true) w := by kernel_rfl
theorem Tryz.typeOf161 (v : Value) (w : World) : (ReflectliteType.typeOf #[.iface 161 v]).run Tryz.prog w = .ok (.iface 244 (.agg #[.pointer (some ⟨9, 161, none⟩)])) w := by kernel_rfl
theorem Tryz.assignable161 (w : World) : (ReflectliteType.relation "AssignableTo" ReflectliteType.assignableTo #[.agg #[.pointer (some ⟨9, 161, none⟩)], .iface 244 (.agg #[.pointer (some ⟨9, 161, none⟩)])]).run Tryz.prog w = .ok (.bool true) w := by kernel_rfl
theorem Tryz.valueOf161 (n : Int) (w : World) : (ReflectliteValue.unpack (.iface 161 (.agg #[.int .i64 n]))).run Tryz.prog w
    = .ok (.agg #[.pointer (some ⟨9, 161, none⟩), .pointer (some ⟨w.heap.size, 0, none⟩), .int .u64 153]) (w.alloc (.cells #[.int .i64 n] 161)) := by kernel_rfl
theorem Tryz.elemOf165 (w : World) : (Rtype.elem? 165).run Tryz.prog w = .ok (some 161) w := by kernel_rfl
theorem Tryz.mk161 (p : Addr) (w : World) : (ReflectliteValue.mk 161 p ReflectliteValue.flagAddr).run Tryz.prog w = .ok (.agg #[.pointer (some ⟨9, 161, none⟩), .pointer (some p), .int .u64 409]) w := by kernel_rfl
theorem Tryz.elemV165 (a p : Addr) (W : World) (ha : W.cell? a = some (.pointer (some p))) :
    (ReflectliteValue.method (ReflectliteValue.valueError "reflectlite.Value.Elem" 0) ReflectliteValue.elem #[.agg #[.pointer (some ⟨9, 165, none⟩), .pointer (some a), .int .u64 150]]).run Tryz.prog W
      = .ok (.agg #[.pointer (some ⟨9, 161, none⟩), .pointer (some p), .int .u64 409]) W := by
  rw [rlm]
  simp only [Sem.run_bind, Tryz.parts165, Result.andThen]
  simp [ReflectliteValue.elem, loadVar, isAgg, underlying, Tryz.underlying165, ha, Result.andThen, Tryz.elemOf165, Tryz.mk161]
theorem rls (v x : Value) : ReflectliteValue.set #[v, x] = (do
    let (some (dst, a, fl), some (src, b, _)) := (← ReflectliteValue.parts v, ← ReflectliteValue.parts x)
      | unsupported (.noEntry "extern/(internal/reflectlite.Value).Set.zeroValue")
    if fl / ReflectliteValue.flagAddr % 2 == 0 then unsupported (.noEntry "extern/(internal/reflectlite.Value).Set.unaddressable")
    let val ← loadVar src b
    if ← Rtype.directlyAssignable dst src then storeVar dst a val
    else if ← Rtype.implements dst src then
      if (← Rtype.kind src) == 20 then
        match val with
        | .nilIface => unsupported (.noEntry "extern/reflectlite: a nil value of one interface type handed on as a value of another")
        | _ => storeVar dst a val
      else storeVar dst a (.iface src val)
    else panicString ("reflectlite.Set: value of type " ++ (← Rtype.spelt src) ++ " is not assignable to type " ++ (← Rtype.spelt dst))
    pure (.tuple #[])) := rfl
theorem Tryz.parts161a (a : Addr) (w : World) : (ReflectliteValue.parts (.agg #[.pointer (some ⟨9, 161, none⟩), .pointer (some a), .int .u64 409])).run Tryz.prog w = .ok (some (161, a, 409)) w := by kernel_rfl
theorem Tryz.parts161 (a : Addr) (w : World) : (ReflectliteValue.parts (.agg #[.pointer (some ⟨9, 161, none⟩), .pointer (some a), .int .u64 153])).run Tryz.prog w = .ok (some (161, a, 153)) w := by kernel_rfl
theorem Tryz.direct161 (w : World) : (Rtype.directlyAssignable 161 161).run Tryz.prog w = .ok true w := by kernel_rfl
theorem Tryz.size161 (w : World) : (sizeOf 161).run Tryz.prog w = .ok 1 w := by kernel_rfl
theorem Tryz.set161 (ta b : Addr) (n : Int) (old : Value) (W : World) (hb : W.cell? b = some (.int .i64 n)) (ht : W.cell? ta = some old) (hf : W.frozen? ta = false) :
    (ReflectliteValue.set #[.agg #[.pointer (some ⟨9, 161, none⟩), .pointer (some ta), .int .u64 409], .agg #[.pointer (some ⟨9, 161, none⟩), .pointer (some b), .int .u64 153]]).run Tryz.prog W
      = .ok (.tuple #[]) (W.setCell ta (.int .i64 n)) := by
  have hl : (loadVar 161 b).run Tryz.prog W = .ok (.agg #[.int .i64 n]) W := by
    simp [loadVar, isAgg, underlying, Tryz.underlying161, Result.andThen, loadCells, loadCellsFrom, hb, Addr.add]
  rw [rls]
  simp only [Sem.run_bind, Tryz.parts161a, Tryz.parts161, Result.andThen]
  simp only [ReflectliteValue.flagAddr]
  simp [hl, Result.andThen, Tryz.direct161, storeVar, Value.cells, storeCells, Addr.add]
  rw [run_store Tryz.prog W ta _ _ (by rfl)]
  simp [ht, hf]
end Go.Proofs

namespace Go.Proofs
open Go.RowKit Go.Extern
set_option linter.unusedVariables false

set_option maxHeartbeats 4000000 in
set_option maxRecDepth 100000 in
theorem Tryz.as_hit (n : Int) (t b : Addr) (old : Value) (w : World) (hb : w.cell? b = some (.pointer (some t))) (ht0 : w.cell? t = some old) (hf0 : w.frozen? t = false) :
    Calls Tryz.prog 137 #[.iface 161 (.agg #[.int .i64 n]), .iface 165 (.pointer (some t)), .agg #[.pointer (some ⟨9, 165, none⟩), .pointer (some b), .int .u64 150], .iface 244 (.agg #[.pointer (some ⟨9, 161, none⟩)])] w fun ev w' => ev = .returned (.bool true) ∧ w' = ((w.alloc (.cells #[.pointer (some ⟨9, 165, none⟩), .pointer (some b), .int .u64 150] 208)).alloc (.cells #[.int .i64 n] 161)).setCell t (.int .i64 n) := by
  have h10 := @run_callFunc_extern Tryz.prog 171 _ ReflectliteType.typeOf Tryz.func171 (by kernel_rfl) (by kernel_rfl) (by kernel_rfl) (by kernel_rfl)
  have h35 := @run_callFunc_extern Tryz.prog 272 _ (ReflectliteType.relation "AssignableTo" ReflectliteType.assignableTo) Tryz.func272 (by kernel_rfl) (by kernel_rfl) (by kernel_rfl) (by kernel_rfl)
  have h11 := @run_callFunc_extern Tryz.prog 172 _ (ReflectliteValue.method (ReflectliteValue.valueError "reflectlite.Value.Elem" 0) ReflectliteValue.elem) Tryz.func172 (by kernel_rfl) (by kernel_rfl) (by kernel_rfl) (by kernel_rfl)
  have h6 := @run_callFunc_extern Tryz.prog 134 _ (fun args => ReflectliteValue.unpack (args.getD 0 (.tuple #[]))) Tryz.func134 (by kernel_rfl) (by kernel_rfl) (by kernel_rfl) (by kernel_rfl)
  have h12 := @run_callFunc_extern Tryz.prog 173 _ ReflectliteValue.set Tryz.func173 (by kernel_rfl) (by kernel_rfl) (by kernel_rfl) (by kernel_rfl)
  have tO := Tryz.typeOf161
  have mA := Tryz.methodAssignableTo
  have a25 := Tryz.assignable161
  have v25 := Tryz.valueOf161
  have htl : t.block < w.heap.size := by
    rcases Nat.lt_or_ge t.block w.heap.size with h | h
    · exact h
    · simp [World.cell?, Array.getElem?_eq_none h] at ht0
  have hbl : b.block < w.heap.size := by
    rcases Nat.lt_or_ge b.block w.heap.size with h | h
    · exact h
    · simp [World.cell?, Array.getElem?_eq_none h] at hb
  have el := Tryz.elemV165 b t (w.alloc (.cells #[.pointer (some ⟨9, 165, none⟩), .pointer (some b), .int .u64 150] 208)) (by rw [World.cell?_alloc_lt _ _ b hbl]; exact hb)
  have st := Tryz.set161 t ⟨w.heap.size + 1, 0, none⟩ n old ((w.alloc (.cells #[.pointer (some ⟨9, 165, none⟩), .pointer (some b), .int .u64 150] 208)).alloc (.cells #[.int .i64 n] 161))
    (by rw [World.cell?_alloc_at _ _ _ _ (by simp)]; rfl)
    (by rw [World.cell?_alloc_lt _ _ t (by simp; omega), World.cell?_alloc_lt _ _ t htl]; exact ht0)
    (by rw [World.frozen?_alloc_old _ _ t (by simp; omega), World.frozen?_alloc_old _ _ t (Nat.ne_of_lt htl)]; exact hf0)
  go_enter Tryz.func137, Tryz.ntmps137
  go_wp2
  refine wp_loop_rounds 1 ?_
  rw [rounds_succ]
  go_wp2
  go_ret
  exact ⟨rfl, rfl⟩

set_option maxHeartbeats 4000000 in
set_option maxRecDepth 100000 in
theorem Tryz.errors_As (n : Int) (t : Addr) (old : Value) (w : World) (hg : w.cell? ⟨0, 0, none⟩ = some (.iface 244 (.agg #[.pointer (some ⟨9, 73, none⟩)]))) (ht0 : w.cell? t = some old) (hf0 : w.frozen? t = false) :
    Calls Tryz.prog 86 #[.iface 161 (.agg #[.int .i64 n]), .iface 165 (.pointer (some t))] w fun ev w' => ev = .returned (.bool true) ∧ w' = ((((w.alloc (.cells #[.pointer (some t)] 165)).alloc (.cells #[.pointer (some ⟨9, 165, none⟩), .pointer (some ⟨w.heap.size, 0, none⟩), .int .u64 150] 208)).alloc (.cells #[.pointer (some ⟨9, 165, none⟩), .pointer (some ⟨w.heap.size, 0, none⟩), .int .u64 150] 208)).alloc (.cells #[.int .i64 n] 161)).setCell t (.int .i64 n) := by
  have h6 := @run_callFunc_extern Tryz.prog 134 _ (fun args => ReflectliteValue.unpack (args.getD 0 (.tuple #[]))) Tryz.func134 (by kernel_rfl) (by kernel_rfl) (by kernel_rfl) (by kernel_rfl)
  have h7 := @run_callFunc_extern Tryz.prog 135 _ (ReflectliteValue.methodAny (ReflectliteValue.valueError "reflectlite.Value.Type" 0) (fun t _ _ _ => ReflectliteType.toType t)) Tryz.func135 (by kernel_rfl) (by kernel_rfl) (by kernel_rfl) (by kernel_rfl)
  have h8 := @run_callFunc_extern Tryz.prog 136 _ (ReflectliteValue.method (ReflectliteValue.valueError "reflectlite.Value.IsNil" 0) ReflectliteValue.isNil) Tryz.func136 (by kernel_rfl) (by kernel_rfl) (by kernel_rfl) (by kernel_rfl)
  have h27 := @run_callFunc_extern Tryz.prog 263 _ (ReflectliteType.abiMethod fun t => do pure (.int .u8 (← Rtype.kind t))) Tryz.func263 (by kernel_rfl) (by kernel_rfl) (by kernel_rfl) (by kernel_rfl)
  have h37 := @run_callFunc_extern Tryz.prog 274 _ (ReflectliteType.method ReflectliteType.elem) Tryz.func274 (by kernel_rfl) (by kernel_rfl) (by kernel_rfl) (by kernel_rfl)
  have h38 := @run_callFunc_extern Tryz.prog 275 _ (ReflectliteType.relation "Implements" ReflectliteType.implements_) Tryz.func275 (by kernel_rfl) (by kernel_rfl) (by kernel_rfl) (by kernel_rfl)
  have f6 := Tryz.valueOf165
  have f7 := Tryz.rtype165
  have mK := Tryz.methodKind
  have mE := Tryz.methodElem
  have mI := Tryz.methodImplements
  have k27 := Tryz.kind165
  have k25 := Tryz.kind161
  have e27 := Tryz.elem165
  have i25 := Tryz.implements161
  have hlt : 0 < w.heap.size := by
    rcases Nat.eq_zero_or_pos w.heap.size with h0 | h
    · simp [World.cell?, h0] at hg
    · exact h
  have htl : t.block < w.heap.size := by
    rcases Nat.lt_or_ge t.block w.heap.size with h | h
    · exact h
    · simp [World.cell?, Array.getElem?_eq_none h] at ht0
  have n8 := Tryz.isNil165 ⟨w.heap.size, 0, none⟩ t ((w.alloc (.cells #[.pointer (some t)] 165)).alloc (.cells #[.pointer (some ⟨9, 165, none⟩), .pointer (some ⟨w.heap.size, 0, none⟩), .int .u64 150] 208)) (by simp)
  have hg2 : ((w.alloc (.cells #[.pointer (some t)] 165)).alloc (.cells #[.pointer (some ⟨9, 165, none⟩), .pointer (some ⟨w.heap.size, 0, none⟩), .int .u64 150] 208)).cell? ⟨0, 0, none⟩ = some (.iface 244 (.agg #[.pointer (some ⟨9, 73, none⟩)])) := by
    rw [World.cell?_alloc_lt _ _ ⟨0, 0, none⟩ (by simp), World.cell?_alloc_lt _ _ ⟨0, 0, none⟩ hlt]; exact hg
  have hA := Tryz.as_hit n t ⟨w.heap.size, 0, none⟩ old ((w.alloc (.cells #[.pointer (some t)] 165)).alloc (.cells #[.pointer (some ⟨9, 165, none⟩), .pointer (some ⟨w.heap.size, 0, none⟩), .int .u64 150] 208)) (by simp)
    (by rw [World.cell?_alloc_lt _ _ t (by simp; omega), World.cell?_alloc_lt _ _ t htl]; exact ht0)
    (by rw [World.frozen?_alloc_old _ _ t (by simp; omega), World.frozen?_alloc_old _ _ t (Nat.ne_of_lt htl)]; exact hf0)
  clear hg
  go_enter Tryz.func86, Tryz.ntmps86
  go_wp2_with (go_at_call 137; refine hA.mono ?_; rintro e w' ⟨rfl, rfl⟩)
  go_ret
  exact ⟨rfl, rfl⟩
end Go.Proofs

namespace Go.Proofs
open Go.RowKit Go.Sort Go.Proofs.YteffpgliiilnjaaGreatDoor
set_option linter.unusedVariables false

theorem Tryz.isNaN_int (x : Int) (w : World) : Calls Tryz.prog 184 #[.int .i64 x] w fun e w' => e = .returned (.bool false) ∧ w' = w := by
  go_enter Tryz.func184, Tryz.ntmps184
  go_wp2
  go_ret
  exact ⟨rfl, rfl⟩
theorem Tryz.compare_int (x y : Int) (w : World) : Calls Tryz.prog 141 #[.int .i64 x, .int .i64 y] w fun e w' => e = .returned (.int .i64 (Lib.compareInt x y)) ∧ w' = w := by
  have h := fun x => Tryz.isNaN_int x w
  unfold Lib.compareInt
  by_cases h1 : x < y
  · have h1' : decide (x < y) = true := by simpa using h1
    rw [if_pos h1]
    go_enter Tryz.func141, Tryz.ntmps141
    go_wp2_with (go_at_call 184; refine (h _).mono ?_; rintro e w' ⟨rfl, rfl⟩)
    go_ret
    exact ⟨rfl, rfl⟩
  · have h1' : decide (x < y) = false := by simpa using h1
    rw [if_neg h1]
    by_cases h2 : y < x
    · have h2' : decide (y < x) = true := by simpa using h2
      rw [if_pos h2]
      go_enter Tryz.func141, Tryz.ntmps141
      go_wp2_with (go_at_call 184; refine (h _).mono ?_; rintro e w' ⟨rfl, rfl⟩)
      go_ret
      exact ⟨rfl, rfl⟩
    · have h2' : decide (y < x) = false := by simpa using h2
      rw [if_neg h2]
      go_enter Tryz.func141, Tryz.ntmps141
      go_wp2_with (go_at_call 184; refine (h _).mono ?_; rintro e w' ⟨rfl, rfl⟩)
      go_ret
      exact ⟨rfl, rfl⟩
theorem Tryz.or_int (b : Nat) (x y z : Int) (w : World) (hx : w.cell? ⟨b, 0, none⟩ = some (.int .i64 x)) (hy : w.cell? ⟨b, 1, none⟩ = some (.int .i64 y)) (hz : w.cell? ⟨b, 2, none⟩ = some (.int .i64 z)) :
    Calls Tryz.prog 140 #[.slice (some ⟨b, 0, none⟩) 3 3] w fun e w' => e = .returned (.int .i64 (or3 x y z)) ∧ w' = w := by
  unfold or3
  by_cases h1 : x = 0
  · subst h1
    rw [if_neg (by simp)]
    by_cases h2 : y = 0
    · subst h2
      rw [if_neg (by simp)]
      by_cases h3 : z = 0
      · subst h3
        go_enter Tryz.func140, Tryz.ntmps140
        go_wp2
        refine wp_loop_rounds 4 ?_
        iterate 4 (rw [rounds_succ]; go_wp2)
        go_ret
        exact ⟨rfl, rfl⟩
      · go_enter Tryz.func140, Tryz.ntmps140
        go_wp2
        refine wp_loop_rounds 3 ?_
        iterate 3 (rw [rounds_succ]; go_wp2)
        go_ret
        exact ⟨rfl, rfl⟩
    · rw [if_pos h2]
      go_enter Tryz.func140, Tryz.ntmps140
      go_wp2
      refine wp_loop_rounds 2 ?_
      iterate 2 (rw [rounds_succ]; go_wp2)
      go_ret
      exact ⟨rfl, rfl⟩
  · rw [if_pos h1]
    go_enter Tryz.func140, Tryz.ntmps140
    go_wp2
    refine wp_loop_rounds 1 ?_
    rw [rounds_succ]
    go_wp2
    go_ret
    exact ⟨rfl, rfl⟩
end Go.Proofs

namespace Go.Proofs
open Go.RowKit Go.Sort Go.Proofs.YteffpgliiilnjaaGreatDoor
set_option linter.unusedVariables false

def encS (s : Seg) : List Value := [.int .i64 s.X1, .int .i64 s.Y1, .int .i64 s.X2, .int .i64 s.Y2]
theorem alloc_as_grow (w : World) (o : Obj) : w.alloc o = grow w #[o] := rfl
set_option maxHeartbeats 4000000 in
set_option maxRecDepth 100000 in
theorem Tryz.orderLines_lt (ax ay ax2 ay2 bx by_ bx2 by2 : Int) (w : World) (h1 : ay = ay2) (h2 : ¬ by_ = by2) : Calls Tryz.prog 89 #[.agg #[.int .i64 ax, .int .i64 ay, .int .i64 ax2, .int .i64 ay2], .agg #[.int .i64 bx, .int .i64 by_, .int .i64 bx2, .int .i64 by2]] w fun e w' => e = .returned (.int .i64 (-1)) ∧ ∃ q os, w' = grow (w.drewN q) os := by
  have e1 : (ay == ay2) = true := by simpa using h1
  have e2 : (by_ == by2) = false := by simpa using h2
  clear h1 h2
  go_enter Tryz.func89, Tryz.ntmps89
  go_wp2
  go_region_held3 (fun w' => w'.cell? ⟨w.heap.size, 0, none⟩ = some (.int .i64 ax) ∧ w'.cell? ⟨w.heap.size, 1, none⟩ = some (.int .i64 ay) ∧ w'.cell? ⟨w.heap.size, 2, none⟩ = some (.int .i64 ax2) ∧ w'.cell? ⟨w.heap.size, 3, none⟩ = some (.int .i64 ay2) ∧ w'.cell? ⟨w.heap.size + 1, 0, none⟩ = some (.int .i64 bx) ∧ w'.cell? ⟨w.heap.size + 1, 1, none⟩ = some (.int .i64 by_) ∧ w'.cell? ⟨w.heap.size + 1, 2, none⟩ = some (.int .i64 bx2) ∧ w'.cell? ⟨w.heap.size + 1, 3, none⟩ = some (.int .i64 by2)) (go_keep) (fail)
  all_goals go_wp2
  all_goals go_ret
  all_goals exact ⟨rfl, _, _, by rw [alloc_as_grow, alloc_as_grow, grow_grow, drew_grow]; rfl⟩
set_option maxHeartbeats 4000000 in
set_option maxRecDepth 100000 in
theorem Tryz.orderLines_gt (ax ay ax2 ay2 bx by_ bx2 by2 : Int) (w : World) (h1 : ¬ ay = ay2) (h2 : by_ = by2) : Calls Tryz.prog 89 #[.agg #[.int .i64 ax, .int .i64 ay, .int .i64 ax2, .int .i64 ay2], .agg #[.int .i64 bx, .int .i64 by_, .int .i64 bx2, .int .i64 by2]] w fun e w' => e = .returned (.int .i64 (1)) ∧ ∃ q os, w' = grow (w.drewN q) os := by
  have e1 : (ay == ay2) = false := by simpa using h1
  have e2 : (by_ == by2) = true := by simpa using h2
  clear h1 h2
  go_enter Tryz.func89, Tryz.ntmps89
  go_wp2
  go_region_held3 (fun w' => w'.cell? ⟨w.heap.size, 0, none⟩ = some (.int .i64 ax) ∧ w'.cell? ⟨w.heap.size, 1, none⟩ = some (.int .i64 ay) ∧ w'.cell? ⟨w.heap.size, 2, none⟩ = some (.int .i64 ax2) ∧ w'.cell? ⟨w.heap.size, 3, none⟩ = some (.int .i64 ay2) ∧ w'.cell? ⟨w.heap.size + 1, 0, none⟩ = some (.int .i64 bx) ∧ w'.cell? ⟨w.heap.size + 1, 1, none⟩ = some (.int .i64 by_) ∧ w'.cell? ⟨w.heap.size + 1, 2, none⟩ = some (.int .i64 bx2) ∧ w'.cell? ⟨w.heap.size + 1, 3, none⟩ = some (.int .i64 by2)) (go_keep) (fail)
  all_goals go_wp2
  all_goals go_ret
  all_goals exact ⟨rfl, _, _, by rw [alloc_as_grow, alloc_as_grow, grow_grow, drew_grow]; rfl⟩
set_option maxHeartbeats 4000000 in
set_option maxRecDepth 100000 in
theorem Tryz.orderLines_flat (ax ay ax2 ay2 bx by_ bx2 by2 : Int) (w : World) (h1 : ay = ay2) (h2 : by_ = by2) : Calls Tryz.prog 89 #[.agg #[.int .i64 ax, .int .i64 ay, .int .i64 ax2, .int .i64 ay2], .agg #[.int .i64 bx, .int .i64 by_, .int .i64 bx2, .int .i64 by2]] w fun e w' => e = .returned (.int .i64 (or3 (Lib.compareInt ay by_) (Lib.compareInt ax bx) (Lib.compareInt ax2 bx2))) ∧ ∃ q os, w' = grow (w.drewN q) os := by
  have e1 : (ay == ay2) = true := by simpa using h1
  have e2 : (by_ == by2) = true := by simpa using h2
  clear h1 h2
  go_enter Tryz.func89, Tryz.ntmps89
  go_wp2
  go_region_held3 (fun w' => w'.cell? ⟨w.heap.size, 0, none⟩ = some (.int .i64 ax) ∧ w'.cell? ⟨w.heap.size, 1, none⟩ = some (.int .i64 ay) ∧ w'.cell? ⟨w.heap.size, 2, none⟩ = some (.int .i64 ax2) ∧ w'.cell? ⟨w.heap.size, 3, none⟩ = some (.int .i64 ay2) ∧ w'.cell? ⟨w.heap.size + 1, 0, none⟩ = some (.int .i64 bx) ∧ w'.cell? ⟨w.heap.size + 1, 1, none⟩ = some (.int .i64 by_) ∧ w'.cell? ⟨w.heap.size + 1, 2, none⟩ = some (.int .i64 bx2) ∧ w'.cell? ⟨w.heap.size + 1, 3, none⟩ = some (.int .i64 by2)) (go_keep) (fail)
  all_goals go_wp2
  all_goals (go_region_held3 (fun w' => w'.cell? ⟨w.heap.size, 0, none⟩ = some (.int .i64 ax) ∧ w'.cell? ⟨w.heap.size, 1, none⟩ = some (.int .i64 ay) ∧ w'.cell? ⟨w.heap.size, 2, none⟩ = some (.int .i64 ax2) ∧ w'.cell? ⟨w.heap.size, 3, none⟩ = some (.int .i64 ay2) ∧ w'.cell? ⟨w.heap.size + 1, 0, none⟩ = some (.int .i64 bx) ∧ w'.cell? ⟨w.heap.size + 1, 1, none⟩ = some (.int .i64 by_) ∧ w'.cell? ⟨w.heap.size + 1, 2, none⟩ = some (.int .i64 bx2) ∧ w'.cell? ⟨w.heap.size + 1, 3, none⟩ = some (.int .i64 by2)) (go_keep) (first | (go_at_call 141; refine (Tryz.compare_int _ _ _).mono ?_; rintro e w' ⟨rfl, rfl⟩) | (go_at_call 140; refine (Tryz.or_int _ (Lib.compareInt ay by_) (Lib.compareInt ax bx) (Lib.compareInt ax2 bx2) _ (by simp; rw [World.cell?_alloc_at _ _ _ _ (by simp)]; rfl) (by simp; rw [World.cell?_alloc_at _ _ _ _ (by simp)]; rfl) (by simp; rw [World.cell?_alloc_at _ _ _ _ (by simp)]; rfl)).mono ?_; rintro e w' ⟨rfl, rfl⟩)))
  all_goals go_wp2
  all_goals go_ret
  all_goals exact ⟨rfl, 2, _, by simp only [alloc_as_grow, grow_grow, drew_grow]; rfl⟩
set_option maxHeartbeats 4000000 in
set_option maxRecDepth 100000 in
theorem Tryz.orderLines_up (ax ay ax2 ay2 bx by_ bx2 by2 : Int) (w : World) (h1 : ¬ ay = ay2) (h2 : ¬ by_ = by2) : Calls Tryz.prog 89 #[.agg #[.int .i64 ax, .int .i64 ay, .int .i64 ax2, .int .i64 ay2], .agg #[.int .i64 bx, .int .i64 by_, .int .i64 bx2, .int .i64 by2]] w fun e w' => e = .returned (.int .i64 (or3 (Lib.compareInt ax bx) (Lib.compareInt ay by_) (Lib.compareInt ay2 by2))) ∧ ∃ q os, w' = grow (w.drewN q) os := by
  have e1 : (ay == ay2) = false := by simpa using h1
  have e2 : (by_ == by2) = false := by simpa using h2
  clear h1 h2
  go_enter Tryz.func89, Tryz.ntmps89
  go_wp2
  go_region_held3 (fun w' => w'.cell? ⟨w.heap.size, 0, none⟩ = some (.int .i64 ax) ∧ w'.cell? ⟨w.heap.size, 1, none⟩ = some (.int .i64 ay) ∧ w'.cell? ⟨w.heap.size, 2, none⟩ = some (.int .i64 ax2) ∧ w'.cell? ⟨w.heap.size, 3, none⟩ = some (.int .i64 ay2) ∧ w'.cell? ⟨w.heap.size + 1, 0, none⟩ = some (.int .i64 bx) ∧ w'.cell? ⟨w.heap.size + 1, 1, none⟩ = some (.int .i64 by_) ∧ w'.cell? ⟨w.heap.size + 1, 2, none⟩ = some (.int .i64 bx2) ∧ w'.cell? ⟨w.heap.size + 1, 3, none⟩ = some (.int .i64 by2)) (go_keep) (fail)
  all_goals go_wp2
  all_goals (go_region_held3 (fun w' => w'.cell? ⟨w.heap.size, 0, none⟩ = some (.int .i64 ax) ∧ w'.cell? ⟨w.heap.size, 1, none⟩ = some (.int .i64 ay) ∧ w'.cell? ⟨w.heap.size, 2, none⟩ = some (.int .i64 ax2) ∧ w'.cell? ⟨w.heap.size, 3, none⟩ = some (.int .i64 ay2) ∧ w'.cell? ⟨w.heap.size + 1, 0, none⟩ = some (.int .i64 bx) ∧ w'.cell? ⟨w.heap.size + 1, 1, none⟩ = some (.int .i64 by_) ∧ w'.cell? ⟨w.heap.size + 1, 2, none⟩ = some (.int .i64 bx2) ∧ w'.cell? ⟨w.heap.size + 1, 3, none⟩ = some (.int .i64 by2)) (go_keep) (first | (go_at_call 141; refine (Tryz.compare_int _ _ _).mono ?_; rintro e w' ⟨rfl, rfl⟩) | (go_at_call 140; refine (Tryz.or_int _ (Lib.compareInt ax bx) (Lib.compareInt ay by_) (Lib.compareInt ay2 by2) _ (by simp; rw [World.cell?_alloc_at _ _ _ _ (by simp)]; rfl) (by simp; rw [World.cell?_alloc_at _ _ _ _ (by simp)]; rfl) (by simp; rw [World.cell?_alloc_at _ _ _ _ (by simp)]; rfl)).mono ?_; rintro e w' ⟨rfl, rfl⟩)))
  all_goals go_wp2
  all_goals go_ret
  all_goals exact ⟨rfl, 2, _, by simp only [alloc_as_grow, grow_grow, drew_grow]; rfl⟩
theorem Tryz.orderLines (a b : Seg) (w : World) : Calls Tryz.prog 89 #[.agg (encS a).toArray, .agg (encS b).toArray] w fun e w' => e = .returned (.int .i64 (ordS a b)) ∧ ∃ q os, w' = grow (w.drewN q) os := by
  obtain ⟨ax, ay, ax2, ay2⟩ := a
  obtain ⟨bx, by_, bx2, by2⟩ := b
  unfold ordS
  dsimp only
  by_cases h1 : ay = ay2 <;> by_cases h2 : by_ = by2
  · rw [if_neg (by simp [h2]), if_neg (by simp [h1]), if_pos h1]
    exact Tryz.orderLines_flat _ _ _ _ _ _ _ _ w h1 h2
  · rw [if_pos ⟨h1, h2⟩]
    exact Tryz.orderLines_lt _ _ _ _ _ _ _ _ w h1 h2
  · rw [if_neg (by simp [h1]), if_pos ⟨h2, h1⟩]
    exact Tryz.orderLines_gt _ _ _ _ _ _ _ _ w h1 h2
  · rw [if_neg (by simp [h1]), if_neg (by simp [h2]), if_neg h1]
    exact Tryz.orderLines_up _ _ _ _ _ _ _ _ w h1 h2
end Go.Proofs

namespace Go.Proofs
open Go.Shelf
def Tryz.laysSlF06_f88_ren : Go.Shelf.Ren := ⟨fun | 6 => 88 | 15 => 139 | 14 => 138 | 28 => 182 | 29 => 183 | 20 => 174 | 21 => 175 | 22 => 176 | 23 => 177 | 24 => 178 | 25 => 179 | 26 => 180 | 27 => 181 | 46 => 208 | 47 => 209 | 48 => 210 | 49 => 211 | 50 => 212 | 57 => 236 | n => n, fun | 22 => 26 | 24 => 43 | 25 => 167 | 3 => 3 | 39 => 184 | 0 => 0 | 53 => 265 | 55 => 267 | 4 => 4 | 46 => 259 | 45 => 258 | 50 => 193 | 5 => 5 | 9 => 9 | 66 => 285 | 70 => 289 | 76 => 310 | 77 => 105 | n => n, fun | n => n⟩
theorem Tryz.laysSlF06_f88 : Go.Proofs.SlLaysF0.n6 Tryz.prog Tryz.laysSlF06_f88_ren := {
  mixed := by kernel_rfl
  f6 := ⟨Tryz.f88.name, by decide, Tryz.func88.trans (congrArg some (by kernel_rfl))⟩
  f14 := ⟨Tryz.f138.name, by decide, Tryz.func138.trans (congrArg some (by kernel_rfl))⟩
  f15 := Tryz.func139.trans (congrArg some (by kernel_rfl))
  f20 := ⟨Tryz.f174.name, by decide, Tryz.func174.trans (congrArg some (by kernel_rfl))⟩
  f21 := ⟨Tryz.f175.name, by decide, Tryz.func175.trans (congrArg some (by kernel_rfl))⟩
  f22 := ⟨Tryz.f176.name, by decide, Tryz.func176.trans (congrArg some (by kernel_rfl))⟩
  f23 := ⟨Tryz.f177.name, by decide, Tryz.func177.trans (congrArg some (by kernel_rfl))⟩
  f24 := ⟨Tryz.f178.name, by decide, Tryz.func178.trans (congrArg some (by kernel_rfl))⟩
  f25 := ⟨Tryz.f179.name, by decide, Tryz.func179.trans (congrArg some (by kernel_rfl))⟩
  f26 := ⟨Tryz.f180.name, by decide, Tryz.func180.trans (congrArg some (by kernel_rfl))⟩
  f27 := ⟨Tryz.f181.name, by decide, Tryz.func181.trans (congrArg some (by kernel_rfl))⟩
  f28 := Tryz.func182.trans (congrArg some (by kernel_rfl))
  f29 := Tryz.func183.trans (congrArg some (by kernel_rfl))
  f46 := ⟨Tryz.f208.name, by decide, Tryz.func208.trans (congrArg some (by kernel_rfl))⟩
  f47 := Tryz.func209.trans (congrArg some (by kernel_rfl))
  f48 := Tryz.func210.trans (congrArg some (by kernel_rfl))
  f49 := ⟨Tryz.f211.name, by decide, Tryz.func211.trans (congrArg some (by kernel_rfl))⟩
  f50 := ⟨Tryz.f212.name, by decide, Tryz.func212.trans (congrArg some (by kernel_rfl))⟩
  f57 := ⟨Tryz.f236.name, by decide, Tryz.func236.trans (congrArg some (by kernel_rfl))⟩
  t0 := Tryz.underlying0
  a0 := Tryz.isAgg0
  z0 := Tryz.sizeOf0
  v0 := Tryz.zeroValue0
  t3 := Tryz.underlying3
  a3 := Tryz.isAgg3
  z3 := Tryz.sizeOf3
  v3 := Tryz.zeroValue3
  t4 := Tryz.underlying4
  a4 := Tryz.isAgg4
  z4 := Tryz.sizeOf4
  v4 := Tryz.zeroValue4
  t5 := Tryz.underlying5
  a5 := Tryz.isAgg5
  z5 := Tryz.sizeOf5
  v5 := Tryz.zeroValue5
  t9 := Tryz.underlying9
  a9 := Tryz.isAgg9
  z9 := Tryz.sizeOf9
  v9 := Tryz.zeroValue9
  t22 := Tryz.underlying26
  a22 := Tryz.isAgg26
  z22 := Tryz.sizeOf26
  v22 := Tryz.zeroValue26
  t25 := Tryz.underlying167
  a25 := Tryz.isAgg167
  z25 := Tryz.sizeOf167
  v25 := Tryz.zeroValue167
  t39 := Tryz.underlying184
  a39 := Tryz.isAgg184
  z39 := Tryz.sizeOf184
  v39 := Tryz.zeroValue184
  t45 := Tryz.underlying258
  a45 := Tryz.isAgg258
  z45 := Tryz.sizeOf258
  v45 := Tryz.zeroValue258
  t46 := Tryz.underlying259
  a46 := Tryz.isAgg259
  z46 := Tryz.sizeOf259
  v46 := Tryz.zeroValue259
  t50 := Tryz.underlying193
  a50 := Tryz.isAgg193
  z50 := Tryz.sizeOf193
  v50 := Tryz.zeroValue193
  t53 := Tryz.underlying265
  a53 := Tryz.isAgg265
  z53 := Tryz.sizeOf265
  v53 := Tryz.zeroValue265
  t55 := Tryz.underlying267
  a55 := Tryz.isAgg267
  z55 := Tryz.sizeOf267
  v55 := Tryz.zeroValue267
  t66 := Tryz.underlying285
  a66 := Tryz.isAgg285
  z66 := Tryz.sizeOf285
  v66 := Tryz.zeroValue285
  t70 := Tryz.underlying289
  a70 := Tryz.isAgg289
  z70 := Tryz.sizeOf289
  v70 := Tryz.zeroValue289
  t76 := Tryz.underlying310
  a76 := Tryz.isAgg310
  z76 := Tryz.sizeOf310
  v76 := Tryz.zeroValue310
  t77 := Tryz.underlying105
  a77 := Tryz.isAgg105
  z77 := Tryz.sizeOf105
  v77 := Tryz.zeroValue105 }
end Go.Proofs
