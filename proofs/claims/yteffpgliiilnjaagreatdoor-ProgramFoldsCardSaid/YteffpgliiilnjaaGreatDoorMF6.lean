/- Texts of this proof, one behind another: What pieces of code must make hold, in plain Lean; printed by gen.py. Conditions: none; de; What Fold and FoldHoles return, of both. Conditions: none.; What pieces of code must make hold, in plain Lean; printed by gen.py. Conditions: none; de; The law of Fold and FoldHoles, in plain Lean. Conditions: none.; That the code says what the printed pieces say, by the kernel; printed by gen.py. Conditio; That the code says what the printed pieces say, by the kernel; printed by gen.py. Conditio; That the code says what the printed pieces say, by the kernel; printed by gen.py. Conditio; That the code says what the printed pieces say, by the kernel; printed by gen.py. Conditio; That the code says what the printed pieces say, by the kernel; printed by gen.py. Conditio; That the code says what the printed pieces say, by the kernel; printed by gen.py. Conditio; slices.Clone of lines and of rectangles: a new slice of the same elements. Conditions: non; errors.As at a refusal, and program.code: the refusal's code. Conditions: none.; errors.As at a refusal, and program.code: the refusal's code (the walks). Conditions: none; program.orderLines: the order of lines; cmp.Or, cmp.Compare. Conditions: none.; program.orderLines: the order of lines. Conditions: none.; DERIVED: THE SHELF's CONTRACTS AT THIS DUMP, IN PLAIN WORDS (tools/lay-plain.mjs out of 'T; slices.SortFunc at lines and their order: it puts the own row in order. Conditions: none.; Summaries by hand: slices.Clone, slices.SortFunc, er. Conditions: none. -/
import Derived.Test.YteffpgliiilnjaaGreatDoorMF5
import Derived.Test.YteffpgliiilnjaaGreatDoorMF4
import Derived.WalkKit
import Derived.OwnWalk
import Derived.Lib.Walk
import Derived.Lib.SliceRun
import Derived.Deep.LoopGhost
import Derived.LaidEql
import Derived.RowKitTokens
import Derived.Deep.RegionHeld3
import Derived.Shelf.SlSortCmp.QuietGrown
import Derived.Ground.SlsfProg
import Derived.Shelf.SlSortCmp.NoneTotal
import Derived.Test.YteffpgliiilnjaaGreatDoorProg
import Derived.Lib.OwnBridge
namespace Go.Proofs.YteffpgliiilnjaaGreatDoor
open Go.Vm Go.RowKit
set_option linter.unusedVariables false
noncomputable section
def M_zai : Nat → Nat → Nat → Canon UU := fun o b r => cond (Nat.beq b 0) ⟨[7, 18, 19, 20], [], [(.tmp 18, 31, .frm), (.tmp 7, 32, .face)], [], []⟩ (⟨[], [], [], [], []⟩)
def st_zai_0 (t19 t20 : Int) (l31 : List Frm) (l32 : List Face) : ASt UU := ⟨fun u => cond (Nat.beq u 7) (.osl 32 0) (cond (Nat.beq u 18) (.osl 31 0) (cond (Nat.beq u 19) (.int .i64 t19) (cond (Nat.beq u 20) (.int .i64 t20) (.any)))), fun u => cond (Nat.beq u 31) (some (.row .frm 0 l31)) (cond (Nat.beq u 32) (some (.row .face 0 l32)) (none))⟩
def g_zai_e (qa qc qd : List Rect) (qb : List Bend) (a1 : Int) (Q : List Face → Int → Prop) (i0 : Int → Int → List Frm → List Face → Prop) : Prop := (let r0 := (sp_zh qa qc qd qb a1); ((pre_zh qa qc qd qb a1) ∧ cond (r0 != 0) (Q ([]) r0) ((let r1 := (sp_zab qa qc qd qb a1); ((pre_zab qa qc qd qb a1) ∧ i0 (r1.length : Int) 0 r1 ([]))))))
def g_zai_s0 (rec : Int → Int → List Frm → List Face → Prop) (x0 : Int → Int → List Frm → List Face → Prop) (t19 t20 : Int) (l31 : List Frm) (l32 : List Face) : Prop := cond (decide (t20 < t19)) (((0 ≤ t20 ∧ t20 < l31.length) ∧ (((l32.length + ([(Face.mk ((l31.getD t20.toNat default).qaw) ((l31.getD t20.toNat default).qax) ((l31.getD t20.toNat default).qay) ((l31.getD t20.toNat default).qaq) ((l31.getD t20.toNat default).qar) ((l31.getD t20.toNat default).qas) ((l31.getD t20.toNat default).qat) ((l31.getD t20.toNat default).qau) ((l31.getD t20.toNat default).qav) ((l31.getD t20.toNat default).Face_W) ((l31.getD t20.toNat default).Face_H))]).length) * 88 ≤ 140737488355328) ∧ rec t19 (w64 (t20 + 1)) l31 (l32 ++ ([(Face.mk ((l31.getD t20.toNat default).qaw) ((l31.getD t20.toNat default).qax) ((l31.getD t20.toNat default).qay) ((l31.getD t20.toNat default).qaq) ((l31.getD t20.toNat default).qar) ((l31.getD t20.toNat default).qas) ((l31.getD t20.toNat default).qat) ((l31.getD t20.toNat default).qau) ((l31.getD t20.toNat default).qav) ((l31.getD t20.toNat default).Face_W) ((l31.getD t20.toNat default).Face_H))]))))) (x0 t19 t20 l31 l32)
def g_zai_c0_0 (Q : List Face → Int → Prop) (t19 t20 : Int) (l31 : List Frm) (l32 : List Face) : Prop := Q l32 0
def w_zai_0 (F : Nat) (x0 : Int → Int → List Frm → List Face → Prop) : Nat → Int → Int → List Frm → List Face → Prop
  | 0, _, _, _, _ => False
  | n + 1, t19, t20, l31, l32 => g_zai_s0 (w_zai_0 F x0 n) x0 t19 t20 l31 l32
def n_zai_0 (F : Nat) (Q : List Face → Int → Prop) (t19 t20 : Int) (l31 : List Frm) (l32 : List Face) : Prop := w_zai_0 F (fun t19 t20 l31 l32 => g_zai_c0_0 Q t19 t20 l31 l32) F t19 t20 l31 l32
def w_zai (F : Nat) (qa qc qd : List Rect) (qb : List Bend) (a1 : Int) (Q : List Face → Int → Prop) : Prop := g_zai_e qa qc qd qb a1 Q (n_zai_0 F Q)
def M_zbq : Nat → Nat → Nat → Canon UU := fun o b r => cond (Nat.beq b 0) ⟨[6, 8, 9], [], [(.tmp 8, 34, .face)], [], []⟩ (⟨[], [], [], [], []⟩)
def st_zbq_0 (t6 : List Frr) (t9 : Int) (l34 : List Face) : ASt UU := ⟨fun u => cond (Nat.beq u 6) (.sl .frr t6) (cond (Nat.beq u 8) (.osl 34 0) (cond (Nat.beq u 9) (.int .i64 t9) (.any))), fun u => cond (Nat.beq u 34) (some (.row .face 0 l34)) (none)⟩
def g_zbq_e (qa qc qd : List Rect) (qb : List Bend) (a1 : Int) (Q : List Face → Int → Prop) (i0 : List Frr → Int → List Face → Prop) : Prop := (let r0 := (sp_zaq qa qc qd qb a1); ((pre_zaq qa qc qd qb a1) ∧ cond (r0.2 != 0) (Q ([]) r0.2) (i0 r0.1 0 ([]))))
def g_zbq_s0 (rec : List Frr → Int → List Face → Prop) (x0 : List Frr → Int → List Face → Prop) (t6 : List Frr) (t9 : Int) (l34 : List Face) : Prop := cond (decide (t9 < (t6.length : Int))) ((let e0 := (t6.getD t9.toNat default); (((0 ≤ t9 ∧ t9 < t6.length) ∧ ((l34.length + ([(Face.mk e0.qan e0.qao e0.qap e0.qah e0.qai e0.qaj e0.qak e0.qal e0.qam e0.face_W e0.face_H)]).length) * 88 ≤ 140737488355328)) ∧ rec t6 (w64 (t9 + 1)) (l34 ++ ([(Face.mk e0.qan e0.qao e0.qap e0.qah e0.qai e0.qaj e0.qak e0.qal e0.qam e0.face_W e0.face_H)]))))) (x0 t6 t9 l34)
def g_zbq_c0_0 (Q : List Face → Int → Prop) (t6 : List Frr) (t9 : Int) (l34 : List Face) : Prop := Q l34 0
def w_zbq_0 (F : Nat) (x0 : List Frr → Int → List Face → Prop) : Nat → List Frr → Int → List Face → Prop
  | 0, _, _, _ => False
  | n + 1, t6, t9, l34 => g_zbq_s0 (w_zbq_0 F x0 n) x0 t6 t9 l34
def n_zbq_0 (F : Nat) (Q : List Face → Int → Prop) (t6 : List Frr) (t9 : Int) (l34 : List Face) : Prop := w_zbq_0 F (fun t6 t9 l34 => g_zbq_c0_0 Q t6 t9 l34) F t6 t9 l34
def w_zbq (F : Nat) (qa qc qd : List Rect) (qb : List Bend) (a1 : Int) (Q : List Face → Int → Prop) : Prop := g_zbq_e qa qc qd qb a1 Q (n_zbq_0 F Q)
def M_zk : Nat → Nat → Nat → Canon UU := fun o b r => cond (Nat.beq b 0) ⟨[2, 4, 5, 7, 8, 26, 27, 28], [2], [(.tmp 7, 49, .frm), (.tmp 26, 50, .rect), (.tmp 8, 51, .face)], [], []⟩ (⟨[], [], [], [], []⟩)
def st_zk_0 (t5 t27 t28 : Int) (c2_0 c2_1 c2_2 : List Rect) (c2_3 : List Bend) (l49 : List Frm) (l50 : List Rect) (l51 : List Face) : ASt UU := ⟨fun u => cond (Nat.beq u 2) (.ptr 2 0) (cond (Nat.beq u 4) (.nils) (cond (Nat.beq u 5) (.int .i64 t5) (cond (Nat.beq u 7) (.osl 49 0) (cond (Nat.beq u 8) (.osl 51 0) (cond (Nat.beq u 26) (.osl 50 0) (cond (Nat.beq u 27) (.int .i64 t27) (cond (Nat.beq u 28) (.int .i64 t28) (.any)))))))), fun u => cond (Nat.beq u 49) (some (.row .frm 0 l49)) (cond (Nat.beq u 50) (some (.row .rect 0 l50)) (cond (Nat.beq u 51) (some (.row .face 0 l51)) (cond (Nat.beq u 2) (some (.cells [.sl .rect c2_0, .sl .rect c2_1, .sl .rect c2_2, .sl .bend c2_3])) (none))))⟩
def g_zk_e (qa qc qd : List Rect) (qb : List Bend) (a1 : Int) (Q : List Face → Int → Prop) (i0 : Int → Int → Int → List Rect → List Rect → List Rect → List Bend → List Frm → List Rect → List Face → Prop) : Prop := (let r0 := (sp_zh qa qc qd qb a1); ((pre_zh qa qc qd qb a1) ∧ cond (r0 != 0) (Q ([]) r0) ((let r1 := (sp_zab qa qc qd qb a1); ((pre_zab qa qc qd qb a1) ∧ (let v2 := ((sp_cat ([qc, qd])).length : Int); ((pre_cat ([qc, qd])) ∧ i0 0 v2 0 qa qc qd qb r1 (sp_cat ([qc, qd])) ([]))))))))
def g_zk_s0 (rec : Int → Int → Int → List Rect → List Rect → List Rect → List Bend → List Frm → List Rect → List Face → Prop) (x0 : Int → Int → Int → List Rect → List Rect → List Rect → List Bend → List Frm → List Rect → List Face → Prop) (x1 : Int → Int → Int → List Rect → List Rect → List Rect → List Bend → List Frm → List Rect → List Face → Prop) (t5 t27 t28 : Int) (c2_0 c2_1 c2_2 : List Rect) (c2_3 : List Bend) (l49 : List Frm) (l50 : List Rect) (l51 : List Face) : Prop := cond (decide (t28 < t27)) (((0 ≤ t28 ∧ t28 < l50.length) ∧ (let r0 := (sp_ixf2 c2_0 ((l50.getD t28.toNat default).X) ((l50.getD t28.toNat default).Y) ((l50.getD t28.toNat default).W) ((l50.getD t28.toNat default).H)); ((pre_ixf2 c2_0 ((l50.getD t28.toNat default).X) ((l50.getD t28.toNat default).Y) ((l50.getD t28.toNat default).W) ((l50.getD t28.toNat default).H)) ∧ cond (decide (r0 < 0)) (x0 6 t27 t28 c2_0 c2_1 c2_2 c2_3 l49 l50 l51) (((0 ≤ r0 ∧ r0 < l49.length) ∧ (let r1 := (sp_zg ((l49.getD r0.toNat default).qaw) ((l49.getD r0.toNat default).qax) ((l49.getD r0.toNat default).qay) ((l49.getD r0.toNat default).qaq) ((l49.getD r0.toNat default).qar) ((l49.getD r0.toNat default).qas) ((l49.getD r0.toNat default).qat) ((l49.getD r0.toNat default).qau) ((l49.getD r0.toNat default).qav) ((l49.getD r0.toNat default).Face_W) ((l49.getD r0.toNat default).Face_H) ((l49.getD r0.toNat default).begin_X) ((l49.getD r0.toNat default).begin_Y) ((l49.getD r0.toNat default).u_X) ((l49.getD r0.toNat default).u_Y) ((l49.getD r0.toNat default).v_X) ((l49.getD r0.toNat default).v_Y) ((l49.getD r0.toNat default).ahead) ((l50.getD t28.toNat default).X) ((l50.getD t28.toNat default).Y) ((l50.getD t28.toNat default).W) ((l50.getD t28.toNat default).H)); (((l51.length + ([(Face.mk r1.1 r1.2.1 r1.2.2.1 r1.2.2.2.1 r1.2.2.2.2.1 r1.2.2.2.2.2.1 r1.2.2.2.2.2.2.1 r1.2.2.2.2.2.2.2.1 r1.2.2.2.2.2.2.2.2.1 r1.2.2.2.2.2.2.2.2.2.1 r1.2.2.2.2.2.2.2.2.2.2)]).length) * 88 ≤ 140737488355328) ∧ rec t5 t27 (w64 (t28 + 1)) c2_0 c2_1 c2_2 c2_3 l49 l50 (l51 ++ ([(Face.mk r1.1 r1.2.1 r1.2.2.1 r1.2.2.2.1 r1.2.2.2.2.1 r1.2.2.2.2.2.1 r1.2.2.2.2.2.2.1 r1.2.2.2.2.2.2.2.1 r1.2.2.2.2.2.2.2.2.1 r1.2.2.2.2.2.2.2.2.2.1 r1.2.2.2.2.2.2.2.2.2.2)])))))))))) (x1 t5 t27 t28 c2_0 c2_1 c2_2 c2_3 l49 l50 l51)
def g_zk_c0_0 (Q : List Face → Int → Prop) (t5 t27 t28 : Int) (c2_0 c2_1 c2_2 : List Rect) (c2_3 : List Bend) (l49 : List Frm) (l50 : List Rect) (l51 : List Face) : Prop := Q ([]) t5
def g_zk_c0_1 (Q : List Face → Int → Prop) (t5 t27 t28 : Int) (c2_0 c2_1 c2_2 : List Rect) (c2_3 : List Bend) (l49 : List Frm) (l50 : List Rect) (l51 : List Face) : Prop := Q l51 0
def w_zk_0 (F : Nat) (x0 : Int → Int → Int → List Rect → List Rect → List Rect → List Bend → List Frm → List Rect → List Face → Prop) (x1 : Int → Int → Int → List Rect → List Rect → List Rect → List Bend → List Frm → List Rect → List Face → Prop) : Nat → Int → Int → Int → List Rect → List Rect → List Rect → List Bend → List Frm → List Rect → List Face → Prop
  | 0, _, _, _, _, _, _, _, _, _, _ => False
  | n + 1, t5, t27, t28, c2_0, c2_1, c2_2, c2_3, l49, l50, l51 => g_zk_s0 (w_zk_0 F x0 x1 n) x0 x1 t5 t27 t28 c2_0 c2_1 c2_2 c2_3 l49 l50 l51
def n_zk_0 (F : Nat) (Q : List Face → Int → Prop) (t5 t27 t28 : Int) (c2_0 c2_1 c2_2 : List Rect) (c2_3 : List Bend) (l49 : List Frm) (l50 : List Rect) (l51 : List Face) : Prop := w_zk_0 F (fun t5 t27 t28 c2_0 c2_1 c2_2 c2_3 l49 l50 l51 => g_zk_c0_0 Q t5 t27 t28 c2_0 c2_1 c2_2 c2_3 l49 l50 l51) (fun t5 t27 t28 c2_0 c2_1 c2_2 c2_3 l49 l50 l51 => g_zk_c0_1 Q t5 t27 t28 c2_0 c2_1 c2_2 c2_3 l49 l50 l51) F t5 t27 t28 c2_0 c2_1 c2_2 c2_3 l49 l50 l51
def w_zk (F : Nat) (qa qc qd : List Rect) (qb : List Bend) (a1 : Int) (Q : List Face → Int → Prop) : Prop := g_zk_e qa qc qd qb a1 Q (n_zk_0 F Q)
def M_zr : Nat → Nat → Nat → Canon UU := fun o b r => cond (Nat.beq b 0) ⟨[2, 4, 5, 6, 8, 9, 10], [2], [(.tmp 8, 121, .rect), (.tmp 9, 122, .face)], [], []⟩ (⟨[], [], [], [], []⟩)
def st_zr_0 (t5 : Int) (t6 : List Frr) (t10 : Int) (c2_0 c2_1 c2_2 : List Rect) (c2_3 : List Bend) (l121 : List Rect) (l122 : List Face) : ASt UU := ⟨fun u => cond (Nat.beq u 2) (.ptr 2 0) (cond (Nat.beq u 4) (.nils) (cond (Nat.beq u 5) (.int .i64 t5) (cond (Nat.beq u 6) (.sl .frr t6) (cond (Nat.beq u 8) (.osl 121 0) (cond (Nat.beq u 9) (.osl 122 0) (cond (Nat.beq u 10) (.int .i64 t10) (.any))))))), fun u => cond (Nat.beq u 121) (some (.row .rect 0 l121)) (cond (Nat.beq u 122) (some (.row .face 0 l122)) (cond (Nat.beq u 2) (some (.cells [.sl .rect c2_0, .sl .rect c2_1, .sl .rect c2_2, .sl .bend c2_3])) (none)))⟩
def g_zr_e (qa qc qd : List Rect) (qb : List Bend) (a1 : Int) (Q : List Face → Int → Prop) (i0 : Int → List Frr → Int → List Rect → List Rect → List Rect → List Bend → List Rect → List Face → Prop) : Prop := (let r0 := (sp_zaq qa qc qd qb a1); ((pre_zaq qa qc qd qb a1) ∧ cond (r0.2 != 0) (Q ([]) r0.2) ((((([] : List Rect).length + qc.length) * 32 ≤ 140737488355328) ∧ ((((([] : List Rect) ++ qc).length + qd.length) * 32 ≤ 140737488355328) ∧ i0 0 r0.1 0 qa qc qd qb ((([] : List Rect) ++ qc) ++ qd) ([]))))))
def g_zr_s0 (rec : Int → List Frr → Int → List Rect → List Rect → List Rect → List Bend → List Rect → List Face → Prop) (x0 : Int → List Frr → Int → List Rect → List Rect → List Rect → List Bend → List Rect → List Face → Prop) (x1 : Int → List Frr → Int → List Rect → List Rect → List Rect → List Bend → List Rect → List Face → Prop) (t5 : Int) (t6 : List Frr) (t10 : Int) (c2_0 c2_1 c2_2 : List Rect) (c2_3 : List Bend) (l121 : List Rect) (l122 : List Face) : Prop := cond (decide (t10 < (l121.length : Int))) (((0 ≤ t10 ∧ t10 < l121.length) ∧ (let r0 := (sp_zap c2_0 c2_1 c2_2 c2_3 ((l121.getD t10.toNat default).X) ((l121.getD t10.toNat default).Y) ((l121.getD t10.toNat default).W) ((l121.getD t10.toNat default).H)); ((pre_zap c2_0 c2_1 c2_2 c2_3 ((l121.getD t10.toNat default).X) ((l121.getD t10.toNat default).Y) ((l121.getD t10.toNat default).W) ((l121.getD t10.toNat default).H)) ∧ cond (decide (r0 < 0)) (x0 6 t6 t10 c2_0 c2_1 c2_2 c2_3 l121 l122) ((let e1 := (t6.getD r0.toNat default); ((0 ≤ r0 ∧ r0 < t6.length) ∧ (let r2 := (sp_zl e1.qan e1.qao e1.qap e1.qah e1.qai e1.qaj e1.qak e1.qal e1.qam e1.face_W e1.face_H e1.at_x e1.at_y e1.u_x e1.u_y e1.v_x e1.v_y e1.lift ((l121.getD t10.toNat default).X) ((l121.getD t10.toNat default).Y)); (let e3 := (t6.getD r0.toNat default); ((0 ≤ r0 ∧ r0 < t6.length) ∧ (let v4 := w64 (((l121.getD t10.toNat default).X) + ((l121.getD t10.toNat default).W)); (let v5 := w64 (((l121.getD t10.toNat default).Y) + ((l121.getD t10.toNat default).H)); (let r6 := (sp_zl e3.qan e3.qao e3.qap e3.qah e3.qai e3.qaj e3.qak e3.qal e3.qam e3.face_W e3.face_H e3.at_x e3.at_y e3.u_x e3.u_y e3.v_x e3.v_y e3.lift v4 v5); (let e7 := (t6.getD r0.toNat default); ((0 ≤ r0 ∧ r0 < t6.length) ∧ (let r8 := (sp_zbu e7.qan e7.qao e7.qap (mi r2.1 r6.1) e7.qah e7.qai e7.qaj (mi r2.2 r6.2) e7.qak e7.qal e7.qam); (((l122.length + ([(Face.mk r8.1 r8.2.1 r8.2.2 e7.qah e7.qai e7.qaj e7.qak e7.qal e7.qam (w64 ((ma r2.1 r6.1) - (mi r2.1 r6.1))) (w64 ((ma r2.2 r6.2) - (mi r2.2 r6.2))))]).length) * 88 ≤ 140737488355328) ∧ rec t5 t6 (w64 (t10 + 1)) c2_0 c2_1 c2_2 c2_3 l121 (l122 ++ ([(Face.mk r8.1 r8.2.1 r8.2.2 e7.qah e7.qai e7.qaj e7.qak e7.qal e7.qam (w64 ((ma r2.1 r6.1) - (mi r2.1 r6.1))) (w64 ((ma r2.2 r6.2) - (mi r2.2 r6.2))))]))))))))))))))))))) (x1 t5 t6 t10 c2_0 c2_1 c2_2 c2_3 l121 l122)
def g_zr_c0_0 (Q : List Face → Int → Prop) (t5 : Int) (t6 : List Frr) (t10 : Int) (c2_0 c2_1 c2_2 : List Rect) (c2_3 : List Bend) (l121 : List Rect) (l122 : List Face) : Prop := Q ([]) t5
def g_zr_c0_1 (Q : List Face → Int → Prop) (t5 : Int) (t6 : List Frr) (t10 : Int) (c2_0 c2_1 c2_2 : List Rect) (c2_3 : List Bend) (l121 : List Rect) (l122 : List Face) : Prop := Q l122 0
def w_zr_0 (F : Nat) (x0 : Int → List Frr → Int → List Rect → List Rect → List Rect → List Bend → List Rect → List Face → Prop) (x1 : Int → List Frr → Int → List Rect → List Rect → List Rect → List Bend → List Rect → List Face → Prop) : Nat → Int → List Frr → Int → List Rect → List Rect → List Rect → List Bend → List Rect → List Face → Prop
  | 0, _, _, _, _, _, _, _, _, _ => False
  | n + 1, t5, t6, t10, c2_0, c2_1, c2_2, c2_3, l121, l122 => g_zr_s0 (w_zr_0 F x0 x1 n) x0 x1 t5 t6 t10 c2_0 c2_1 c2_2 c2_3 l121 l122
def n_zr_0 (F : Nat) (Q : List Face → Int → Prop) (t5 : Int) (t6 : List Frr) (t10 : Int) (c2_0 c2_1 c2_2 : List Rect) (c2_3 : List Bend) (l121 : List Rect) (l122 : List Face) : Prop := w_zr_0 F (fun t5 t6 t10 c2_0 c2_1 c2_2 c2_3 l121 l122 => g_zr_c0_0 Q t5 t6 t10 c2_0 c2_1 c2_2 c2_3 l121 l122) (fun t5 t6 t10 c2_0 c2_1 c2_2 c2_3 l121 l122 => g_zr_c0_1 Q t5 t6 t10 c2_0 c2_1 c2_2 c2_3 l121 l122) F t5 t6 t10 c2_0 c2_1 c2_2 c2_3 l121 l122
def w_zr (F : Nat) (qa qc qd : List Rect) (qb : List Bend) (a1 : Int) (Q : List Face → Int → Prop) : Prop := g_zr_e qa qc qd qb a1 Q (n_zr_0 F Q)
end
end Go.Proofs.YteffpgliiilnjaaGreatDoor
namespace Go.Proofs.YteffpgliiilnjaaGreatDoor
open Go.Vm Go.RowKit
set_option linter.unusedVariables false
noncomputable section
def faceF (p : Frm) : Face := Face.mk p.qaw p.qax p.qay p.qaq p.qar p.qas p.qat p.qau p.qav p.Face_W p.Face_H
def holeF (p : Frm) (r : Rect) : Face :=
  let z := sp_zg p.qaw p.qax p.qay p.qaq p.qar p.qas p.qat p.qau p.qav p.Face_W p.Face_H p.begin_X p.begin_Y p.u_X p.u_Y p.v_X p.v_Y p.ahead r.X r.Y r.W r.H
  Face.mk z.1 z.2.1 z.2.2.1 z.2.2.2.1 z.2.2.2.2.1 z.2.2.2.2.2.1 z.2.2.2.2.2.2.1 z.2.2.2.2.2.2.2.1 z.2.2.2.2.2.2.2.2.1 z.2.2.2.2.2.2.2.2.2.1 z.2.2.2.2.2.2.2.2.2.2
def holdI (R : List Rect) (r : Rect) : Int := sp_ixf2 R r.X r.Y r.W r.H
def holesL (R : List Rect) (fs : List Frm) : List Rect → Option (List Face)
  | [] => some []
  | r :: l => cond (decide (holdI R r < 0)) none ((holesL R fs l).map (holeF (fs.getD (holdI R r).toNat default) r :: ·))
def foldS (R C M : List Rect) (B : List Bend) (k : Int) : List Face × Int := cond (err8 R C M B k != 0) ([], err8 R C M B k) ((frs R B k B.length).map faceF, 0)
def endH : Option (List Face) → List Face × Int
  | none => ([], 6)
  | some l => (l, 0)
def holesS (R C M : List Rect) (B : List Bend) (k : Int) : List Face × Int := cond (err8 R C M B k != 0) ([], err8 R C M B k) (endH (holesL R (frs R B k B.length) (C ++ M)))
def pre_zai (R C M : List Rect) (B : List Bend) (k : Int) : Prop := sI B
def pre_zbq (R C M : List Rect) (B : List Bend) (k : Int) : Prop := sI B
def pre_zk (R C M : List Rect) (B : List Bend) (k : Int) : Prop := sI B
def pre_zr (R C M : List Rect) (B : List Bend) (k : Int) : Prop := sI B
def sp_zai (R C M : List Rect) (B : List Bend) (k : Int) : List Face × Int := foldS R C M B k
def sp_zbq (R C M : List Rect) (B : List Bend) (k : Int) : List Face × Int := foldS R C M B k
def sp_zk (R C M : List Rect) (B : List Bend) (k : Int) : List Face × Int := holesS R C M B k
def sp_zr (R C M : List Rect) (B : List Bend) (k : Int) : List Face × Int := holesS R C M B k
theorem err8_ok {R C M : List Rect} {B : List Bend} {k : Int} (h : (err8 R C M B k != 0) = false) : wholeB R C M B = true ∧ (R.length = B.length + 1 ∧ B.length ≤ 5) ∧ (∀ j, j < B.length → badBend B j = false) ∧ wrongB R B k = false ∧ shapes R B = true := by
  unfold err8 at h
  cases hw : wholeB R C M B with
  | false => rw [hw] at h; cases h
  | true =>
  rw [hw] at h
  have wf := whole_facts hw
  cases hh : wrongB R B k with
  | true => rw [hh] at h; cases h
  | false =>
  rw [hh] at h
  cases hs : shapes R B with
  | false => rw [hs] at h; cases h
  | true =>
  unfold wrongB at hh
  rw [Bool.or_eq_false_iff] at hh
  refine ⟨rfl, head_facts wf.1 wf.2.1 hh.1, fun j hj => ?_, rfl, rfl⟩
  have := hh.2
  simp only [Bool.not_eq_false', List.all_eq_true, List.mem_range, Bool.not_eq_true'] at this
  exact this j hj
theorem rframes_eq (R C M : List Rect) (B : List Bend) (k : Int) : sp_zaq R C M B k = cond (err8 R C M B k != 0) ([], err8 R C M B k) ((frs R B k B.length).map toR, 0) := by
  unfold sp_zaq err8
  cases wholeB R C M B <;> cases wrongB R B k <;> cases shapes R B <;> rfl
theorem map_loop {α β : Type} [Inhabited α] (l : List α) (f : α → β) (V : Nat → Int → List β → Prop)
    (hs : ∀ (n i : Nat) (o : List β), i < l.length → o.length = i → V n ((i + 1 : Nat) : Int) (o ++ [f (l.getD i default)]) → V (n + 1) (i : Int) o) (he : ∀ n, V (n + 1) (l.length : Int) (l.map f)) :
    ∀ n i : Nat, i ≤ l.length → l.length < n + i → V n (i : Int) ((l.take i).map f) := by
  intro n
  induction n with
  | zero => intro i h1 h2; omega
  | succ n ih =>
    intro i h1 h2
    by_cases h : i < l.length
    · refine hs n i _ h (by simp; omega) ?_
      have e : (l.take i).map f ++ [f (l.getD i default)] = (l.take (i + 1)).map f := by
        rw [List.take_add_one, List.map_append]
        simp [List.getD, h]
      rw [e]
      exact ih (i + 1) (by omega) (by omega)
    · have e : i = l.length := by omega
      subst e
      rw [List.take_length]
      exact he n
theorem ok_zai (qa qc qd : List Rect) (qb : List Bend) (a1 : Int) (h : pre_zai qa qc qd qb a1) : ∃ F, ∀ Q : List Face → Int → Prop, Q ((sp_zai qa qc qd qb a1).1) ((sp_zai qa qc qd qb a1).2) → w_zai F qa qc qd qb a1 Q := by
  refine ⟨100, fun Q hQ => ?_⟩
  unfold w_zai g_zai_e
  unfold sp_zai foldS at hQ
  refine ⟨h, ?_⟩
  show cond (err8 qa qc qd qb a1 != 0) (Q [] (err8 qa qc qd qb a1)) _
  cases he : (err8 qa qc qd qb a1 != 0) with
  | true =>
    rw [he] at hQ
    exact hQ
  | false =>
  rw [he] at hQ
  have ef := err8_ok he
  refine ⟨⟨ef.2.1.1, ef.2.1.2, ef.2.2.1⟩, ?_⟩
  have hL := frs_len qa qb a1 qb.length
  show n_zai_0 100 Q ((frs qa qb a1 qb.length).length : Int) 0 (frs qa qb a1 qb.length) []
  have hf : (frs qa qb a1 qb.length).length ≤ 6 := by omega
  generalize frs qa qb a1 qb.length = fs at hf hQ ⊢
  refine map_loop fs faceF (fun n i o => w_zai_0 100 (fun t19 t20 l31 l32 => g_zai_c0_0 Q t19 t20 l31 l32) n fs.length i fs o) (fun n i o hi ho hV => ?_) (fun n => ?_) 100 0 (by omega) (by omega)
  · unfold w_zai_0 g_zai_s0
    rw [dec_t (show (i : Int) < fs.length by omega), cond_true, w64_succ hi (by omega), Int.toNat_natCast]
    exact ⟨⟨by omega, by omega⟩, by simp only [List.length_cons, List.length_nil]; omega, hV⟩
  · unfold w_zai_0 g_zai_s0
    rw [dec_f (by omega), cond_false]
    exact hQ
theorem ok_zbq (qa qc qd : List Rect) (qb : List Bend) (a1 : Int) (h : pre_zbq qa qc qd qb a1) : ∃ F, ∀ Q : List Face → Int → Prop, Q ((sp_zbq qa qc qd qb a1).1) ((sp_zbq qa qc qd qb a1).2) → w_zbq F qa qc qd qb a1 Q := by
  refine ⟨100, fun Q hQ => ?_⟩
  unfold w_zbq g_zbq_e
  unfold sp_zbq foldS at hQ
  refine ⟨h, ?_⟩
  rw [rframes_eq]
  cases he : (err8 qa qc qd qb a1 != 0) with
  | true =>
    rw [he] at hQ
    simp only [cond_true, he]
    exact hQ
  | false =>
  rw [he] at hQ
  have ef := err8_ok he
  have hL := frs_len qa qb a1 qb.length
  show n_zbq_0 100 Q ((frs qa qb a1 qb.length).map toR) 0 []
  have hf : (frs qa qb a1 qb.length).length ≤ 6 := by omega
  generalize frs qa qb a1 qb.length = fs at hf hQ ⊢
  have hm : (fs.map toR).length = fs.length := List.length_map ..
  refine map_loop fs faceF (fun n i o => w_zbq_0 100 (fun t6 t9 l34 => g_zbq_c0_0 Q t6 t9 l34) n (fs.map toR) i o) (fun n i o hi ho hV => ?_) (fun n => ?_) 100 0 (by omega) (by omega)
  · unfold w_zbq_0 g_zbq_s0
    rw [dec_t (show (i : Int) < (fs.map toR).length by omega), cond_true, w64_succ hi (by omega), Int.toNat_natCast, getD_map fs i hi]
    exact ⟨⟨⟨by omega, by omega⟩, by simp only [List.length_cons, List.length_nil]; omega⟩, hV⟩
  · unfold w_zbq_0 g_zbq_s0
    rw [dec_f (by omega), cond_false]
    exact hQ
theorem idxI_lt {α : Type} (p : α → Bool) : ∀ (l : List α) (i : Int), idxI p l i = -1 ∨ (i ≤ idxI p l i ∧ idxI p l i < i + l.length)
  | [], i => .inl rfl
  | x :: r, i => by
    unfold idxI
    cases p x with
    | true => exact .inr ⟨by simp, by simp only [cond_true, List.length_cons]; omega⟩
    | false =>
      rcases idxI_lt p r (i + 1) with h | h
      · exact .inl h
      · exact .inr ⟨by simp only [cond_false]; omega, by simp only [cond_false, List.length_cons]; omega⟩
theorem holder_eq (R C M : List Rect) (B : List Bend) (r : Rect) : sp_zap R C M B r.X r.Y r.W r.H = holdI R r := by
  unfold sp_zap holdI sp_ixf2 sp_fh1
  congr 1
  funext x
  rw [inside_within]
theorem hole_sum (p : Frm) (r : Rect) :
    (let r2 := sp_zl p.qaw p.qax p.qay p.qaq p.qar p.qas p.qat p.qau p.qav p.Face_W p.Face_H p.begin_X p.begin_Y p.u_X p.u_Y p.v_X p.v_Y p.ahead r.X r.Y
     let r6 := sp_zl p.qaw p.qax p.qay p.qaq p.qar p.qas p.qat p.qau p.qav p.Face_W p.Face_H p.begin_X p.begin_Y p.u_X p.u_Y p.v_X p.v_Y p.ahead (w64 (r.X + r.W)) (w64 (r.Y + r.H))
     let r8 := sp_zbu p.qaw p.qax p.qay (mi r2.1 r6.1) p.qaq p.qar p.qas (mi r2.2 r6.2) p.qat p.qau p.qav
     Face.mk r8.1 r8.2.1 r8.2.2 p.qaq p.qar p.qas p.qat p.qau p.qav (w64 ((ma r2.1 r6.1) - (mi r2.1 r6.1))) (w64 ((ma r2.2 r6.2) - (mi r2.2 r6.2)))) = holeF p r := by
  unfold holeF sp_zg
  dsimp only
  rw [place_sum]
  rfl
theorem hole_loop (R : List Rect) (fs : List Frm) (hs : List Rect) (V : Nat → Int → List Face → Prop) (Q : List Face → Int → Prop)
    (hstep : ∀ (n i : Nat) (o : List Face), i < hs.length → o.length = i → (holdI R (hs.getD i default) < 0 → Q [] 6) → (¬ holdI R (hs.getD i default) < 0 → V n ((i + 1 : Nat) : Int) (o ++ [holeF (fs.getD (holdI R (hs.getD i default)).toNat default) (hs.getD i default)])) → V (n + 1) (i : Int) o)
    (hend : ∀ n o, Q o 0 → V (n + 1) (hs.length : Int) o) :
    ∀ (n i : Nat) (o : List Face), i ≤ hs.length → hs.length < n + i → o.length = i → Q (endH ((holesL R fs (hs.drop i)).map (o ++ ·))).1 (endH ((holesL R fs (hs.drop i)).map (o ++ ·))).2 → V n (i : Int) o := by
  intro n
  induction n with
  | zero => intro i o h1 h2; omega
  | succ n ih =>
    intro i o h1 h2 ho hQ
    by_cases h : i < hs.length
    · rw [drop_getD hs i h] at hQ
      unfold holesL at hQ
      refine hstep n i o h ho (fun q => ?_) (fun q => ?_)
      · rw [dec_t q] at hQ
        exact hQ
      · rw [dec_f q, cond_false] at hQ
        refine ih (i + 1) _ (by omega) (by omega) (by simp [ho]) ?_
        cases hh : holesL R fs (hs.drop (i + 1)) with
        | none =>
          rw [hh] at hQ
          exact hQ
        | some m =>
          rw [hh] at hQ
          have e : (o ++ [holeF (fs.getD (holdI R (hs.getD i default)).toNat default) (hs.getD i default)]) ++ m = o ++ holeF (fs.getD (holdI R (hs.getD i default)).toNat default) (hs.getD i default) :: m := by simp
          show Q ((o ++ [holeF (fs.getD (holdI R (hs.getD i default)).toNat default) (hs.getD i default)]) ++ m) 0
          rw [e]
          exact hQ
    · have e : i = hs.length := by omega
      subst e
      rw [List.drop_length] at hQ
      refine hend n o ?_
      have e : (endH ((holesL R fs []).map (o ++ ·))) = (o, 0) := by simp [holesL, endH]
      rw [e] at hQ
      exact hQ
theorem hold_lt (R : List Rect) (r : Rect) : ¬ holdI R r < 0 → 0 ≤ holdI R r ∧ holdI R r < R.length := fun h => by
  rcases idxI_lt (fun x : Rect => sp_fh1 x.X x.Y x.W x.H r.X r.Y r.W r.H) R 0 with q | q
  · exfalso
    apply h
    show idxI _ R 0 < 0
    rw [q]
    decide
  · have : holdI R r < 0 + R.length := q.2
    exact ⟨by omega, by omega⟩
theorem ok_zk (qa qc qd : List Rect) (qb : List Bend) (a1 : Int) (h : pre_zk qa qc qd qb a1) : ∃ F, ∀ Q : List Face → Int → Prop, Q ((sp_zk qa qc qd qb a1).1) ((sp_zk qa qc qd qb a1).2) → w_zk F qa qc qd qb a1 Q := by
  refine ⟨200, fun Q hQ => ?_⟩
  unfold w_zk g_zk_e
  unfold sp_zk holesS at hQ
  refine ⟨h, ?_⟩
  show cond (err8 qa qc qd qb a1 != 0) (Q [] (err8 qa qc qd qb a1)) _
  cases he : (err8 qa qc qd qb a1 != 0) with
  | true =>
    rw [he] at hQ
    exact hQ
  | false =>
  rw [he] at hQ
  have ef := err8_ok he
  have wf := whole_facts ef.1
  have hcm : ([qc, qd] : List (List Rect)).flatten = qc ++ qd := by simp
  have hlen : (qc ++ qd).length ≤ 96 := by rw [List.length_append]; omega
  refine ⟨⟨ef.2.1.1, ef.2.1.2, ef.2.2.1⟩, ⟨by rw [hcm]; omega, show 2 ≤ 1000 by decide⟩, ?_⟩
  show n_zk_0 200 Q 0 ((([qc, qd] : List (List Rect)).flatten).length : Int) 0 qa qc qd qb (frs qa qb a1 qb.length) (([qc, qd] : List (List Rect)).flatten) []
  rw [hcm]
  have hL := frs_len qa qb a1 qb.length
  generalize frs qa qb a1 qb.length = fs at hL hQ ⊢
  generalize hhs : qc ++ qd = hs at hlen hQ ⊢
  refine hole_loop qa fs hs (fun n i o => w_zk_0 200 (fun t5 t27 t28 c2_0 c2_1 c2_2 c2_3 l49 l50 l51 => g_zk_c0_0 Q t5 t27 t28 c2_0 c2_1 c2_2 c2_3 l49 l50 l51) (fun t5 t27 t28 c2_0 c2_1 c2_2 c2_3 l49 l50 l51 => g_zk_c0_1 Q t5 t27 t28 c2_0 c2_1 c2_2 c2_3 l49 l50 l51) n 0 hs.length i qa qc qd qb fs hs o) Q (fun n i o hi ho hX hV => ?_) (fun n o hq => ?_) 200 0 [] (by omega) (by omega) rfl ?_
  · unfold w_zk_0 g_zk_s0
    rw [dec_t (show (i : Int) < hs.length by omega), cond_true, w64_succ hi (by omega), Int.toNat_natCast]
    refine ⟨⟨by omega, by omega⟩, show qa.length ≤ 1000000 by omega, ?_⟩
    show cond (decide (holdI qa (hs.getD i default) < 0)) _ _
    by_cases hh : holdI qa (hs.getD i default) < 0
    · rw [dec_t hh]
      exact hX hh
    · have hl := hold_lt _ _ hh
      have hb : holdI qa (hs.getD i default) < (fs.length : Int) := by rw [hL]; have := hl.2; have := ef.2.1.1; omega
      rw [dec_f hh, cond_false]
      refine ⟨⟨hl.1, hb⟩, by simp only [List.length_cons, List.length_nil]; omega, ?_⟩
      exact hV hh
  · unfold w_zk_0 g_zk_s0
    rw [dec_f (by omega), cond_false]
    exact hq
  · rw [List.drop_zero]
    have e : (holesL qa fs hs).map (([] : List Face) ++ ·) = holesL qa fs hs := by cases holesL qa fs hs <;> rfl
    rw [e]
    exact hQ
theorem ok_zr (qa qc qd : List Rect) (qb : List Bend) (a1 : Int) (h : pre_zr qa qc qd qb a1) : ∃ F, ∀ Q : List Face → Int → Prop, Q ((sp_zr qa qc qd qb a1).1) ((sp_zr qa qc qd qb a1).2) → w_zr F qa qc qd qb a1 Q := by
  refine ⟨200, fun Q hQ => ?_⟩
  unfold w_zr g_zr_e
  unfold sp_zr holesS at hQ
  refine ⟨h, ?_⟩
  rw [rframes_eq]
  cases he : (err8 qa qc qd qb a1 != 0) with
  | true =>
    rw [he] at hQ
    simp only [cond_true, he]
    exact hQ
  | false =>
  rw [he] at hQ
  have ef := err8_ok he
  have wf := whole_facts ef.1
  have hcm : (([] : List Rect) ++ qc) ++ qd = qc ++ qd := rfl
  have hlen : (qc ++ qd).length ≤ 96 := by rw [List.length_append]; omega
  refine ⟨by simp only [List.length_nil]; omega, by simp only [List.nil_append]; omega, ?_⟩
  have hL := frs_len qa qb a1 qb.length
  show n_zr_0 200 Q 0 ((frs qa qb a1 qb.length).map toR) 0 qa qc qd qb (qc ++ qd) []
  generalize frs qa qb a1 qb.length = fs at hL hQ ⊢
  generalize hhs : qc ++ qd = hs at hlen hQ ⊢
  have hm : (fs.map toR).length = fs.length := List.length_map ..
  refine hole_loop qa fs hs (fun n i o => w_zr_0 200 (fun t5 t6 t10 c2_0 c2_1 c2_2 c2_3 l121 l122 => g_zr_c0_0 Q t5 t6 t10 c2_0 c2_1 c2_2 c2_3 l121 l122) (fun t5 t6 t10 c2_0 c2_1 c2_2 c2_3 l121 l122 => g_zr_c0_1 Q t5 t6 t10 c2_0 c2_1 c2_2 c2_3 l121 l122) n 0 (fs.map toR) i qa qc qd qb hs o) Q (fun n i o hi ho hX hV => ?_) (fun n o hq => ?_) 200 0 [] (by omega) (by omega) rfl ?_
  · unfold w_zr_0 g_zr_s0
    rw [dec_t (show (i : Int) < hs.length by omega), cond_true, w64_succ hi (by omega), Int.toNat_natCast]
    refine ⟨⟨by omega, by omega⟩, show qa.length ≤ 1000000 by omega, ?_⟩
    rw [holder_eq]
    by_cases hh : holdI qa (hs.getD i default) < 0
    · rw [dec_t hh]
      exact hX hh
    · have hl := hold_lt _ _ hh
      have hb : holdI qa (hs.getD i default) < ((fs.map toR).length : Int) := by rw [hm, hL]; have := hl.2; have := ef.2.1.1; omega
      have hg := getD_map fs (holdI qa (hs.getD i default)).toNat (by have := hl.1; omega)
      rw [dec_f hh, cond_false, hg]
      have key := hV hh
      rw [← hole_sum] at key
      exact ⟨⟨hl.1, hb⟩, ⟨hl.1, hb⟩, ⟨hl.1, hb⟩, by simp only [List.length_cons, List.length_nil]; omega, key⟩
  · unfold w_zr_0 g_zr_s0
    rw [dec_f (by omega), cond_false]
    exact hq
  · rw [List.drop_zero]
    have e : (holesL qa fs hs).map (([] : List Face) ++ ·) = holesL qa fs hs := by cases holesL qa fs hs <;> rfl
    rw [e]
    exact hQ
theorem holesL_len (R : List Rect) (fs : List Frm) : ∀ (l : List Rect) (m : List Face), holesL R fs l = some m → m.length = l.length
  | [], m, h => by cases h; rfl
  | r :: l, m, h => by
    unfold holesL at h
    cases hd : decide (holdI R r < 0) with
    | true => rw [hd] at h; cases h
    | false =>
      rw [hd, cond_false] at h
      cases hh : holesL R fs l with
      | none => rw [hh] at h; cases h
      | some m' =>
        rw [hh] at h
        cases h
        rw [List.length_cons, List.length_cons, holesL_len R fs l m' hh]
theorem foldS_len (R C M : List Rect) (B : List Bend) (k : Int) : (foldS R C M B k).1.length ≤ 1000000 := by
  unfold foldS
  cases he : (err8 R C M B k != 0) with
  | true => simp
  | false =>
    have ef := err8_ok he
    rw [cond_false, List.length_map, frs_len]
    omega
theorem holesS_len (R C M : List Rect) (B : List Bend) (k : Int) : (holesS R C M B k).1.length ≤ 1000000 := by
  unfold holesS
  cases he : (err8 R C M B k != 0) with
  | true => simp
  | false =>
    have ef := err8_ok he
    have wf := whole_facts ef.1
    rw [cond_false]
    cases hh : holesL R (frs R B k B.length) (C ++ M) with
    | none => simp [endH]
    | some m =>
      show m.length ≤ 1000000
      rw [holesL_len _ _ _ _ hh, List.length_append]
      omega
end
end Go.Proofs.YteffpgliiilnjaaGreatDoor
namespace Go.Proofs.YteffpgliiilnjaaGreatDoor
open Go.Vm Go.RowKit
set_option linter.unusedVariables false
noncomputable section
def M_zf : Nat → Nat → Nat → Canon UU := fun o b r => ⟨[], [], [], [], []⟩
def g_zf_e (qa qc qd : List Rect) (qb : List Bend) (a1 : Int) (Q : Bool → Prop) : Prop := (let r0 := (sp_zai qa qc qd qb a1); ((pre_zai qa qc qd qb a1) ∧ (let r1 := (sp_zbq qa qc qd qb a1); ((pre_zbq qa qc qd qb a1) ∧ (let r2 := (sp_zk qa qc qd qb a1); ((pre_zk qa qc qd qb a1) ∧ (let r3 := (sp_zr qa qc qd qb a1); ((pre_zr qa qc qd qb a1) ∧ ((((r0.2 == r1.2) = true → pre_zv r0.1 r1.1) ∧ ((((r0.2 == r1.2) && (sp_zv r0.1 r1.1)) && (r2.2 == r3.2)) = true → pre_zv r2.1 r3.1)) ∧ Q (((((r0.2 == r1.2) && (sp_zv r0.1 r1.1)) && (r2.2 == r3.2)) && (sp_zv r2.1 r3.1)) && sp_zbb))))))))))
def w_zf (F : Nat) (qa qc qd : List Rect) (qb : List Bend) (a1 : Int) (Q : Bool → Prop) : Prop := g_zf_e qa qc qd qb a1 Q
end
end Go.Proofs.YteffpgliiilnjaaGreatDoor
namespace Go.Proofs.YteffpgliiilnjaaGreatDoor
open Go.Vm Go.RowKit
set_option linter.unusedVariables false
noncomputable section
theorem law_folds (R C M : List Rect) (B : List Bend) (k : Int) (h : sI B) : w_zf 1 R C M B k fun r => r = true := by
  refine ⟨h, h, h, h, ⟨fun _ => ⟨foldS_len R C M B k, rfl⟩, fun _ => ⟨holesS_len R C M B k, rfl⟩⟩, ?_⟩
  show (((((foldS R C M B k).2 == (foldS R C M B k).2) && true) && ((holesS R C M B k).2 == (holesS R C M B k).2)) && true) && true = true
  simp
end
end Go.Proofs.YteffpgliiilnjaaGreatDoor
namespace Go.Proofs.YteffpgliiilnjaaGreatDoor
open Go.Vm Go.RowKit
set_option linter.unusedVariables false
set_option maxRecDepth 100000
noncomputable section
theorem entry_zbi (F : Nat) (Post : AVal UU → Prop) (a0 a1 : Int) : exec C_lib Tryz.f132.ntmps M_zbi F 0 (bo Tryz.f132) (initSt [.int .i64 a0, .int .i64 a1]) (AEnds C_lib false Tryz.f132 Post) = g_zbi_e a0 a1 (fun r0 => Post (.bool r0)) := by kernel_rfl
theorem exec_zbi (F : Nat) (Post : AVal UU → Prop) (a0 a1 : Int) : exec C_lib Tryz.f132.ntmps M_zbi F 0 (bo Tryz.f132) (initSt [.int .i64 a0, .int .i64 a1]) (AEnds C_lib false Tryz.f132 Post) = w_zbi F a0 a1 (fun r0 => Post (.bool r0)) := by
  rw [entry_zbi]
  rfl
def m_zbi : Model UU
  | [.int .i64 a0, .int .i64 a1] => some ([], .bool (sp_zbi a0 a1))
  | _ => none
def C_zbi : Cfg UU := C_lib.add 132 m_zbi
theorem s_zbi : SumOK C_zbi := by
  refine s_lib.addD mixed (fn := Tryz.f132) (c := bo Tryz.f132) Tryz.func132 (by kernel_rfl) (by kernel_rfl) ?_
  intro xs cs r h hc
  unfold m_zbi at h
  split at h
  · rename_i a0 a1
    cases h
    obtain ⟨F, hF⟩ := ok_zbi a0 a1
    refine ⟨by kernel_rfl, M_zbi, F, false, ⟨?_⟩⟩
    rw [exec_zbi]
    refine hF _ ?_
    rfl
  · cases h
theorem entry_zbp (F : Nat) (Post : AVal UU → Prop) (a0 : Int) : exec C_zbi Tryz.f143.ntmps M_zbp F 0 (bo Tryz.f143) (initSt [.int .i64 a0]) (AEnds C_zbi false Tryz.f143 Post) = g_zbp_e a0 (fun r0 => Post (.bool r0)) := by kernel_rfl
theorem exec_zbp (F : Nat) (Post : AVal UU → Prop) (a0 : Int) : exec C_zbi Tryz.f143.ntmps M_zbp F 0 (bo Tryz.f143) (initSt [.int .i64 a0]) (AEnds C_zbi false Tryz.f143 Post) = w_zbp F a0 (fun r0 => Post (.bool r0)) := by
  rw [entry_zbp]
  rfl
def m_zbp : Model UU
  | [.int .i64 a0] => some ([], .bool (sp_zbp a0))
  | _ => none
def C_zbp : Cfg UU := C_zbi.add 143 m_zbp
theorem s_zbp : SumOK C_zbp := by
  refine s_zbi.addD mixed (fn := Tryz.f143) (c := bo Tryz.f143) Tryz.func143 (by kernel_rfl) (by kernel_rfl) ?_
  intro xs cs r h hc
  unfold m_zbp at h
  split at h
  · rename_i a0
    cases h
    obtain ⟨F, hF⟩ := ok_zbp a0
    refine ⟨by kernel_rfl, M_zbp, F, false, ⟨?_⟩⟩
    rw [exec_zbp]
    refine hF _ ?_
    rfl
  · cases h
theorem entry_zbs (F : Nat) (Post : AVal UU → Prop) (a0 a1 a2 : Int) : exec C_zbp Tryz.f78.ntmps M_zbs F 0 (bo Tryz.f78) (initSt [.int .i64 a0, .int .i64 a1, .int .i64 a2]) (AEnds C_zbp false Tryz.f78 Post) = g_zbs_e a0 a1 a2 (fun r0 => Post (.bool r0)) := by kernel_rfl
theorem exec_zbs (F : Nat) (Post : AVal UU → Prop) (a0 a1 a2 : Int) : exec C_zbp Tryz.f78.ntmps M_zbs F 0 (bo Tryz.f78) (initSt [.int .i64 a0, .int .i64 a1, .int .i64 a2]) (AEnds C_zbp false Tryz.f78 Post) = w_zbs F a0 a1 a2 (fun r0 => Post (.bool r0)) := by
  rw [entry_zbs]
  rfl
def m_zbs : Model UU
  | [.int .i64 a0, .int .i64 a1, .int .i64 a2] => some ([], .bool (sp_zbs a0 a1 a2))
  | _ => none
def C_zbs : Cfg UU := C_zbp.add 78 m_zbs
theorem s_zbs : SumOK C_zbs := by
  refine s_zbp.addD mixed (fn := Tryz.f78) (c := bo Tryz.f78) Tryz.func78 (by kernel_rfl) (by kernel_rfl) ?_
  intro xs cs r h hc
  unfold m_zbs at h
  split at h
  · rename_i a0 a1 a2
    cases h
    obtain ⟨F, hF⟩ := ok_zbs a0 a1 a2
    refine ⟨by kernel_rfl, M_zbs, F, false, ⟨?_⟩⟩
    rw [exec_zbs]
    refine hF _ ?_
    rfl
  · cases h
theorem entry_zt (F : Nat) (Post : AVal UU → Prop) (qr qs : ByteArray) (qt qu ql qm : Int) (qk qo : List Rect) (a1 a2 : Int) : exec C_zbs Tryz.f81.ntmps M_zt F 0 (bo Tryz.f81) (initSt [.agg [.str qr, .str qs, .int .i64 qt, .int .i64 qu, .int .i64 ql, .int .i64 qm, .sl .rect qk, .sl .rect qo], .int .i64 a1, .int .i64 a2]) (AEnds C_zbs false Tryz.f81 Post) = g_zt_e qr qs qt qu ql qm qk qo a1 a2 (fun r0 => Post (.bool r0)) := by kernel_rfl
theorem exec_zt (F : Nat) (Post : AVal UU → Prop) (qr qs : ByteArray) (qt qu ql qm : Int) (qk qo : List Rect) (a1 a2 : Int) : exec C_zbs Tryz.f81.ntmps M_zt F 0 (bo Tryz.f81) (initSt [.agg [.str qr, .str qs, .int .i64 qt, .int .i64 qu, .int .i64 ql, .int .i64 qm, .sl .rect qk, .sl .rect qo], .int .i64 a1, .int .i64 a2]) (AEnds C_zbs false Tryz.f81 Post) = w_zt F qr qs qt qu ql qm qk qo a1 a2 (fun r0 => Post (.bool r0)) := by
  rw [entry_zt]
  rfl
def m_zt : Model UU
  | [.agg [.str qr, .str qs, .int .i64 qt, .int .i64 qu, .int .i64 ql, .int .i64 qm, .sl .rect qk, .sl .rect qo], .int .i64 a1, .int .i64 a2] => some ([], .bool (sp_zt qr qs qt qu ql qm qk qo a1 a2))
  | _ => none
def C_zt : Cfg UU := C_zbs.add 81 m_zt
theorem s_zt : SumOK C_zt := by
  refine s_zbs.addD mixed (fn := Tryz.f81) (c := bo Tryz.f81) Tryz.func81 (by kernel_rfl) (by kernel_rfl) ?_
  intro xs cs r h hc
  unfold m_zt at h
  split at h
  · rename_i qr qs qt qu ql qm qk qo a1 a2
    cases h
    obtain ⟨F, hF⟩ := ok_zt qr qs qt qu ql qm qk qo a1 a2
    refine ⟨by kernel_rfl, M_zt, F, false, ⟨?_⟩⟩
    rw [exec_zt]
    refine hF _ ?_
    rfl
  · cases h
theorem entry_zao (F : Nat) (Post : AVal UU → Prop) (a0 a1 a2 a3 : Int) : exec C_zt Tryz.f82.ntmps M_zao F 0 (bo Tryz.f82) (initSt [.int .i64 a0, .int .i64 a1, .int .i64 a2, .int .i64 a3]) (AEnds C_zt false Tryz.f82 Post) = g_zao_e a0 a1 a2 a3 (fun r0_X1 r0_Y1 r0_X2 r0_Y2 => Post (.agg [.int .i64 r0_X1, .int .i64 r0_Y1, .int .i64 r0_X2, .int .i64 r0_Y2])) := by kernel_rfl
theorem exec_zao (F : Nat) (Post : AVal UU → Prop) (a0 a1 a2 a3 : Int) : exec C_zt Tryz.f82.ntmps M_zao F 0 (bo Tryz.f82) (initSt [.int .i64 a0, .int .i64 a1, .int .i64 a2, .int .i64 a3]) (AEnds C_zt false Tryz.f82 Post) = w_zao F a0 a1 a2 a3 (fun r0_X1 r0_Y1 r0_X2 r0_Y2 => Post (.agg [.int .i64 r0_X1, .int .i64 r0_Y1, .int .i64 r0_X2, .int .i64 r0_Y2])) := by
  rw [entry_zao]
  rfl
def m_zao : Model UU
  | [.int .i64 a0, .int .i64 a1, .int .i64 a2, .int .i64 a3] => some ([], .agg [.int .i64 ((sp_zao a0 a1 a2 a3).1), .int .i64 ((sp_zao a0 a1 a2 a3).2.1), .int .i64 ((sp_zao a0 a1 a2 a3).2.2.1), .int .i64 ((sp_zao a0 a1 a2 a3).2.2.2)])
  | _ => none
def C_zao : Cfg UU := C_zt.add 82 m_zao
theorem s_zao : SumOK C_zao := by
  refine s_zt.addD mixed (fn := Tryz.f82) (c := bo Tryz.f82) Tryz.func82 (by kernel_rfl) (by kernel_rfl) ?_
  intro xs cs r h hc
  unfold m_zao at h
  split at h
  · rename_i a0 a1 a2 a3
    cases h
    obtain ⟨F, hF⟩ := ok_zao a0 a1 a2 a3
    refine ⟨by kernel_rfl, M_zao, F, false, ⟨?_⟩⟩
    rw [exec_zao]
    refine hF _ ?_
    rfl
  · cases h
theorem entry_zs (F : Nat) (Post : AVal UU → Prop) (qf qe qh qg a1_X a1_Y a1_W a1_H : Int) : exec C_zao Tryz.f85.ntmps M_zs F 0 (bo Tryz.f85) (initSt [.agg [.int .i64 qf, .int .i64 qe, .int .i64 qh, .int .i64 qg], .agg [.int .i64 a1_X, .int .i64 a1_Y, .int .i64 a1_W, .int .i64 a1_H]]) (AEnds C_zao false Tryz.f85 Post) = g_zs_e qf qe qh qg a1_X a1_Y a1_W a1_H (fun r0 => Post (.bool r0)) := by kernel_rfl
theorem exec_zs (F : Nat) (Post : AVal UU → Prop) (qf qe qh qg a1_X a1_Y a1_W a1_H : Int) : exec C_zao Tryz.f85.ntmps M_zs F 0 (bo Tryz.f85) (initSt [.agg [.int .i64 qf, .int .i64 qe, .int .i64 qh, .int .i64 qg], .agg [.int .i64 a1_X, .int .i64 a1_Y, .int .i64 a1_W, .int .i64 a1_H]]) (AEnds C_zao false Tryz.f85 Post) = w_zs F qf qe qh qg a1_X a1_Y a1_W a1_H (fun r0 => Post (.bool r0)) := by
  rw [entry_zs]
  rfl
def m_zs : Model UU
  | [.agg [.int .i64 qf, .int .i64 qe, .int .i64 qh, .int .i64 qg], .agg [.int .i64 a1_X, .int .i64 a1_Y, .int .i64 a1_W, .int .i64 a1_H]] => some ([], .bool (sp_zs qf qe qh qg a1_X a1_Y a1_W a1_H))
  | _ => none
def C_zs : Cfg UU := C_zao.add 85 m_zs
theorem s_zs : SumOK C_zs := by
  refine s_zao.addD mixed (fn := Tryz.f85) (c := bo Tryz.f85) Tryz.func85 (by kernel_rfl) (by kernel_rfl) ?_
  intro xs cs r h hc
  unfold m_zs at h
  split at h
  · rename_i qf qe qh qg a1_X a1_Y a1_W a1_H
    cases h
    obtain ⟨F, hF⟩ := ok_zs qf qe qh qg a1_X a1_Y a1_W a1_H
    refine ⟨by kernel_rfl, M_zs, F, false, ⟨?_⟩⟩
    rw [exec_zs]
    refine hF _ ?_
    rfl
  · cases h
theorem entry_zbn (F : Nat) (Post : AVal UU → Prop) (qf qe qh qg qj qi qq qp : Int) : exec C_zs Tryz.f94.ntmps M_zbn F 0 (bo Tryz.f94) (initSt [.agg [.int .i64 qf, .int .i64 qe, .int .i64 qh, .int .i64 qg], .agg [.int .i64 qj, .int .i64 qi, .int .i64 qq, .int .i64 qp]]) (AEnds C_zs false Tryz.f94 Post) = g_zbn_e qf qe qh qg qj qi qq qp (fun r0 => Post (.bool r0)) := by kernel_rfl
theorem exec_zbn (F : Nat) (Post : AVal UU → Prop) (qf qe qh qg qj qi qq qp : Int) : exec C_zs Tryz.f94.ntmps M_zbn F 0 (bo Tryz.f94) (initSt [.agg [.int .i64 qf, .int .i64 qe, .int .i64 qh, .int .i64 qg], .agg [.int .i64 qj, .int .i64 qi, .int .i64 qq, .int .i64 qp]]) (AEnds C_zs false Tryz.f94 Post) = w_zbn F qf qe qh qg qj qi qq qp (fun r0 => Post (.bool r0)) := by
  rw [entry_zbn]
  rfl
def m_zbn : Model UU
  | [.agg [.int .i64 qf, .int .i64 qe, .int .i64 qh, .int .i64 qg], .agg [.int .i64 qj, .int .i64 qi, .int .i64 qq, .int .i64 qp]] => some ([], .bool (sp_zbn qf qe qh qg qj qi qq qp))
  | _ => none
def C_zbn : Cfg UU := C_zs.add 94 m_zbn
theorem s_zbn : SumOK C_zbn := by
  refine s_zs.addD mixed (fn := Tryz.f94) (c := bo Tryz.f94) Tryz.func94 (by kernel_rfl) (by kernel_rfl) ?_
  intro xs cs r h hc
  unfold m_zbn at h
  split at h
  · rename_i qf qe qh qg qj qi qq qp
    cases h
    obtain ⟨F, hF⟩ := ok_zbn qf qe qh qg qj qi qq qp
    refine ⟨by kernel_rfl, M_zbn, F, false, ⟨?_⟩⟩
    rw [exec_zbn]
    refine hF _ ?_
    rfl
  · cases h
theorem entry_zaw (F : Nat) (Post : AVal UU → Prop) (qf qe qh qg qj qi qq qp : Int) : exec C_zbn Tryz.f95.ntmps M_zaw F 0 (bo Tryz.f95) (initSt [.agg [.int .i64 qf, .int .i64 qe, .int .i64 qh, .int .i64 qg], .agg [.int .i64 qj, .int .i64 qi, .int .i64 qq, .int .i64 qp]]) (AEnds C_zbn false Tryz.f95 Post) = g_zaw_e qf qe qh qg qj qi qq qp (fun r0 => Post (.bool r0)) := by kernel_rfl
theorem exec_zaw (F : Nat) (Post : AVal UU → Prop) (qf qe qh qg qj qi qq qp : Int) : exec C_zbn Tryz.f95.ntmps M_zaw F 0 (bo Tryz.f95) (initSt [.agg [.int .i64 qf, .int .i64 qe, .int .i64 qh, .int .i64 qg], .agg [.int .i64 qj, .int .i64 qi, .int .i64 qq, .int .i64 qp]]) (AEnds C_zbn false Tryz.f95 Post) = w_zaw F qf qe qh qg qj qi qq qp (fun r0 => Post (.bool r0)) := by
  rw [entry_zaw]
  rfl
def m_zaw : Model UU
  | [.agg [.int .i64 qf, .int .i64 qe, .int .i64 qh, .int .i64 qg], .agg [.int .i64 qj, .int .i64 qi, .int .i64 qq, .int .i64 qp]] => some ([], .bool (sp_zaw qf qe qh qg qj qi qq qp))
  | _ => none
def C_zaw : Cfg UU := C_zbn.add 95 m_zaw
theorem s_zaw : SumOK C_zaw := by
  refine s_zbn.addD mixed (fn := Tryz.f95) (c := bo Tryz.f95) Tryz.func95 (by kernel_rfl) (by kernel_rfl) ?_
  intro xs cs r h hc
  unfold m_zaw at h
  split at h
  · rename_i qf qe qh qg qj qi qq qp
    cases h
    obtain ⟨F, hF⟩ := ok_zaw qf qe qh qg qj qi qq qp
    refine ⟨by kernel_rfl, M_zaw, F, false, ⟨?_⟩⟩
    rw [exec_zaw]
    refine hF _ ?_
    rfl
  · cases h
theorem entry_zaf (F : Nat) (Post : AVal UU → Prop) (qn a0_X a0_Y a0_W a0_H a0_N a1_X a1_Y : Int) : exec C_zaw Tryz.f56.ntmps M_zaf F 0 (bo Tryz.f56) (initSt [.agg [.int .i64 qn, .int .i64 a0_X, .int .i64 a0_Y, .int .i64 a0_W, .int .i64 a0_H, .int .i64 a0_N], .agg [.int .i64 a1_X, .int .i64 a1_Y]]) (AEnds C_zaw false Tryz.f56 Post) = g_zaf_e qn a0_X a0_Y a0_W a0_H a0_N a1_X a1_Y (fun r0_X r0_Y => Post (.agg [.int .i64 r0_X, .int .i64 r0_Y])) := by kernel_rfl
theorem exec_zaf (F : Nat) (Post : AVal UU → Prop) (qn a0_X a0_Y a0_W a0_H a0_N a1_X a1_Y : Int) : exec C_zaw Tryz.f56.ntmps M_zaf F 0 (bo Tryz.f56) (initSt [.agg [.int .i64 qn, .int .i64 a0_X, .int .i64 a0_Y, .int .i64 a0_W, .int .i64 a0_H, .int .i64 a0_N], .agg [.int .i64 a1_X, .int .i64 a1_Y]]) (AEnds C_zaw false Tryz.f56 Post) = w_zaf F qn a0_X a0_Y a0_W a0_H a0_N a1_X a1_Y (fun r0_X r0_Y => Post (.agg [.int .i64 r0_X, .int .i64 r0_Y])) := by
  rw [entry_zaf]
  rfl
def m_zaf : Model UU
  | [.agg [.int .i64 qn, .int .i64 a0_X, .int .i64 a0_Y, .int .i64 a0_W, .int .i64 a0_H, .int .i64 a0_N], .agg [.int .i64 a1_X, .int .i64 a1_Y]] => some ([], .agg [.int .i64 ((sp_zaf qn a0_X a0_Y a0_W a0_H a0_N a1_X a1_Y).1), .int .i64 ((sp_zaf qn a0_X a0_Y a0_W a0_H a0_N a1_X a1_Y).2)])
  | _ => none
def C_zaf : Cfg UU := C_zaw.add 56 m_zaf
theorem s_zaf : SumOK C_zaf := by
  refine s_zaw.addD mixed (fn := Tryz.f56) (c := bo Tryz.f56) Tryz.func56 (by kernel_rfl) (by kernel_rfl) ?_
  intro xs cs r h hc
  unfold m_zaf at h
  split at h
  · rename_i qn a0_X a0_Y a0_W a0_H a0_N a1_X a1_Y
    cases h
    obtain ⟨F, hF⟩ := ok_zaf qn a0_X a0_Y a0_W a0_H a0_N a1_X a1_Y
    refine ⟨by kernel_rfl, M_zaf, F, false, ⟨?_⟩⟩
    rw [exec_zaf]
    refine hF _ ?_
    rfl
  · cases h
theorem entry_zag (F : Nat) (Post : AVal UU → Prop) (qn a0_X a0_Y a0_W a0_H a0_N : Int) : exec C_zaf Tryz.f52.ntmps M_zag F 0 (bo Tryz.f52) (initSt [.agg [.int .i64 qn, .int .i64 a0_X, .int .i64 a0_Y, .int .i64 a0_W, .int .i64 a0_H, .int .i64 a0_N]]) (AEnds C_zaf false Tryz.f52 Post) = g_zag_e qn a0_X a0_Y a0_W a0_H a0_N (fun r0 => Post (.bool r0)) := by kernel_rfl
theorem exec_zag (F : Nat) (Post : AVal UU → Prop) (qn a0_X a0_Y a0_W a0_H a0_N : Int) : exec C_zaf Tryz.f52.ntmps M_zag F 0 (bo Tryz.f52) (initSt [.agg [.int .i64 qn, .int .i64 a0_X, .int .i64 a0_Y, .int .i64 a0_W, .int .i64 a0_H, .int .i64 a0_N]]) (AEnds C_zaf false Tryz.f52 Post) = w_zag F qn a0_X a0_Y a0_W a0_H a0_N (fun r0 => Post (.bool r0)) := by
  rw [entry_zag]
  rfl
def m_zag : Model UU
  | [.agg [.int .i64 qn, .int .i64 a0_X, .int .i64 a0_Y, .int .i64 a0_W, .int .i64 a0_H, .int .i64 a0_N]] => some ([], .bool (sp_zag qn a0_X a0_Y a0_W a0_H a0_N))
  | _ => none
def C_zag : Cfg UU := C_zaf.add 52 m_zag
theorem s_zag : SumOK C_zag := by
  refine s_zaf.addD mixed (fn := Tryz.f52) (c := bo Tryz.f52) Tryz.func52 (by kernel_rfl) (by kernel_rfl) ?_
  intro xs cs r h hc
  unfold m_zag at h
  split at h
  · rename_i qn a0_X a0_Y a0_W a0_H a0_N
    cases h
    obtain ⟨F, hF⟩ := ok_zag qn a0_X a0_Y a0_W a0_H a0_N
    refine ⟨by kernel_rfl, M_zag, F, false, ⟨?_⟩⟩
    rw [exec_zag]
    refine hF _ ?_
    rfl
  · cases h
theorem entry_zo (F : Nat) (Post : AVal UU → Prop) (a0 a1 : Int) : exec C_zag Tryz.f131.ntmps M_zo F 0 (bo Tryz.f131) (initSt [.int .i64 a0, .int .i64 a1]) (AEnds C_zag false Tryz.f131 Post) = g_zo_e a0 a1 (fun r0 => Post (.bool r0)) := by kernel_rfl
theorem exec_zo (F : Nat) (Post : AVal UU → Prop) (a0 a1 : Int) : exec C_zag Tryz.f131.ntmps M_zo F 0 (bo Tryz.f131) (initSt [.int .i64 a0, .int .i64 a1]) (AEnds C_zag false Tryz.f131 Post) = w_zo F a0 a1 (fun r0 => Post (.bool r0)) := by
  rw [entry_zo]
  rfl
def m_zo : Model UU
  | [.int .i64 a0, .int .i64 a1] => some ([], .bool (sp_zo a0 a1))
  | _ => none
def C_zo : Cfg UU := C_zag.add 131 m_zo
theorem s_zo : SumOK C_zo := by
  refine s_zag.addD mixed (fn := Tryz.f131) (c := bo Tryz.f131) Tryz.func131 (by kernel_rfl) (by kernel_rfl) ?_
  intro xs cs r h hc
  unfold m_zo at h
  split at h
  · rename_i a0 a1
    cases h
    obtain ⟨F, hF⟩ := ok_zo a0 a1
    refine ⟨by kernel_rfl, M_zo, F, false, ⟨?_⟩⟩
    rw [exec_zo]
    refine hF _ ?_
    rfl
  · cases h
theorem entry_zy (F : Nat) (Post : AVal UU → Prop) (a0_X a0_Y a0_W a0_H : Int) : exec C_zo Tryz.f75.ntmps M_zy F 0 (bo Tryz.f75) (initSt [.agg [.int .i64 a0_X, .int .i64 a0_Y, .int .i64 a0_W, .int .i64 a0_H]]) (AEnds C_zo false Tryz.f75 Post) = g_zy_e a0_X a0_Y a0_W a0_H (fun r0 => Post (.bool r0)) := by kernel_rfl
theorem exec_zy (F : Nat) (Post : AVal UU → Prop) (a0_X a0_Y a0_W a0_H : Int) : exec C_zo Tryz.f75.ntmps M_zy F 0 (bo Tryz.f75) (initSt [.agg [.int .i64 a0_X, .int .i64 a0_Y, .int .i64 a0_W, .int .i64 a0_H]]) (AEnds C_zo false Tryz.f75 Post) = w_zy F a0_X a0_Y a0_W a0_H (fun r0 => Post (.bool r0)) := by
  rw [entry_zy]
  rfl
def m_zy : Model UU
  | [.agg [.int .i64 a0_X, .int .i64 a0_Y, .int .i64 a0_W, .int .i64 a0_H]] => some ([], .bool (sp_zy a0_X a0_Y a0_W a0_H))
  | _ => none
def C_zy : Cfg UU := C_zo.add 75 m_zy
theorem s_zy : SumOK C_zy := by
  refine s_zo.addD mixed (fn := Tryz.f75) (c := bo Tryz.f75) Tryz.func75 (by kernel_rfl) (by kernel_rfl) ?_
  intro xs cs r h hc
  unfold m_zy at h
  split at h
  · rename_i a0_X a0_Y a0_W a0_H
    cases h
    obtain ⟨F, hF⟩ := ok_zy a0_X a0_Y a0_W a0_H
    refine ⟨by kernel_rfl, M_zy, F, false, ⟨?_⟩⟩
    rw [exec_zy]
    refine hF _ ?_
    rfl
  · cases h
theorem entry_zaz (F : Nat) (Post : AVal UU → Prop) (a0_X a0_Y a0_W a0_H a1_X a1_Y a1_W a1_H : Int) : exec C_zy Tryz.f46.ntmps M_zaz F 0 (bo Tryz.f46) (initSt [.agg [.int .i64 a0_X, .int .i64 a0_Y, .int .i64 a0_W, .int .i64 a0_H], .agg [.int .i64 a1_X, .int .i64 a1_Y, .int .i64 a1_W, .int .i64 a1_H]]) (AEnds C_zy false Tryz.f46 Post) = g_zaz_e a0_X a0_Y a0_W a0_H a1_X a1_Y a1_W a1_H (fun r0 => Post (.bool r0)) := by kernel_rfl
theorem exec_zaz (F : Nat) (Post : AVal UU → Prop) (a0_X a0_Y a0_W a0_H a1_X a1_Y a1_W a1_H : Int) : exec C_zy Tryz.f46.ntmps M_zaz F 0 (bo Tryz.f46) (initSt [.agg [.int .i64 a0_X, .int .i64 a0_Y, .int .i64 a0_W, .int .i64 a0_H], .agg [.int .i64 a1_X, .int .i64 a1_Y, .int .i64 a1_W, .int .i64 a1_H]]) (AEnds C_zy false Tryz.f46 Post) = w_zaz F a0_X a0_Y a0_W a0_H a1_X a1_Y a1_W a1_H (fun r0 => Post (.bool r0)) := by
  rw [entry_zaz]
  rfl
def m_zaz : Model UU
  | [.agg [.int .i64 a0_X, .int .i64 a0_Y, .int .i64 a0_W, .int .i64 a0_H], .agg [.int .i64 a1_X, .int .i64 a1_Y, .int .i64 a1_W, .int .i64 a1_H]] => some ([], .bool (sp_zaz a0_X a0_Y a0_W a0_H a1_X a1_Y a1_W a1_H))
  | _ => none
def C_zaz : Cfg UU := C_zy.add 46 m_zaz
theorem s_zaz : SumOK C_zaz := by
  refine s_zy.addD mixed (fn := Tryz.f46) (c := bo Tryz.f46) Tryz.func46 (by kernel_rfl) (by kernel_rfl) ?_
  intro xs cs r h hc
  unfold m_zaz at h
  split at h
  · rename_i a0_X a0_Y a0_W a0_H a1_X a1_Y a1_W a1_H
    cases h
    obtain ⟨F, hF⟩ := ok_zaz a0_X a0_Y a0_W a0_H a1_X a1_Y a1_W a1_H
    refine ⟨by kernel_rfl, M_zaz, F, false, ⟨?_⟩⟩
    rw [exec_zaz]
    refine hF _ ?_
    rfl
  · cases h
theorem entry_zbj (F : Nat) (Post : AVal UU → Prop) (a0 a1 : Int) : exec C_zaz Tryz.f77.ntmps M_zbj F 0 (bo Tryz.f77) (initSt [.int .i64 a0, .int .i64 a1]) (AEnds C_zaz false Tryz.f77 Post) = g_zbj_e a0 a1 (fun r0 => Post (.bool r0)) := by kernel_rfl
theorem exec_zbj (F : Nat) (Post : AVal UU → Prop) (a0 a1 : Int) : exec C_zaz Tryz.f77.ntmps M_zbj F 0 (bo Tryz.f77) (initSt [.int .i64 a0, .int .i64 a1]) (AEnds C_zaz false Tryz.f77 Post) = w_zbj F a0 a1 (fun r0 => Post (.bool r0)) := by
  rw [entry_zbj]
  rfl
def m_zbj : Model UU
  | [.int .i64 a0, .int .i64 a1] => some ([], .bool (sp_zbj a0 a1))
  | _ => none
def C_zbj : Cfg UU := C_zaz.add 77 m_zbj
theorem s_zbj : SumOK C_zbj := by
  refine s_zaz.addD mixed (fn := Tryz.f77) (c := bo Tryz.f77) Tryz.func77 (by kernel_rfl) (by kernel_rfl) ?_
  intro xs cs r h hc
  unfold m_zbj at h
  split at h
  · rename_i a0 a1
    cases h
    obtain ⟨F, hF⟩ := ok_zbj a0 a1
    refine ⟨by kernel_rfl, M_zbj, F, false, ⟨?_⟩⟩
    rw [exec_zbj]
    refine hF _ ?_
    rfl
  · cases h
theorem entry_zbl (F : Nat) (Post : AVal UU → Prop) (qr qs : ByteArray) (qt qu ql qm : Int) (qk qo : List Rect) (a1 : Int) : exec C_zbj Tryz.f80.ntmps M_zbl F 0 (bo Tryz.f80) (initSt [.agg [.str qr, .str qs, .int .i64 qt, .int .i64 qu, .int .i64 ql, .int .i64 qm, .sl .rect qk, .sl .rect qo], .int .i64 a1]) (AEnds C_zbj false Tryz.f80 Post) = g_zbl_e qr qs qt qu ql qm qk qo a1 (fun r0_X r0_Y r0_W r0_H r1 => Post (.tup [.agg [.int .i64 r0_X, .int .i64 r0_Y, .int .i64 r0_W, .int .i64 r0_H], .bool r1])) := by kernel_rfl
theorem exec_zbl (F : Nat) (Post : AVal UU → Prop) (qr qs : ByteArray) (qt qu ql qm : Int) (qk qo : List Rect) (a1 : Int) : exec C_zbj Tryz.f80.ntmps M_zbl F 0 (bo Tryz.f80) (initSt [.agg [.str qr, .str qs, .int .i64 qt, .int .i64 qu, .int .i64 ql, .int .i64 qm, .sl .rect qk, .sl .rect qo], .int .i64 a1]) (AEnds C_zbj false Tryz.f80 Post) = w_zbl F qr qs qt qu ql qm qk qo a1 (fun r0_X r0_Y r0_W r0_H r1 => Post (.tup [.agg [.int .i64 r0_X, .int .i64 r0_Y, .int .i64 r0_W, .int .i64 r0_H], .bool r1])) := by
  rw [entry_zbl]
  rfl
def m_zbl : Model UU
  | [.agg [.str qr, .str qs, .int .i64 qt, .int .i64 qu, .int .i64 ql, .int .i64 qm, .sl .rect qk, .sl .rect qo], .int .i64 a1] => some ([], .tup [.agg [.int .i64 ((sp_zbl qr qs qt qu ql qm qk qo a1).1), .int .i64 ((sp_zbl qr qs qt qu ql qm qk qo a1).2.1), .int .i64 ((sp_zbl qr qs qt qu ql qm qk qo a1).2.2.1), .int .i64 ((sp_zbl qr qs qt qu ql qm qk qo a1).2.2.2.1)], .bool ((sp_zbl qr qs qt qu ql qm qk qo a1).2.2.2.2)])
  | _ => none
def C_zbl : Cfg UU := C_zbj.add 80 m_zbl
theorem s_zbl : SumOK C_zbl := by
  refine s_zbj.addD mixed (fn := Tryz.f80) (c := bo Tryz.f80) Tryz.func80 (by kernel_rfl) (by kernel_rfl) ?_
  intro xs cs r h hc
  unfold m_zbl at h
  split at h
  · rename_i qr qs qt qu ql qm qk qo a1
    cases h
    obtain ⟨F, hF⟩ := ok_zbl qr qs qt qu ql qm qk qo a1
    refine ⟨by kernel_rfl, M_zbl, F, false, ⟨?_⟩⟩
    rw [exec_zbl]
    refine hF _ ?_
    rfl
  · cases h
theorem entry_zbh (F : Nat) (Post : AVal UU → Prop) (a0_X a0_Y a0_W a0_H : Int) : exec C_zbl Tryz.f93.ntmps M_zbh F 0 (bo Tryz.f93) (initSt [.agg [.int .i64 a0_X, .int .i64 a0_Y, .int .i64 a0_W, .int .i64 a0_H]]) (AEnds C_zbl false Tryz.f93 Post) = g_zbh_e a0_X a0_Y a0_W a0_H (fun r0 => Post (.bool r0)) := by kernel_rfl
theorem exec_zbh (F : Nat) (Post : AVal UU → Prop) (a0_X a0_Y a0_W a0_H : Int) : exec C_zbl Tryz.f93.ntmps M_zbh F 0 (bo Tryz.f93) (initSt [.agg [.int .i64 a0_X, .int .i64 a0_Y, .int .i64 a0_W, .int .i64 a0_H]]) (AEnds C_zbl false Tryz.f93 Post) = w_zbh F a0_X a0_Y a0_W a0_H (fun r0 => Post (.bool r0)) := by
  rw [entry_zbh]
  rfl
def m_zbh : Model UU
  | [.agg [.int .i64 a0_X, .int .i64 a0_Y, .int .i64 a0_W, .int .i64 a0_H]] => some ([], .bool (sp_zbh a0_X a0_Y a0_W a0_H))
  | _ => none
def C_zbh : Cfg UU := C_zbl.add 93 m_zbh
theorem s_zbh : SumOK C_zbh := by
  refine s_zbl.addD mixed (fn := Tryz.f93) (c := bo Tryz.f93) Tryz.func93 (by kernel_rfl) (by kernel_rfl) ?_
  intro xs cs r h hc
  unfold m_zbh at h
  split at h
  · rename_i a0_X a0_Y a0_W a0_H
    cases h
    obtain ⟨F, hF⟩ := ok_zbh a0_X a0_Y a0_W a0_H
    refine ⟨by kernel_rfl, M_zbh, F, false, ⟨?_⟩⟩
    rw [exec_zbh]
    refine hF _ ?_
    rfl
  · cases h
theorem entry_zan (F : Nat) (Post : AVal UU → Prop) (a0_X a0_Y a0_W a0_H a1_X a1_Y a1_W a1_H : Int) : exec C_zbh Tryz.f35.ntmps M_zan F 0 (bo Tryz.f35) (initSt [.agg [.int .i64 a0_X, .int .i64 a0_Y, .int .i64 a0_W, .int .i64 a0_H], .agg [.int .i64 a1_X, .int .i64 a1_Y, .int .i64 a1_W, .int .i64 a1_H]]) (AEnds C_zbh false Tryz.f35 Post) = g_zan_e a0_X a0_Y a0_W a0_H a1_X a1_Y a1_W a1_H (fun r0 => Post (.bool r0)) := by kernel_rfl
theorem exec_zan (F : Nat) (Post : AVal UU → Prop) (a0_X a0_Y a0_W a0_H a1_X a1_Y a1_W a1_H : Int) : exec C_zbh Tryz.f35.ntmps M_zan F 0 (bo Tryz.f35) (initSt [.agg [.int .i64 a0_X, .int .i64 a0_Y, .int .i64 a0_W, .int .i64 a0_H], .agg [.int .i64 a1_X, .int .i64 a1_Y, .int .i64 a1_W, .int .i64 a1_H]]) (AEnds C_zbh false Tryz.f35 Post) = w_zan F a0_X a0_Y a0_W a0_H a1_X a1_Y a1_W a1_H (fun r0 => Post (.bool r0)) := by
  rw [entry_zan]
  rfl
def m_zan : Model UU
  | [.agg [.int .i64 a0_X, .int .i64 a0_Y, .int .i64 a0_W, .int .i64 a0_H], .agg [.int .i64 a1_X, .int .i64 a1_Y, .int .i64 a1_W, .int .i64 a1_H]] => some ([], .bool (sp_zan a0_X a0_Y a0_W a0_H a1_X a1_Y a1_W a1_H))
  | _ => none
def C_zan : Cfg UU := C_zbh.add 35 m_zan
theorem s_zan : SumOK C_zan := by
  refine s_zbh.addD mixed (fn := Tryz.f35) (c := bo Tryz.f35) Tryz.func35 (by kernel_rfl) (by kernel_rfl) ?_
  intro xs cs r h hc
  unfold m_zan at h
  split at h
  · rename_i a0_X a0_Y a0_W a0_H a1_X a1_Y a1_W a1_H
    cases h
    obtain ⟨F, hF⟩ := ok_zan a0_X a0_Y a0_W a0_H a1_X a1_Y a1_W a1_H
    refine ⟨by kernel_rfl, M_zan, F, false, ⟨?_⟩⟩
    rw [exec_zan]
    refine hF _ ?_
    rfl
  · cases h
end
end Go.Proofs.YteffpgliiilnjaaGreatDoor
namespace Go.Proofs.YteffpgliiilnjaaGreatDoor
open Go.Vm Go.RowKit
set_option linter.unusedVariables false
set_option maxRecDepth 100000
noncomputable section
def b_zbk_0 (F n r : Nat) (S : ASt UU) (K : AEx → ASt UU → Prop) : Prop := iter (execG (inliner M_zbk F 0 C_zan) C_zan Tryz.f79.ntmps M_zbk F 0 (cL (cB (cS (cF (cS (bo Tryz.f79))))))) (M_zbk 0 0) n r S K
def k_zbk_0 (F : Nat) (Post : AVal UU → Prop) : AEx → ASt UU → Prop := kBlock 0 (kSeq (inliner M_zbk F 0 C_zan) C_zan Tryz.f79.ntmps M_zbk F 0 (cS (cS (bo Tryz.f79))) (AEnds C_zan false Tryz.f79 Post))
theorem step_zbk_0 (F n r : Nat) (K : AEx → ASt UU → Prop) (t2 : Bool) (t5 : List Rect) (t6 t7 : Int) : b_zbk_0 F (n + 1) r (st_zbk_0 t2 t5 t6 t7) K = g_zbk_s0 (fun t2 t5 t6 t7 => b_zbk_0 F n (r + 1) (st_zbk_0 t2 t5 t6 t7) K) (fun t2 t5 t6 t7 => K .ret (st_zbk_0 t2 t5 t6 t7)) (fun t2 t5 t6 t7 => K (.exit 0) (st_zbk_0 t2 t5 t6 t7)) t2 t5 t6 t7 := by kernel_rfl
theorem cont_zbk_0_0 (F : Nat) (Post : AVal UU → Prop) (t2 : Bool) (t5 : List Rect) (t6 t7 : Int) : k_zbk_0 F Post .ret (st_zbk_0 t2 t5 t6 t7) = g_zbk_c0_0 (fun r0 => Post (.bool r0)) t2 t5 t6 t7 := by kernel_rfl
theorem cont_zbk_0_1 (F : Nat) (Post : AVal UU → Prop) (t2 : Bool) (t5 : List Rect) (t6 t7 : Int) : k_zbk_0 F Post (.exit 0) (st_zbk_0 t2 t5 t6 t7) = g_zbk_c0_1 (fun r0 => Post (.bool r0)) t2 t5 t6 t7 := by kernel_rfl
theorem entry_zbk (F : Nat) (Post : AVal UU → Prop) (a0 : List Rect) : exec C_zan Tryz.f79.ntmps M_zbk F 0 (bo Tryz.f79) (initSt [.sl .rect a0]) (AEnds C_zan false Tryz.f79 Post) = g_zbk_e a0 (fun r0 => Post (.bool r0)) (fun t2 t5 t6 t7 => b_zbk_0 F F 0 (st_zbk_0 t2 t5 t6 t7) (k_zbk_0 F Post)) := by kernel_rfl
theorem loop_zbk_0 (F : Nat) (K : AEx → ASt UU → Prop) : ∀ (n r : Nat) (t2 : Bool) (t5 : List Rect) (t6 t7 : Int), b_zbk_0 F n r (st_zbk_0 t2 t5 t6 t7) K = w_zbk_0 F  (fun t2 t5 t6 t7 => K .ret (st_zbk_0 t2 t5 t6 t7)) (fun t2 t5 t6 t7 => K (.exit 0) (st_zbk_0 t2 t5 t6 t7)) n t2 t5 t6 t7 := by
  intro n
  induction n with
  | zero => intros; rfl
  | succ n ih =>
    intro r t2 t5 t6 t7
    have e : (fun t2 t5 t6 t7 => b_zbk_0 F n (r + 1) (st_zbk_0 t2 t5 t6 t7) K) = w_zbk_0 F  (fun t2 t5 t6 t7 => K .ret (st_zbk_0 t2 t5 t6 t7)) (fun t2 t5 t6 t7 => K (.exit 0) (st_zbk_0 t2 t5 t6 t7)) n := by
      funext t2 t5 t6 t7
      exact ih (r + 1) t2 t5 t6 t7
    rw [step_zbk_0, e]
    rfl
theorem nl_zbk_0 (F : Nat) (Post : AVal UU → Prop) (t2 : Bool) (t5 : List Rect) (t6 t7 : Int) : b_zbk_0 F F 0 (st_zbk_0 t2 t5 t6 t7) (k_zbk_0 F Post) = n_zbk_0 F (fun r0 => Post (.bool r0)) t2 t5 t6 t7 := by
  rw [loop_zbk_0]
  have h0 : (fun t2 t5 t6 t7 => k_zbk_0 F Post .ret (st_zbk_0 t2 t5 t6 t7)) = (fun t2 t5 t6 t7 => g_zbk_c0_0 (fun r0 => Post (.bool r0)) t2 t5 t6 t7) := by
    funext t2 t5 t6 t7
    rw [cont_zbk_0_0]
  have h1 : (fun t2 t5 t6 t7 => k_zbk_0 F Post (.exit 0) (st_zbk_0 t2 t5 t6 t7)) = (fun t2 t5 t6 t7 => g_zbk_c0_1 (fun r0 => Post (.bool r0)) t2 t5 t6 t7) := by
    funext t2 t5 t6 t7
    rw [cont_zbk_0_1]
  rw [h0, h1]
  rfl
theorem exec_zbk (F : Nat) (Post : AVal UU → Prop) (a0 : List Rect) : exec C_zan Tryz.f79.ntmps M_zbk F 0 (bo Tryz.f79) (initSt [.sl .rect a0]) (AEnds C_zan false Tryz.f79 Post) = w_zbk F a0 (fun r0 => Post (.bool r0)) := by
  rw [entry_zbk]
  have e0 : (fun t2 t5 t6 t7 => b_zbk_0 F F 0 (st_zbk_0 t2 t5 t6 t7) (k_zbk_0 F Post)) = (n_zbk_0 F (fun r0 => Post (.bool r0))) := by
    funext t2 t5 t6 t7
    exact nl_zbk_0 F Post t2 t5 t6 t7
  rw [e0]
  rfl
def m_zbk : Model UU
  | [.sl .rect a0] => some ([pre_zbk a0], .bool (sp_zbk a0))
  | _ => none
def C_zbk : Cfg UU := C_zan.add 79 m_zbk
theorem s_zbk : SumOK C_zbk := by
  refine s_zan.addD mixed (fn := Tryz.f79) (c := bo Tryz.f79) Tryz.func79 (by kernel_rfl) (by kernel_rfl) ?_
  intro xs cs r h hc
  unfold m_zbk at h
  split at h
  · rename_i a0
    cases h
    obtain ⟨F, hF⟩ := ok_zbk a0 hc
    refine ⟨by kernel_rfl, M_zbk, F, false, ⟨?_⟩⟩
    rw [exec_zbk]
    refine hF _ ?_
    rfl
  · cases h
end
end Go.Proofs.YteffpgliiilnjaaGreatDoor
namespace Go.Proofs.YteffpgliiilnjaaGreatDoor
open Go.Vm Go.RowKit
set_option linter.unusedVariables false
set_option maxRecDepth 100000
noncomputable section
def b_zj_0 (F n r : Nat) (S : ASt UU) (K : AEx → ASt UU → Prop) : Prop := iter (execG (inliner M_zj F 0 C_zbk) C_zbk Tryz.f29.ntmps M_zj F 1 (cL (cB (cS (cF (cS (cS (cS (bo Tryz.f29))))))))) (M_zj 0 1) n r S K
def b_zj_1 (F n r : Nat) (S : ASt UU) (K : AEx → ASt UU → Prop) : Prop := iter (execG (inliner M_zj F 0 C_zbk) C_zbk Tryz.f29.ntmps M_zj F 3 (cL (cB (cS (cS (cB (cF (cS (cS (cL (cB (cS (cF (cS (cS (cS (bo Tryz.f29))))))))))))))))) (M_zj 0 3) n r S K
def k_zj_0 (F : Nat) (Post : AVal UU → Prop) : AEx → ASt UU → Prop := kBlock 1 (kSeq (inliner M_zj F 0 C_zbk) C_zbk Tryz.f29.ntmps M_zj F 0 (cS (cS (cS (cS (bo Tryz.f29))))) (AEnds C_zbk false Tryz.f29 Post))
def k_zj_1 (F n r : Nat) (K : AEx → ASt UU → Prop) : AEx → ASt UU → Prop := kBlock 3 (kBlock 2 (kSeq (inliner M_zj F 0 C_zbk) C_zbk Tryz.f29.ntmps M_zj F 1 (cS (cS (cS (cL (cB (cS (cF (cS (cS (cS (bo Tryz.f29))))))))))) (kIter (execG (inliner M_zj F 0 C_zbk) C_zbk Tryz.f29.ntmps M_zj F 1 (cL (cB (cS (cF (cS (cS (cS (bo Tryz.f29))))))))) (M_zj 0 1) n r K)))
theorem step_zj_0 (F n r : Nat) (K : AEx → ASt UU → Prop) (t2 : Int) (t70 : List (List Rect)) (t71 t72 c3_0 c3_1 c3_2 c3_3 : Int) : b_zj_0 F (n + 1) r (st_zj_0 t2 t70 t71 t72 c3_0 c3_1 c3_2 c3_3) K = g_zj_s0 (fun t2 t70 t71 t72 c3_0 c3_1 c3_2 c3_3 => b_zj_0 F n (r + 1) (st_zj_0 t2 t70 t71 t72 c3_0 c3_1 c3_2 c3_3) K) (fun t2 t70 t71 t72 c3_0 c3_1 c3_2 c3_3 => K (.exit 1) (st_zj_0 t2 t70 t71 t72 c3_0 c3_1 c3_2 c3_3)) (fun t2 t70 t71 t72 c3_0 c3_1 c3_2 c3_3 => K .ret (st_zj_0 t2 t70 t71 t72 c3_0 c3_1 c3_2 c3_3)) t2 t70 t71 t72 c3_0 c3_1 c3_2 c3_3 (fun t2 t70 t71 t72 t76 t77 t78 c3_0 c3_1 c3_2 c3_3 => b_zj_1 F F 0 (st_zj_1 t2 t70 t71 t72 t76 t77 t78 c3_0 c3_1 c3_2 c3_3) (k_zj_1 F n r K)) := by kernel_rfl
theorem cont_zj_0_0 (F : Nat) (Post : AVal UU → Prop) (t2 : Int) (t70 : List (List Rect)) (t71 t72 c3_0 c3_1 c3_2 c3_3 : Int) : k_zj_0 F Post (.exit 1) (st_zj_0 t2 t70 t71 t72 c3_0 c3_1 c3_2 c3_3) = g_zj_c0_0 (fun r0 => Post (.int .i64 r0)) t2 t70 t71 t72 c3_0 c3_1 c3_2 c3_3 := by kernel_rfl
theorem cont_zj_0_1 (F : Nat) (Post : AVal UU → Prop) (t2 : Int) (t70 : List (List Rect)) (t71 t72 c3_0 c3_1 c3_2 c3_3 : Int) : k_zj_0 F Post .ret (st_zj_0 t2 t70 t71 t72 c3_0 c3_1 c3_2 c3_3) = g_zj_c0_1 (fun r0 => Post (.int .i64 r0)) t2 t70 t71 t72 c3_0 c3_1 c3_2 c3_3 := by kernel_rfl
theorem step_zj_1 (F n r : Nat) (K : AEx → ASt UU → Prop) (t2 : Int) (t70 : List (List Rect)) (t71 t72 : Int) (t76 : List Rect) (t77 t78 c3_0 c3_1 c3_2 c3_3 : Int) : b_zj_1 F (n + 1) r (st_zj_1 t2 t70 t71 t72 t76 t77 t78 c3_0 c3_1 c3_2 c3_3) K = g_zj_s1 (fun t2 t70 t71 t72 t76 t77 t78 c3_0 c3_1 c3_2 c3_3 => b_zj_1 F n (r + 1) (st_zj_1 t2 t70 t71 t72 t76 t77 t78 c3_0 c3_1 c3_2 c3_3) K) (fun t2 t70 t71 t72 t76 t77 t78 c3_0 c3_1 c3_2 c3_3 => K .ret (st_zj_1 t2 t70 t71 t72 t76 t77 t78 c3_0 c3_1 c3_2 c3_3)) (fun t2 t70 t71 t72 t76 t77 t78 c3_0 c3_1 c3_2 c3_3 => K (.exit 3) (st_zj_1 t2 t70 t71 t72 t76 t77 t78 c3_0 c3_1 c3_2 c3_3)) t2 t70 t71 t72 t76 t77 t78 c3_0 c3_1 c3_2 c3_3 := by kernel_rfl
theorem cont_zj_1_0 (F n r : Nat) (K : AEx → ASt UU → Prop) (t2 : Int) (t70 : List (List Rect)) (t71 t72 : Int) (t76 : List Rect) (t77 t78 c3_0 c3_1 c3_2 c3_3 : Int) : k_zj_1 F n r K .ret (st_zj_1 t2 t70 t71 t72 t76 t77 t78 c3_0 c3_1 c3_2 c3_3) = g_zj_c1_0 (fun t2 t70 t71 t72 c3_0 c3_1 c3_2 c3_3 => b_zj_0 F n (r + 1) (st_zj_0 t2 t70 t71 t72 c3_0 c3_1 c3_2 c3_3) K) (fun t2 t70 t71 t72 c3_0 c3_1 c3_2 c3_3 => K (.exit 1) (st_zj_0 t2 t70 t71 t72 c3_0 c3_1 c3_2 c3_3)) (fun t2 t70 t71 t72 c3_0 c3_1 c3_2 c3_3 => K .ret (st_zj_0 t2 t70 t71 t72 c3_0 c3_1 c3_2 c3_3)) t2 t70 t71 t72 t76 t77 t78 c3_0 c3_1 c3_2 c3_3 := by kernel_rfl
theorem cont_zj_1_1 (F n r : Nat) (K : AEx → ASt UU → Prop) (t2 : Int) (t70 : List (List Rect)) (t71 t72 : Int) (t76 : List Rect) (t77 t78 c3_0 c3_1 c3_2 c3_3 : Int) : k_zj_1 F n r K (.exit 3) (st_zj_1 t2 t70 t71 t72 t76 t77 t78 c3_0 c3_1 c3_2 c3_3) = g_zj_c1_1 (fun t2 t70 t71 t72 c3_0 c3_1 c3_2 c3_3 => b_zj_0 F n (r + 1) (st_zj_0 t2 t70 t71 t72 c3_0 c3_1 c3_2 c3_3) K) (fun t2 t70 t71 t72 c3_0 c3_1 c3_2 c3_3 => K (.exit 1) (st_zj_0 t2 t70 t71 t72 c3_0 c3_1 c3_2 c3_3)) (fun t2 t70 t71 t72 c3_0 c3_1 c3_2 c3_3 => K .ret (st_zj_0 t2 t70 t71 t72 c3_0 c3_1 c3_2 c3_3)) t2 t70 t71 t72 t76 t77 t78 c3_0 c3_1 c3_2 c3_3 := by kernel_rfl
theorem entry_zj (F : Nat) (Post : AVal UU → Prop) (qr qs : ByteArray) (qt qu ql qm : Int) (qk qo : List Rect) : exec C_zbk Tryz.f29.ntmps M_zj F 0 (bo Tryz.f29) (initSt [.agg [.str qr, .str qs, .int .i64 qt, .int .i64 qu, .int .i64 ql, .int .i64 qm, .sl .rect qk, .sl .rect qo]]) (AEnds C_zbk false Tryz.f29 Post) = g_zj_e qr qs qt qu ql qm qk qo (fun r0 => Post (.int .i64 r0)) (fun t2 t70 t71 t72 c3_0 c3_1 c3_2 c3_3 => b_zj_0 F F 0 (st_zj_0 t2 t70 t71 t72 c3_0 c3_1 c3_2 c3_3) (k_zj_0 F Post)) := by kernel_rfl
theorem loop_zj_1 (F : Nat) (K : AEx → ASt UU → Prop) : ∀ (n r : Nat) (t2 : Int) (t70 : List (List Rect)) (t71 t72 : Int) (t76 : List Rect) (t77 t78 c3_0 c3_1 c3_2 c3_3 : Int), b_zj_1 F n r (st_zj_1 t2 t70 t71 t72 t76 t77 t78 c3_0 c3_1 c3_2 c3_3) K = w_zj_1 F  (fun t2 t70 t71 t72 t76 t77 t78 c3_0 c3_1 c3_2 c3_3 => K .ret (st_zj_1 t2 t70 t71 t72 t76 t77 t78 c3_0 c3_1 c3_2 c3_3)) (fun t2 t70 t71 t72 t76 t77 t78 c3_0 c3_1 c3_2 c3_3 => K (.exit 3) (st_zj_1 t2 t70 t71 t72 t76 t77 t78 c3_0 c3_1 c3_2 c3_3)) n t2 t70 t71 t72 t76 t77 t78 c3_0 c3_1 c3_2 c3_3 := by
  intro n
  induction n with
  | zero => intros; rfl
  | succ n ih =>
    intro r t2 t70 t71 t72 t76 t77 t78 c3_0 c3_1 c3_2 c3_3
    have e : (fun t2 t70 t71 t72 t76 t77 t78 c3_0 c3_1 c3_2 c3_3 => b_zj_1 F n (r + 1) (st_zj_1 t2 t70 t71 t72 t76 t77 t78 c3_0 c3_1 c3_2 c3_3) K) = w_zj_1 F  (fun t2 t70 t71 t72 t76 t77 t78 c3_0 c3_1 c3_2 c3_3 => K .ret (st_zj_1 t2 t70 t71 t72 t76 t77 t78 c3_0 c3_1 c3_2 c3_3)) (fun t2 t70 t71 t72 t76 t77 t78 c3_0 c3_1 c3_2 c3_3 => K (.exit 3) (st_zj_1 t2 t70 t71 t72 t76 t77 t78 c3_0 c3_1 c3_2 c3_3)) n := by
      funext t2 t70 t71 t72 t76 t77 t78 c3_0 c3_1 c3_2 c3_3
      exact ih (r + 1) t2 t70 t71 t72 t76 t77 t78 c3_0 c3_1 c3_2 c3_3
    rw [step_zj_1, e]
    rfl
theorem nl_zj_1 (F n r : Nat) (K : AEx → ASt UU → Prop) (t2 : Int) (t70 : List (List Rect)) (t71 t72 : Int) (t76 : List Rect) (t77 t78 c3_0 c3_1 c3_2 c3_3 : Int) : b_zj_1 F F 0 (st_zj_1 t2 t70 t71 t72 t76 t77 t78 c3_0 c3_1 c3_2 c3_3) (k_zj_1 F n r K) = n_zj_1 F (fun t2 t70 t71 t72 c3_0 c3_1 c3_2 c3_3 => b_zj_0 F n (r + 1) (st_zj_0 t2 t70 t71 t72 c3_0 c3_1 c3_2 c3_3) K) (fun t2 t70 t71 t72 c3_0 c3_1 c3_2 c3_3 => K (.exit 1) (st_zj_0 t2 t70 t71 t72 c3_0 c3_1 c3_2 c3_3)) (fun t2 t70 t71 t72 c3_0 c3_1 c3_2 c3_3 => K .ret (st_zj_0 t2 t70 t71 t72 c3_0 c3_1 c3_2 c3_3)) t2 t70 t71 t72 t76 t77 t78 c3_0 c3_1 c3_2 c3_3 := by
  rw [loop_zj_1]
  have h0 : (fun t2 t70 t71 t72 t76 t77 t78 c3_0 c3_1 c3_2 c3_3 => k_zj_1 F n r K .ret (st_zj_1 t2 t70 t71 t72 t76 t77 t78 c3_0 c3_1 c3_2 c3_3)) = (fun t2 t70 t71 t72 t76 t77 t78 c3_0 c3_1 c3_2 c3_3 => g_zj_c1_0 (fun t2 t70 t71 t72 c3_0 c3_1 c3_2 c3_3 => b_zj_0 F n (r + 1) (st_zj_0 t2 t70 t71 t72 c3_0 c3_1 c3_2 c3_3) K) (fun t2 t70 t71 t72 c3_0 c3_1 c3_2 c3_3 => K (.exit 1) (st_zj_0 t2 t70 t71 t72 c3_0 c3_1 c3_2 c3_3)) (fun t2 t70 t71 t72 c3_0 c3_1 c3_2 c3_3 => K .ret (st_zj_0 t2 t70 t71 t72 c3_0 c3_1 c3_2 c3_3)) t2 t70 t71 t72 t76 t77 t78 c3_0 c3_1 c3_2 c3_3) := by
    funext t2 t70 t71 t72 t76 t77 t78 c3_0 c3_1 c3_2 c3_3
    rw [cont_zj_1_0]
  have h1 : (fun t2 t70 t71 t72 t76 t77 t78 c3_0 c3_1 c3_2 c3_3 => k_zj_1 F n r K (.exit 3) (st_zj_1 t2 t70 t71 t72 t76 t77 t78 c3_0 c3_1 c3_2 c3_3)) = (fun t2 t70 t71 t72 t76 t77 t78 c3_0 c3_1 c3_2 c3_3 => g_zj_c1_1 (fun t2 t70 t71 t72 c3_0 c3_1 c3_2 c3_3 => b_zj_0 F n (r + 1) (st_zj_0 t2 t70 t71 t72 c3_0 c3_1 c3_2 c3_3) K) (fun t2 t70 t71 t72 c3_0 c3_1 c3_2 c3_3 => K (.exit 1) (st_zj_0 t2 t70 t71 t72 c3_0 c3_1 c3_2 c3_3)) (fun t2 t70 t71 t72 c3_0 c3_1 c3_2 c3_3 => K .ret (st_zj_0 t2 t70 t71 t72 c3_0 c3_1 c3_2 c3_3)) t2 t70 t71 t72 t76 t77 t78 c3_0 c3_1 c3_2 c3_3) := by
    funext t2 t70 t71 t72 t76 t77 t78 c3_0 c3_1 c3_2 c3_3
    rw [cont_zj_1_1]
  rw [h0, h1]
  rfl
theorem loop_zj_0 (F : Nat) (K : AEx → ASt UU → Prop) : ∀ (n r : Nat) (t2 : Int) (t70 : List (List Rect)) (t71 t72 c3_0 c3_1 c3_2 c3_3 : Int), b_zj_0 F n r (st_zj_0 t2 t70 t71 t72 c3_0 c3_1 c3_2 c3_3) K = w_zj_0 F  (fun t2 t70 t71 t72 c3_0 c3_1 c3_2 c3_3 => K (.exit 1) (st_zj_0 t2 t70 t71 t72 c3_0 c3_1 c3_2 c3_3)) (fun t2 t70 t71 t72 c3_0 c3_1 c3_2 c3_3 => K .ret (st_zj_0 t2 t70 t71 t72 c3_0 c3_1 c3_2 c3_3)) n t2 t70 t71 t72 c3_0 c3_1 c3_2 c3_3 := by
  intro n
  induction n with
  | zero => intros; rfl
  | succ n ih =>
    intro r t2 t70 t71 t72 c3_0 c3_1 c3_2 c3_3
    have e : (fun t2 t70 t71 t72 c3_0 c3_1 c3_2 c3_3 => b_zj_0 F n (r + 1) (st_zj_0 t2 t70 t71 t72 c3_0 c3_1 c3_2 c3_3) K) = w_zj_0 F  (fun t2 t70 t71 t72 c3_0 c3_1 c3_2 c3_3 => K (.exit 1) (st_zj_0 t2 t70 t71 t72 c3_0 c3_1 c3_2 c3_3)) (fun t2 t70 t71 t72 c3_0 c3_1 c3_2 c3_3 => K .ret (st_zj_0 t2 t70 t71 t72 c3_0 c3_1 c3_2 c3_3)) n := by
      funext t2 t70 t71 t72 c3_0 c3_1 c3_2 c3_3
      exact ih (r + 1) t2 t70 t71 t72 c3_0 c3_1 c3_2 c3_3
    have e1 : (fun t2 t70 t71 t72 t76 t77 t78 c3_0 c3_1 c3_2 c3_3 => b_zj_1 F F 0 (st_zj_1 t2 t70 t71 t72 t76 t77 t78 c3_0 c3_1 c3_2 c3_3) (k_zj_1 F n r K)) = (n_zj_1 F (fun t2 t70 t71 t72 c3_0 c3_1 c3_2 c3_3 => b_zj_0 F n (r + 1) (st_zj_0 t2 t70 t71 t72 c3_0 c3_1 c3_2 c3_3) K) (fun t2 t70 t71 t72 c3_0 c3_1 c3_2 c3_3 => K (.exit 1) (st_zj_0 t2 t70 t71 t72 c3_0 c3_1 c3_2 c3_3)) (fun t2 t70 t71 t72 c3_0 c3_1 c3_2 c3_3 => K .ret (st_zj_0 t2 t70 t71 t72 c3_0 c3_1 c3_2 c3_3))) := by
      funext t2 t70 t71 t72 t76 t77 t78 c3_0 c3_1 c3_2 c3_3
      exact nl_zj_1 F n r K t2 t70 t71 t72 t76 t77 t78 c3_0 c3_1 c3_2 c3_3
    rw [step_zj_0, e1, e]
    rfl
theorem nl_zj_0 (F : Nat) (Post : AVal UU → Prop) (t2 : Int) (t70 : List (List Rect)) (t71 t72 c3_0 c3_1 c3_2 c3_3 : Int) : b_zj_0 F F 0 (st_zj_0 t2 t70 t71 t72 c3_0 c3_1 c3_2 c3_3) (k_zj_0 F Post) = n_zj_0 F (fun r0 => Post (.int .i64 r0)) t2 t70 t71 t72 c3_0 c3_1 c3_2 c3_3 := by
  rw [loop_zj_0]
  have h0 : (fun t2 t70 t71 t72 c3_0 c3_1 c3_2 c3_3 => k_zj_0 F Post (.exit 1) (st_zj_0 t2 t70 t71 t72 c3_0 c3_1 c3_2 c3_3)) = (fun t2 t70 t71 t72 c3_0 c3_1 c3_2 c3_3 => g_zj_c0_0 (fun r0 => Post (.int .i64 r0)) t2 t70 t71 t72 c3_0 c3_1 c3_2 c3_3) := by
    funext t2 t70 t71 t72 c3_0 c3_1 c3_2 c3_3
    rw [cont_zj_0_0]
  have h1 : (fun t2 t70 t71 t72 c3_0 c3_1 c3_2 c3_3 => k_zj_0 F Post .ret (st_zj_0 t2 t70 t71 t72 c3_0 c3_1 c3_2 c3_3)) = (fun t2 t70 t71 t72 c3_0 c3_1 c3_2 c3_3 => g_zj_c0_1 (fun r0 => Post (.int .i64 r0)) t2 t70 t71 t72 c3_0 c3_1 c3_2 c3_3) := by
    funext t2 t70 t71 t72 c3_0 c3_1 c3_2 c3_3
    rw [cont_zj_0_1]
  rw [h0, h1]
  rfl
theorem exec_zj (F : Nat) (Post : AVal UU → Prop) (qr qs : ByteArray) (qt qu ql qm : Int) (qk qo : List Rect) : exec C_zbk Tryz.f29.ntmps M_zj F 0 (bo Tryz.f29) (initSt [.agg [.str qr, .str qs, .int .i64 qt, .int .i64 qu, .int .i64 ql, .int .i64 qm, .sl .rect qk, .sl .rect qo]]) (AEnds C_zbk false Tryz.f29 Post) = w_zj F qr qs qt qu ql qm qk qo (fun r0 => Post (.int .i64 r0)) := by
  rw [entry_zj]
  have e0 : (fun t2 t70 t71 t72 c3_0 c3_1 c3_2 c3_3 => b_zj_0 F F 0 (st_zj_0 t2 t70 t71 t72 c3_0 c3_1 c3_2 c3_3) (k_zj_0 F Post)) = (n_zj_0 F (fun r0 => Post (.int .i64 r0))) := by
    funext t2 t70 t71 t72 c3_0 c3_1 c3_2 c3_3
    exact nl_zj_0 F Post t2 t70 t71 t72 c3_0 c3_1 c3_2 c3_3
  rw [e0]
  rfl
def m_zj : Model UU
  | [.agg [.str qr, .str qs, .int .i64 qt, .int .i64 qu, .int .i64 ql, .int .i64 qm, .sl .rect qk, .sl .rect qo]] => some ([], .int .i64 (sp_zj qr qs qt qu ql qm qk qo))
  | _ => none
def C_zj : Cfg UU := C_zbk.add 29 m_zj
theorem s_zj : SumOK C_zj := by
  refine s_zbk.addD mixed (fn := Tryz.f29) (c := bo Tryz.f29) Tryz.func29 (by kernel_rfl) (by kernel_rfl) ?_
  intro xs cs r h hc
  unfold m_zj at h
  split at h
  · rename_i qr qs qt qu ql qm qk qo
    cases h
    obtain ⟨F, hF⟩ := ok_zj qr qs qt qu ql qm qk qo
    refine ⟨by kernel_rfl, M_zj, F, false, ⟨?_⟩⟩
    rw [exec_zj]
    refine hF _ ?_
    rfl
  · cases h
end
end Go.Proofs.YteffpgliiilnjaaGreatDoor
namespace Go.Proofs.YteffpgliiilnjaaGreatDoor
open Go.Vm Go.RowKit
set_option linter.unusedVariables false
set_option maxRecDepth 100000
noncomputable section
def b_zu_0 (F n r : Nat) (S : ASt UU) (K : AEx → ASt UU → Prop) : Prop := iter (execG (inliner M_zu F 0 C_zj) C_zj Tryz.f53.ntmps M_zu F 0 (cL (cB (cS (cF (cS (bo Tryz.f53))))))) (M_zu 0 0) n r S K
def k_zu_0 (F : Nat) (Post : AVal UU → Prop) : AEx → ASt UU → Prop := kBlock 0 (kSeq (inliner M_zu F 0 C_zj) C_zj Tryz.f53.ntmps M_zu F 0 (cS (cS (bo Tryz.f53))) (AEnds C_zj false Tryz.f53 Post))
theorem step_zu_0 (F n r : Nat) (K : AEx → ASt UU → Prop) (t2 : Bool) (t16 t17 : Int) (l28 : List Int) : b_zu_0 F (n + 1) r (st_zu_0 t2 t16 t17 l28) K = g_zu_s0 (fun t2 t16 t17 l28 => b_zu_0 F n (r + 1) (st_zu_0 t2 t16 t17 l28) K) (fun t2 t16 t17 l28 => K .ret (st_zu_0 t2 t16 t17 l28)) (fun t2 t16 t17 l28 => K (.exit 0) (st_zu_0 t2 t16 t17 l28)) t2 t16 t17 l28 := by kernel_rfl
theorem cont_zu_0_0 (F : Nat) (Post : AVal UU → Prop) (t2 : Bool) (t16 t17 : Int) (l28 : List Int) : k_zu_0 F Post .ret (st_zu_0 t2 t16 t17 l28) = g_zu_c0_0 (fun r0 => Post (.bool r0)) t2 t16 t17 l28 := by kernel_rfl
theorem cont_zu_0_1 (F : Nat) (Post : AVal UU → Prop) (t2 : Bool) (t16 t17 : Int) (l28 : List Int) : k_zu_0 F Post (.exit 0) (st_zu_0 t2 t16 t17 l28) = g_zu_c0_1 (fun r0 => Post (.bool r0)) t2 t16 t17 l28 := by kernel_rfl
theorem entry_zu (F : Nat) (Post : AVal UU → Prop) (qn a0_X a0_Y a0_W a0_H a0_N : Int) : exec C_zj Tryz.f53.ntmps M_zu F 0 (bo Tryz.f53) (initSt [.agg [.int .i64 qn, .int .i64 a0_X, .int .i64 a0_Y, .int .i64 a0_W, .int .i64 a0_H, .int .i64 a0_N]]) (AEnds C_zj false Tryz.f53 Post) = g_zu_e qn a0_X a0_Y a0_W a0_H a0_N (fun r0 => Post (.bool r0)) (fun t2 t16 t17 l28 => b_zu_0 F F 0 (st_zu_0 t2 t16 t17 l28) (k_zu_0 F Post)) := by kernel_rfl
theorem loop_zu_0 (F : Nat) (K : AEx → ASt UU → Prop) : ∀ (n r : Nat) (t2 : Bool) (t16 t17 : Int) (l28 : List Int), b_zu_0 F n r (st_zu_0 t2 t16 t17 l28) K = w_zu_0 F  (fun t2 t16 t17 l28 => K .ret (st_zu_0 t2 t16 t17 l28)) (fun t2 t16 t17 l28 => K (.exit 0) (st_zu_0 t2 t16 t17 l28)) n t2 t16 t17 l28 := by
  intro n
  induction n with
  | zero => intros; rfl
  | succ n ih =>
    intro r t2 t16 t17 l28
    have e : (fun t2 t16 t17 l28 => b_zu_0 F n (r + 1) (st_zu_0 t2 t16 t17 l28) K) = w_zu_0 F  (fun t2 t16 t17 l28 => K .ret (st_zu_0 t2 t16 t17 l28)) (fun t2 t16 t17 l28 => K (.exit 0) (st_zu_0 t2 t16 t17 l28)) n := by
      funext t2 t16 t17 l28
      exact ih (r + 1) t2 t16 t17 l28
    rw [step_zu_0, e]
    rfl
theorem nl_zu_0 (F : Nat) (Post : AVal UU → Prop) (t2 : Bool) (t16 t17 : Int) (l28 : List Int) : b_zu_0 F F 0 (st_zu_0 t2 t16 t17 l28) (k_zu_0 F Post) = n_zu_0 F (fun r0 => Post (.bool r0)) t2 t16 t17 l28 := by
  rw [loop_zu_0]
  have h0 : (fun t2 t16 t17 l28 => k_zu_0 F Post .ret (st_zu_0 t2 t16 t17 l28)) = (fun t2 t16 t17 l28 => g_zu_c0_0 (fun r0 => Post (.bool r0)) t2 t16 t17 l28) := by
    funext t2 t16 t17 l28
    rw [cont_zu_0_0]
  have h1 : (fun t2 t16 t17 l28 => k_zu_0 F Post (.exit 0) (st_zu_0 t2 t16 t17 l28)) = (fun t2 t16 t17 l28 => g_zu_c0_1 (fun r0 => Post (.bool r0)) t2 t16 t17 l28) := by
    funext t2 t16 t17 l28
    rw [cont_zu_0_1]
  rw [h0, h1]
  rfl
theorem exec_zu (F : Nat) (Post : AVal UU → Prop) (qn a0_X a0_Y a0_W a0_H a0_N : Int) : exec C_zj Tryz.f53.ntmps M_zu F 0 (bo Tryz.f53) (initSt [.agg [.int .i64 qn, .int .i64 a0_X, .int .i64 a0_Y, .int .i64 a0_W, .int .i64 a0_H, .int .i64 a0_N]]) (AEnds C_zj false Tryz.f53 Post) = w_zu F qn a0_X a0_Y a0_W a0_H a0_N (fun r0 => Post (.bool r0)) := by
  rw [entry_zu]
  have e0 : (fun t2 t16 t17 l28 => b_zu_0 F F 0 (st_zu_0 t2 t16 t17 l28) (k_zu_0 F Post)) = (n_zu_0 F (fun r0 => Post (.bool r0))) := by
    funext t2 t16 t17 l28
    exact nl_zu_0 F Post t2 t16 t17 l28
  rw [e0]
  rfl
def m_zu : Model UU
  | [.agg [.int .i64 qn, .int .i64 a0_X, .int .i64 a0_Y, .int .i64 a0_W, .int .i64 a0_H, .int .i64 a0_N]] => some ([], .bool (sp_zu qn a0_X a0_Y a0_W a0_H a0_N))
  | _ => none
def C_zu : Cfg UU := C_zj.add 53 m_zu
theorem s_zu : SumOK C_zu := by
  refine s_zj.addD mixed (fn := Tryz.f53) (c := bo Tryz.f53) Tryz.func53 (by kernel_rfl) (by kernel_rfl) ?_
  intro xs cs r h hc
  unfold m_zu at h
  split at h
  · rename_i qn a0_X a0_Y a0_W a0_H a0_N
    cases h
    obtain ⟨F, hF⟩ := ok_zu qn a0_X a0_Y a0_W a0_H a0_N
    refine ⟨by kernel_rfl, M_zu, F, false, ⟨?_⟩⟩
    rw [exec_zu]
    refine hF _ ?_
    rfl
  · cases h
end
end Go.Proofs.YteffpgliiilnjaaGreatDoor
namespace Go.Proofs.YteffpgliiilnjaaGreatDoor
open Go.Vm Go.RowKit
set_option linter.unusedVariables false
set_option maxRecDepth 100000
noncomputable section
theorem entry_do1 (F : Nat) (Post : AVal UU → Prop) (a_0 a_1 a_2 a_3 c_0 c_1 c_2 c_3 : Int) : exec C_zu Tryz.f84.ntmps M_do1 F 0 (bo Tryz.f84) (initSt [.agg [.int .i64 a_0, .int .i64 a_1, .int .i64 a_2, .int .i64 a_3], .ref [.int .i64 c_0, .int .i64 c_1, .int .i64 c_2, .int .i64 c_3] 0]) (AEnds C_zu false Tryz.f84 Post) = g_do1_e a_0 a_1 a_2 a_3 c_0 c_1 c_2 c_3 (fun r0 => Post (.bool r0)) := by kernel_rfl
theorem exec_do1 (F : Nat) (Post : AVal UU → Prop) (a_0 a_1 a_2 a_3 c_0 c_1 c_2 c_3 : Int) : exec C_zu Tryz.f84.ntmps M_do1 F 0 (bo Tryz.f84) (initSt [.agg [.int .i64 a_0, .int .i64 a_1, .int .i64 a_2, .int .i64 a_3], .ref [.int .i64 c_0, .int .i64 c_1, .int .i64 c_2, .int .i64 c_3] 0]) (AEnds C_zu false Tryz.f84 Post) = w_do1 F a_0 a_1 a_2 a_3 c_0 c_1 c_2 c_3 (fun r0 => Post (.bool r0)) := by
  rw [entry_do1]
  rfl
def m_do1 : Model UU
  | [.agg [.int .i64 a_0, .int .i64 a_1, .int .i64 a_2, .int .i64 a_3], .ref [.int .i64 c_0, .int .i64 c_1, .int .i64 c_2, .int .i64 c_3] 0] => some ([], .bool (sp_do1 a_0 a_1 a_2 a_3 c_0 c_1 c_2 c_3))
  | _ => none
def C_do1 : Cfg UU := C_zu.add 84 m_do1
theorem s_do1 : SumOK C_do1 := by
  refine s_zu.addD mixed (fn := Tryz.f84) (c := bo Tryz.f84) Tryz.func84 (by kernel_rfl) (by kernel_rfl) ?_
  intro xs cs r h hc
  unfold m_do1 at h
  split at h
  · rename_i a_0 a_1 a_2 a_3 c_0 c_1 c_2 c_3
    cases h
    obtain ⟨F, hF⟩ := ok_do1 a_0 a_1 a_2 a_3 c_0 c_1 c_2 c_3
    refine ⟨by kernel_rfl, M_do1, F, false, ⟨?_⟩⟩
    rw [exec_do1]
    refine hF _ ?_
    rfl
  · cases h
def b_ixf1_0 (F n r : Nat) (S : ASt UU) (K : AEx → ASt UU → Prop) : Prop := iter (execG (inliner M_ixf1 F 0 C_do1) C_do1 Tryz.f44.ntmps M_ixf1 F 0 (cL (cB (cS (cF (cS (bo Tryz.f44))))))) (M_ixf1 0 0) n r S K
def k_ixf1_0 (F : Nat) (Post : AVal UU → Prop) : AEx → ASt UU → Prop := kBlock 0 (kSeq (inliner M_ixf1 F 0 C_do1) C_do1 Tryz.f44.ntmps M_ixf1 F 0 (cS (cS (bo Tryz.f44))) (AEnds C_do1 false Tryz.f44 Post))
theorem step_ixf1_0 (F n r : Nat) (K : AEx → ASt UU → Prop) (t0 : List Rect) (t1_0_0 t1_0_1 t1_0_2 t1_0_3 t4 t7 t8 : Int) : b_ixf1_0 F (n + 1) r (st_ixf1_0 t0 t1_0_0 t1_0_1 t1_0_2 t1_0_3 t4 t7 t8) K = g_ixf1_s0 (fun t0 t1_0_0 t1_0_1 t1_0_2 t1_0_3 t4 t7 t8 => b_ixf1_0 F n (r + 1) (st_ixf1_0 t0 t1_0_0 t1_0_1 t1_0_2 t1_0_3 t4 t7 t8) K) (fun t0 t1_0_0 t1_0_1 t1_0_2 t1_0_3 t4 t7 t8 => K .ret (st_ixf1_0 t0 t1_0_0 t1_0_1 t1_0_2 t1_0_3 t4 t7 t8)) (fun t0 t1_0_0 t1_0_1 t1_0_2 t1_0_3 t4 t7 t8 => K (.exit 0) (st_ixf1_0 t0 t1_0_0 t1_0_1 t1_0_2 t1_0_3 t4 t7 t8)) t0 t1_0_0 t1_0_1 t1_0_2 t1_0_3 t4 t7 t8 := by kernel_rfl
theorem cont_ixf1_0_0 (F : Nat) (Post : AVal UU → Prop) (t0 : List Rect) (t1_0_0 t1_0_1 t1_0_2 t1_0_3 t4 t7 t8 : Int) : k_ixf1_0 F Post .ret (st_ixf1_0 t0 t1_0_0 t1_0_1 t1_0_2 t1_0_3 t4 t7 t8) = g_ixf1_c0_0 (fun r0 => Post (.int .i64 r0)) t0 t1_0_0 t1_0_1 t1_0_2 t1_0_3 t4 t7 t8 := by kernel_rfl
theorem cont_ixf1_0_1 (F : Nat) (Post : AVal UU → Prop) (t0 : List Rect) (t1_0_0 t1_0_1 t1_0_2 t1_0_3 t4 t7 t8 : Int) : k_ixf1_0 F Post (.exit 0) (st_ixf1_0 t0 t1_0_0 t1_0_1 t1_0_2 t1_0_3 t4 t7 t8) = g_ixf1_c0_1 (fun r0 => Post (.int .i64 r0)) t0 t1_0_0 t1_0_1 t1_0_2 t1_0_3 t4 t7 t8 := by kernel_rfl
theorem entry_ixf1 (F : Nat) (Post : AVal UU → Prop) (l : List Rect) (c_0 c_1 c_2 c_3 : Int) : exec C_do1 Tryz.f44.ntmps M_ixf1 F 0 (bo Tryz.f44) (initSt [.sl .rect l, .fn 84 [.ref [.int .i64 c_0, .int .i64 c_1, .int .i64 c_2, .int .i64 c_3] 0]]) (AEnds C_do1 false Tryz.f44 Post) = g_ixf1_e l c_0 c_1 c_2 c_3 (fun r0 => Post (.int .i64 r0)) (fun t0 t1_0_0 t1_0_1 t1_0_2 t1_0_3 t4 t7 t8 => b_ixf1_0 F F 0 (st_ixf1_0 t0 t1_0_0 t1_0_1 t1_0_2 t1_0_3 t4 t7 t8) (k_ixf1_0 F Post)) := by kernel_rfl
theorem loop_ixf1_0 (F : Nat) (K : AEx → ASt UU → Prop) : ∀ (n r : Nat) (t0 : List Rect) (t1_0_0 t1_0_1 t1_0_2 t1_0_3 t4 t7 t8 : Int), b_ixf1_0 F n r (st_ixf1_0 t0 t1_0_0 t1_0_1 t1_0_2 t1_0_3 t4 t7 t8) K = w_ixf1_0 F  (fun t0 t1_0_0 t1_0_1 t1_0_2 t1_0_3 t4 t7 t8 => K .ret (st_ixf1_0 t0 t1_0_0 t1_0_1 t1_0_2 t1_0_3 t4 t7 t8)) (fun t0 t1_0_0 t1_0_1 t1_0_2 t1_0_3 t4 t7 t8 => K (.exit 0) (st_ixf1_0 t0 t1_0_0 t1_0_1 t1_0_2 t1_0_3 t4 t7 t8)) n t0 t1_0_0 t1_0_1 t1_0_2 t1_0_3 t4 t7 t8 := by
  intro n
  induction n with
  | zero => intros; rfl
  | succ n ih =>
    intro r t0 t1_0_0 t1_0_1 t1_0_2 t1_0_3 t4 t7 t8
    have e : (fun t0 t1_0_0 t1_0_1 t1_0_2 t1_0_3 t4 t7 t8 => b_ixf1_0 F n (r + 1) (st_ixf1_0 t0 t1_0_0 t1_0_1 t1_0_2 t1_0_3 t4 t7 t8) K) = w_ixf1_0 F  (fun t0 t1_0_0 t1_0_1 t1_0_2 t1_0_3 t4 t7 t8 => K .ret (st_ixf1_0 t0 t1_0_0 t1_0_1 t1_0_2 t1_0_3 t4 t7 t8)) (fun t0 t1_0_0 t1_0_1 t1_0_2 t1_0_3 t4 t7 t8 => K (.exit 0) (st_ixf1_0 t0 t1_0_0 t1_0_1 t1_0_2 t1_0_3 t4 t7 t8)) n := by
      funext t0 t1_0_0 t1_0_1 t1_0_2 t1_0_3 t4 t7 t8
      exact ih (r + 1) t0 t1_0_0 t1_0_1 t1_0_2 t1_0_3 t4 t7 t8
    rw [step_ixf1_0, e]
    rfl
theorem nl_ixf1_0 (F : Nat) (Post : AVal UU → Prop) (t0 : List Rect) (t1_0_0 t1_0_1 t1_0_2 t1_0_3 t4 t7 t8 : Int) : b_ixf1_0 F F 0 (st_ixf1_0 t0 t1_0_0 t1_0_1 t1_0_2 t1_0_3 t4 t7 t8) (k_ixf1_0 F Post) = n_ixf1_0 F (fun r0 => Post (.int .i64 r0)) t0 t1_0_0 t1_0_1 t1_0_2 t1_0_3 t4 t7 t8 := by
  rw [loop_ixf1_0]
  have h0 : (fun t0 t1_0_0 t1_0_1 t1_0_2 t1_0_3 t4 t7 t8 => k_ixf1_0 F Post .ret (st_ixf1_0 t0 t1_0_0 t1_0_1 t1_0_2 t1_0_3 t4 t7 t8)) = (fun t0 t1_0_0 t1_0_1 t1_0_2 t1_0_3 t4 t7 t8 => g_ixf1_c0_0 (fun r0 => Post (.int .i64 r0)) t0 t1_0_0 t1_0_1 t1_0_2 t1_0_3 t4 t7 t8) := by
    funext t0 t1_0_0 t1_0_1 t1_0_2 t1_0_3 t4 t7 t8
    rw [cont_ixf1_0_0]
  have h1 : (fun t0 t1_0_0 t1_0_1 t1_0_2 t1_0_3 t4 t7 t8 => k_ixf1_0 F Post (.exit 0) (st_ixf1_0 t0 t1_0_0 t1_0_1 t1_0_2 t1_0_3 t4 t7 t8)) = (fun t0 t1_0_0 t1_0_1 t1_0_2 t1_0_3 t4 t7 t8 => g_ixf1_c0_1 (fun r0 => Post (.int .i64 r0)) t0 t1_0_0 t1_0_1 t1_0_2 t1_0_3 t4 t7 t8) := by
    funext t0 t1_0_0 t1_0_1 t1_0_2 t1_0_3 t4 t7 t8
    rw [cont_ixf1_0_1]
  rw [h0, h1]
  rfl
theorem exec_ixf1 (F : Nat) (Post : AVal UU → Prop) (l : List Rect) (c_0 c_1 c_2 c_3 : Int) : exec C_do1 Tryz.f44.ntmps M_ixf1 F 0 (bo Tryz.f44) (initSt [.sl .rect l, .fn 84 [.ref [.int .i64 c_0, .int .i64 c_1, .int .i64 c_2, .int .i64 c_3] 0]]) (AEnds C_do1 false Tryz.f44 Post) = w_ixf1 F l c_0 c_1 c_2 c_3 (fun r0 => Post (.int .i64 r0)) := by
  rw [entry_ixf1]
  have e0 : (fun t0 t1_0_0 t1_0_1 t1_0_2 t1_0_3 t4 t7 t8 => b_ixf1_0 F F 0 (st_ixf1_0 t0 t1_0_0 t1_0_1 t1_0_2 t1_0_3 t4 t7 t8) (k_ixf1_0 F Post)) = (n_ixf1_0 F (fun r0 => Post (.int .i64 r0))) := by
    funext t0 t1_0_0 t1_0_1 t1_0_2 t1_0_3 t4 t7 t8
    exact nl_ixf1_0 F Post t0 t1_0_0 t1_0_1 t1_0_2 t1_0_3 t4 t7 t8
  rw [e0]
  rfl
def m_ixf1 : Model UU
  | [.sl .rect l, .fn 84 [.ref [.int .i64 c_0, .int .i64 c_1, .int .i64 c_2, .int .i64 c_3] 0]] => some ([pre_ixf1 l c_0 c_1 c_2 c_3], .int .i64 (sp_ixf1 l c_0 c_1 c_2 c_3))
  | _ => none
def C_ixf1 : Cfg UU := C_do1.add 44 m_ixf1
theorem s_ixf1 : SumOK C_ixf1 := by
  refine s_do1.addD mixed (fn := Tryz.f44) (c := bo Tryz.f44) Tryz.func44 (by kernel_rfl) (by kernel_rfl) ?_
  intro xs cs r h hc
  unfold m_ixf1 at h
  split at h
  · rename_i l c_0 c_1 c_2 c_3
    cases h
    obtain ⟨F, hF⟩ := ok_ixf1 l c_0 c_1 c_2 c_3 hc
    refine ⟨by kernel_rfl, M_ixf1, F, false, ⟨?_⟩⟩
    rw [exec_ixf1]
    refine hF _ ?_
    rfl
  · cases h
end
end Go.Proofs.YteffpgliiilnjaaGreatDoor
namespace Go.Proofs.YteffpgliiilnjaaGreatDoor
open Go.Vm Go.RowKit
set_option linter.unusedVariables false
set_option maxRecDepth 100000
noncomputable section
theorem entry_cof1 (F : Nat) (Post : AVal UU → Prop) (l : List Rect) (c_0 c_1 c_2 c_3 : Int) : exec C_ixf1 Tryz.f83.ntmps M_cof1 F 0 (bo Tryz.f83) (initSt [.sl .rect l, .fn 84 [.ref [.int .i64 c_0, .int .i64 c_1, .int .i64 c_2, .int .i64 c_3] 0]]) (AEnds C_ixf1 false Tryz.f83 Post) = g_cof1_e l c_0 c_1 c_2 c_3 (fun r0 => Post (.bool r0)) := by kernel_rfl
theorem exec_cof1 (F : Nat) (Post : AVal UU → Prop) (l : List Rect) (c_0 c_1 c_2 c_3 : Int) : exec C_ixf1 Tryz.f83.ntmps M_cof1 F 0 (bo Tryz.f83) (initSt [.sl .rect l, .fn 84 [.ref [.int .i64 c_0, .int .i64 c_1, .int .i64 c_2, .int .i64 c_3] 0]]) (AEnds C_ixf1 false Tryz.f83 Post) = w_cof1 F l c_0 c_1 c_2 c_3 (fun r0 => Post (.bool r0)) := by
  rw [entry_cof1]
  rfl
def m_cof1 : Model UU
  | [.sl .rect l, .fn 84 [.ref [.int .i64 c_0, .int .i64 c_1, .int .i64 c_2, .int .i64 c_3] 0]] => some ([pre_cof1 l c_0 c_1 c_2 c_3], .bool (sp_cof1 l c_0 c_1 c_2 c_3))
  | _ => none
def C_cof1 : Cfg UU := C_ixf1.add 83 m_cof1
theorem s_cof1 : SumOK C_cof1 := by
  refine s_ixf1.addD mixed (fn := Tryz.f83) (c := bo Tryz.f83) Tryz.func83 (by kernel_rfl) (by kernel_rfl) ?_
  intro xs cs r h hc
  unfold m_cof1 at h
  split at h
  · rename_i l c_0 c_1 c_2 c_3
    cases h
    obtain ⟨F, hF⟩ := ok_cof1 l c_0 c_1 c_2 c_3 hc
    refine ⟨by kernel_rfl, M_cof1, F, false, ⟨?_⟩⟩
    rw [exec_cof1]
    refine hF _ ?_
    rfl
  · cases h
end
end Go.Proofs.YteffpgliiilnjaaGreatDoor
namespace Go.Proofs.YteffpgliiilnjaaGreatDoor
open Go.Vm Go.RowKit Go.Lib
set_option linter.unusedVariables false
noncomputable section
theorem fresh_new {w0 w : World} {N : Nat → Prop} {τ : Knd} {xs : List (UU.T τ)} {v : Value} {cs : List Value} (hb : Below w0.heap.size w0 w)
    (ho : w.ownsRow w0.heap.size (UU.ety τ) (UU.size τ) v xs.length cs) (hp : ∀ a, v ≠ .pointer a)
    (hr : ∀ i (h : i < xs.length) k (hk : k < (EE.enc τ xs[i]).length), Rel EE w0 noOwn (Out' N w0) (EE.enc τ xs[i])[k] (cs.getD (i * UU.size τ + k) undef)) : Fresh EE w0.heap.size N w (.new τ xs) v := by
  have hblk : ∀ b, blk v = some b → w0.heap.size ≤ b ∧ b < w.heap.size := (ownsRow_oneCell ho hp).2
  refine ⟨fun k => if k = .ob 0 then some (0, v) else none, .osl 0 0 _ (by simp) hp, fun k x hk => ?_, fun k g u hk => ?_, fun i j g g' u u' b hi hj hne => ?_⟩
  · cases k with
    | zero =>
      have : (⟨false, τ, xs⟩ : NewRow UU) = x := by simpa [AVal.news, news2, news1] using hk
      subst this
      refine ⟨_, _, by simp, hp, ho, fun i hi k hk' => ?_⟩
      refine ((hr i hi k hk').flat (ρ' := fun k => if k = .ob 0 then some (0, v) else none) (EE.enc_flat _ _ _ (List.getElem_mem hk')).1).mono (fun b hb' => ⟨⟨?_, hb'.2, fun nm g u hnm => ?_⟩, hb.block b hb'.1⟩) (fun nm g u h => .inl h)
      · have := hb.size
        have := hb'.1
        omega
      · by_cases hnm0 : nm = .ob 0
        · subst hnm0
          simp only [if_true, Option.some.injEq, Prod.mk.injEq] at hnm
          obtain ⟨_, rfl⟩ := hnm
          intro e
          have := (hblk b e).1
          have := hb'.1
          omega
        · simp [hnm0] at hnm
    | succ k => simp [AVal.news, news2, news1] at hk
  · by_cases hk0 : k = .ob 0
    · subst hk0
      exact ⟨⟨false, τ, xs⟩, by simp [AVal.news, news2, news1, Name.id], fun _ => ⟨0, rfl⟩⟩
    · simp [hk0] at hk
  · by_cases hi0 : i = .ob 0
    · by_cases hj0 : j = .ob 0
      · exact absurd (hi0.trans hj0.symm) hne
      · simp [hj0] at hj
    · simp [hi0] at hi
theorem map_range_getD (f : Nat → Value) (n i : Nat) (h : i < n) : ((List.range n).map f).getD i undef = f i := by simp [List.getD_eq_getElem?_getD, h]
set_option maxHeartbeats 2000000 in
set_option maxRecDepth 100000 in
theorem clone87_some (b off n c : Nat) (f : Nat → Value) (w : World) (hbig : n * 32 ≤ 140737488355328) (hc : ∀ j, j < n * 4 → w.cell? ⟨b, off + j, none⟩ = some (f j)) (h1 : ∀ j, j < n * 4 → (f j).oneCell' = true) :
    Calls Tryz.prog 87 #[.slice (some ⟨b, off, none⟩) n c] w fun e w' => ∃ v', e = .returned v' ∧ w'.ownsRow w.heap.size 43 4 v' n ((List.range (n * 4)).map f) ∧ (∀ a, v' ≠ .pointer a) ∧ Below w.heap.size w w' := by
  have q26 : ∀ (w : World) (a : Option Addr) (n c n' c' : Nat), (binOp .eql 26 (.slice a n c) (.slice none n' c')).run Tryz.prog w = .ok (.bool a.isNone) w := fun w a n c n' c' => Lib.run_eql_slice_nil w _ _ a n c n' c' Tryz.underlying26
  obtain ⟨i0, hi, hz0, hz1, hz2⟩ := info_parts (P := Tryz.prog) (e := 43) (z := .agg #[.int .i64 0, .int .i64 0, .int .i64 0, .int .i64 0]) (size := 4) (bytes := 32) (by kernel_rfl)
  have A : Aside ((∀ j, j < n * 4 → w.cell? ⟨b, off + j, none⟩ = some (f j)) ∧ ∀ j, j < n * 4 → (f j).oneCell' = true) := ⟨hc, h1⟩
  clear hc h1
  go_enter Tryz.func87, Tryz.ntmps87
  go_wp2_with (at_builtin; refine wpList_append_own _ rfl _ _ 26 rfl w.heap.size 43 i0 (.agg #[.int .i64 0, .int .i64 0, .int .i64 0, .int .i64 0]) 4 32 Tryz.underlying26 hi hz0 hz1 hz2 rfl (by decide) _ _ _ rfl (World.ownsRow_made w #[] 0 (Nat.le_refl _) (Nat.zero_le _) rfl) ⟨b, off, none⟩ n c ((List.range (n * 4)).map f) rfl ?qc1 ?qc2 ?qc3 ?qc4 ?qc5 ?qc6 ?_)
  case qc1 => simp
  case qc2 =>
    intro j u hj
    have hjn : j < n * 4 := by
      have := (List.getElem?_eq_some_iff.1 hj).1
      simpa using this
    rw [Addr.add_lit]
    refine Lib.cell?_alloc_some _ ?_
    rw [A.out.1 j hjn]
    simpa [hjn] using hj
  case qc3 =>
    intro u hu
    obtain ⟨x, hx, rfl⟩ := List.mem_map.1 hu
    exact A.out.2 x (List.mem_range.1 hx)
  case qc4 => unfold maxLen; omega
  case qc5 => omega
  case qc6 => simp
  intro v' w1 hown hgrow hnil
  go_wp2
  go_ret
  refine ⟨v', rfl, by simpa using hown, ?_, ?_⟩
  · intro a e
    subst e
    rcases hown.2 with ⟨h, _⟩ | ⟨_, _, _, h, _⟩ <;> cases h
  · exact ((Below.refl _ w).alloc (Nat.le_refl _) _).grown hgrow (by simp) (by intro k hk; simp [Value.ownBlock] at hk; omega)
set_option maxHeartbeats 1000000 in
theorem clone87_nil (w : World) :
    Calls Tryz.prog 87 #[.slice none 0 0] w fun e w' => e = .returned (.slice none 0 0) ∧ w' = w := by
  have q26 : ∀ (w : World) (a : Option Addr) (n c n' c' : Nat), (binOp .eql 26 (.slice a n c) (.slice none n' c')).run Tryz.prog w = .ok (.bool a.isNone) w := fun w a n c n' c' => Lib.run_eql_slice_nil w _ _ a n c n' c' Tryz.underlying26
  go_enter Tryz.func87, Tryz.ntmps87
  go_wp2
  go_ret
  exact ⟨rfl, rfl⟩
def mClone87 : Model UU
  | [.sl .seg xs] => some ([xs.length ≤ 100000], .new .seg xs)
  | _ => none
theorem sClone87 {C : Cfg UU} (hE : C.E = EE) (hs : SumOK C) (hP : C.P = Tryz.prog) : SumOK (C.add 87 mClone87) := by
  refine hs.put ⟨fun args w => by rw [hP]; exact callFunc_run (fn := Tryz.f87) Tryz.func87 (by kernel_rfl) rfl args w, ?_⟩
  intro N w args xs cs r hinv hN hargs hm hc
  unfold mClone87 at hm
  split at hm
  · rename_i l
    cases hm
    have hc' : l.length ≤ 100000 := hc
    obtain ⟨a, rfl, ha⟩ := args1 hargs
    rw [hP]
    rw [hE] at ha ⊢
    cases ha with
    | sl0 =>
      refine (clone87_nil w).mono ?_
      rintro e w' ⟨rfl, rfl⟩
      refine ⟨_, rfl, fresh_new (cs := []) (Below.refl _ _) (World.ownsRow_nil _ _ _ _) (by intro a e; cases e) (fun i h => absurd h (by simp)), Below.refl _ _⟩
    | sl _ _ b o cap f hb hcap hc hl =>
      have hidx : ∀ j, j < l.length * 4 → ∃ i k, ∃ (hi : i < l.length) (hk : k < (EE.enc .seg l[i]).length), j = i * UU.size .seg + k := fun j hj => by
        have hi : j / 4 < l.length := by omega
        refine ⟨j / 4, j % 4, hi, by rw [EE.enc_len]; exact Nat.mod_lt _ (by decide), ?_⟩
        show j = j / 4 * 4 + j % 4
        omega
      refine (clone87_some b o l.length cap f w (by omega) hc (fun j hj => ?_)).mono ?_
      · obtain ⟨i, k, hi, hk, rfl⟩ := hidx j hj
        have hfl := EE.enc_flat _ _ _ (List.getElem_mem hk)
        exact (hl i hi k hk).oneCell hfl.2 (fun nm g u h => by cases h) (fun id g h => by rw [h] at hfl; cases hfl.1) (fun id g i off sz h => by rw [h] at hfl; cases hfl.1) (fun id i g h => by rw [h] at hfl; cases hfl.1) (fun id i g j off sz h => by rw [h] at hfl; cases hfl.1)
      · rintro e w' ⟨v', rfl, h1, h2, h3⟩
        refine ⟨_, rfl, fresh_new h3 h1 h2 (fun i hi k hk => ?_), h3⟩
        have hk' : k < 4 := by
          have := hk
          rw [EE.enc_len] at this
          exact this
        rw [show i * UU.size .seg + k = i * 4 + k from rfl, map_range_getD _ _ _ (by
          have : i * 4 + 4 ≤ l.length * 4 := by
            have := Nat.mul_le_mul_right 4 (show i + 1 ≤ l.length from hi)
            omega
          omega)]
        exact hl i hi k hk
  · cases hm
set_option maxHeartbeats 2000000 in
set_option maxRecDepth 100000 in
theorem clone33_some (b off n c : Nat) (f : Nat → Value) (w : World) (hbig : n * 32 ≤ 140737488355328) (hc : ∀ j, j < n * 4 → w.cell? ⟨b, off + j, none⟩ = some (f j)) (h1 : ∀ j, j < n * 4 → (f j).oneCell' = true) :
    Calls Tryz.prog 33 #[.slice (some ⟨b, off, none⟩) n c] w fun e w' => ∃ v', e = .returned v' ∧ w'.ownsRow w.heap.size 65 4 v' n ((List.range (n * 4)).map f) ∧ (∀ a, v' ≠ .pointer a) ∧ Below w.heap.size w w' := by
  have q26 : ∀ (w : World) (a : Option Addr) (n c n' c' : Nat), (binOp .eql 22 (.slice a n c) (.slice none n' c')).run Tryz.prog w = .ok (.bool a.isNone) w := fun w a n c n' c' => Lib.run_eql_slice_nil w _ _ a n c n' c' Tryz.underlying22
  obtain ⟨i0, hi, hz0, hz1, hz2⟩ := info_parts (P := Tryz.prog) (e := 65) (z := .agg #[.int .i64 0, .int .i64 0, .int .i64 0, .int .i64 0]) (size := 4) (bytes := 32) (by kernel_rfl)
  have A : Aside ((∀ j, j < n * 4 → w.cell? ⟨b, off + j, none⟩ = some (f j)) ∧ ∀ j, j < n * 4 → (f j).oneCell' = true) := ⟨hc, h1⟩
  clear hc h1
  go_enter Tryz.func33, Tryz.ntmps33
  go_wp2_with (at_builtin; refine wpList_append_own _ rfl _ _ 22 rfl w.heap.size 65 i0 (.agg #[.int .i64 0, .int .i64 0, .int .i64 0, .int .i64 0]) 4 32 Tryz.underlying22 hi hz0 hz1 hz2 rfl (by decide) _ _ _ rfl (World.ownsRow_made w #[] 0 (Nat.le_refl _) (Nat.zero_le _) rfl) ⟨b, off, none⟩ n c ((List.range (n * 4)).map f) rfl ?qc1 ?qc2 ?qc3 ?qc4 ?qc5 ?qc6 ?_)
  case qc1 => simp
  case qc2 =>
    intro j u hj
    have hjn : j < n * 4 := by
      have := (List.getElem?_eq_some_iff.1 hj).1
      simpa using this
    rw [Addr.add_lit]
    refine Lib.cell?_alloc_some _ ?_
    rw [A.out.1 j hjn]
    simpa [hjn] using hj
  case qc3 =>
    intro u hu
    obtain ⟨x, hx, rfl⟩ := List.mem_map.1 hu
    exact A.out.2 x (List.mem_range.1 hx)
  case qc4 => unfold maxLen; omega
  case qc5 => omega
  case qc6 => simp
  intro v' w1 hown hgrow hnil
  go_wp2
  go_ret
  refine ⟨v', rfl, by simpa using hown, ?_, ?_⟩
  · intro a e
    subst e
    rcases hown.2 with ⟨h, _⟩ | ⟨_, _, _, h, _⟩ <;> cases h
  · exact ((Below.refl _ w).alloc (Nat.le_refl _) _).grown hgrow (by simp) (by intro k hk; simp [Value.ownBlock] at hk; omega)
set_option maxHeartbeats 1000000 in
theorem clone33_nil (w : World) :
    Calls Tryz.prog 33 #[.slice none 0 0] w fun e w' => e = .returned (.slice none 0 0) ∧ w' = w := by
  have q26 : ∀ (w : World) (a : Option Addr) (n c n' c' : Nat), (binOp .eql 22 (.slice a n c) (.slice none n' c')).run Tryz.prog w = .ok (.bool a.isNone) w := fun w a n c n' c' => Lib.run_eql_slice_nil w _ _ a n c n' c' Tryz.underlying22
  go_enter Tryz.func33, Tryz.ntmps33
  go_wp2
  go_ret
  exact ⟨rfl, rfl⟩
def mClone33 : Model UU
  | [.sl .rect xs] => some ([xs.length ≤ 100000], .new .rect xs)
  | _ => none
theorem sClone33 {C : Cfg UU} (hE : C.E = EE) (hs : SumOK C) (hP : C.P = Tryz.prog) : SumOK (C.add 33 mClone33) := by
  refine hs.put ⟨fun args w => by rw [hP]; exact callFunc_run (fn := Tryz.f33) Tryz.func33 (by kernel_rfl) rfl args w, ?_⟩
  intro N w args xs cs r hinv hN hargs hm hc
  unfold mClone33 at hm
  split at hm
  · rename_i l
    cases hm
    have hc' : l.length ≤ 100000 := hc
    obtain ⟨a, rfl, ha⟩ := args1 hargs
    rw [hP]
    rw [hE] at ha ⊢
    cases ha with
    | sl0 =>
      refine (clone33_nil w).mono ?_
      rintro e w' ⟨rfl, rfl⟩
      refine ⟨_, rfl, fresh_new (cs := []) (Below.refl _ _) (World.ownsRow_nil _ _ _ _) (by intro a e; cases e) (fun i h => absurd h (by simp)), Below.refl _ _⟩
    | sl _ _ b o cap f hb hcap hc hl =>
      have hidx : ∀ j, j < l.length * 4 → ∃ i k, ∃ (hi : i < l.length) (hk : k < (EE.enc .rect l[i]).length), j = i * UU.size .rect + k := fun j hj => by
        have hi : j / 4 < l.length := by omega
        refine ⟨j / 4, j % 4, hi, by rw [EE.enc_len]; exact Nat.mod_lt _ (by decide), ?_⟩
        show j = j / 4 * 4 + j % 4
        omega
      refine (clone33_some b o l.length cap f w (by omega) hc (fun j hj => ?_)).mono ?_
      · obtain ⟨i, k, hi, hk, rfl⟩ := hidx j hj
        have hfl := EE.enc_flat _ _ _ (List.getElem_mem hk)
        exact (hl i hi k hk).oneCell hfl.2 (fun nm g u h => by cases h) (fun id g h => by rw [h] at hfl; cases hfl.1) (fun id g i off sz h => by rw [h] at hfl; cases hfl.1) (fun id i g h => by rw [h] at hfl; cases hfl.1) (fun id i g j off sz h => by rw [h] at hfl; cases hfl.1)
      · rintro e w' ⟨v', rfl, h1, h2, h3⟩
        refine ⟨_, rfl, fresh_new h3 h1 h2 (fun i hi k hk => ?_), h3⟩
        have hk' : k < 4 := by
          have := hk
          rw [EE.enc_len] at this
          exact this
        rw [show i * UU.size .rect + k = i * 4 + k from rfl, map_range_getD _ _ _ (by
          have : i * 4 + 4 ≤ l.length * 4 := by
            have := Nat.mul_le_mul_right 4 (show i + 1 ≤ l.length from hi)
            omega
          omega)]
        exact hl i hi k hk
  · cases hm
end
end Go.Proofs.YteffpgliiilnjaaGreatDoor
namespace Go.Proofs
open Go.RowKit Go.Extern
theorem Tryz.valueOf165 (t : Addr) (w : World) : (ReflectliteValue.unpack (.iface 165 (.pointer (some t)))).run Tryz.prog w
    = .ok (.agg #[.pointer (some ⟨9, 165, none⟩), .pointer (some ⟨w.heap.size, 0, none⟩), .int .u64 150]) (w.alloc (.cells #[.pointer (some t)] 165)) := by kernel_rfl
theorem Tryz.rtype165 (a : Addr) (w : World) : (ReflectliteValue.methodAny (ReflectliteValue.valueError "reflectlite.Value.Type" 0) (fun t _ _ _ => ReflectliteType.toType t) #[.agg #[.pointer (some ⟨9, 165, none⟩), .pointer (some a), .int .u64 150]]).run Tryz.prog w
    = .ok (.iface 244 (.agg #[.pointer (some ⟨9, 165, none⟩)])) w := by kernel_rfl
theorem Tryz.methodKind (h : Value) (w : World) : (Go.method 453 244 (.agg #[h]) "Kind").run Tryz.prog w = .ok (263, h) w := by kernel_rfl
theorem Tryz.kind165 (w : World) : ((ReflectliteType.abiMethod fun t => (fun a : Nat => Value.int IntKind.u8 (a : Int)) <$> Rtype.kind t) #[.pointer (some ⟨9, 165, none⟩)]).run Tryz.prog w = .ok (.int .u8 22) w := by kernel_rfl
theorem Tryz.kind161 (w : World) : ((ReflectliteType.abiMethod fun t => (fun a : Nat => Value.int IntKind.u8 (a : Int)) <$> Rtype.kind t) #[.pointer (some ⟨9, 161, none⟩)]).run Tryz.prog w = .ok (.int .u8 25) w := by kernel_rfl
theorem rlm (z : Sem Value) (f : TypeId → Addr → Nat → Nat → Sem Value) (v : Value) :
    ReflectliteValue.method z f #[v] = (do match ← ReflectliteValue.parts v with | none => z | some (t, a, fl) => f t a fl (fl % 32)) := rfl
theorem Tryz.parts165 (a : Addr) (w : World) : (ReflectliteValue.parts (.agg #[.pointer (some ⟨9, 165, none⟩), .pointer (some a), .int .u64 150])).run Tryz.prog w = .ok (some (165, a, 150)) w := by kernel_rfl
theorem Tryz.isNil165 (a p : Addr) (W : World) (ha : W.cell? a = some (.pointer (some p))) :
    (ReflectliteValue.method (ReflectliteValue.valueError "reflectlite.Value.IsNil" 0) ReflectliteValue.isNil #[.agg #[.pointer (some ⟨9, 165, none⟩), .pointer (some a), .int .u64 150]]).run Tryz.prog W = .ok (.bool false) W := by
  rw [rlm]
  simp only [Sem.run_bind, Tryz.parts165, Result.andThen]
  simp [ReflectliteValue.isNil, loadVar, isAgg, underlying, Tryz.underlying165, ha, Result.andThen]
theorem Tryz.methodElem (h : Value) (w : World) : (Go.method 453 244 (.agg #[h]) "Elem").run Tryz.prog w = .ok (274, .agg #[h]) w := by kernel_rfl
theorem Tryz.methodImplements (h : Value) (w : World) : (Go.method 453 244 (.agg #[h]) "Implements").run Tryz.prog w = .ok (275, .agg #[h]) w := by kernel_rfl
theorem Tryz.methodAssignableTo (h : Value) (w : World) : (Go.method 453 244 (.agg #[h]) "AssignableTo").run Tryz.prog w = .ok (272, .agg #[h]) w := by kernel_rfl
theorem Tryz.elem165 (w : World) : (ReflectliteType.method ReflectliteType.elem #[.agg #[.pointer (some ⟨9, 165, none⟩)]]).run Tryz.prog w = .ok (.iface 244 (.agg #[.pointer (some ⟨9, 161, none⟩)])) w := by kernel_rfl
theorem Tryz.implements161 (w : World) : (ReflectliteType.relation "Implements" ReflectliteType.implements_ #[.agg #[.pointer (some ⟨9, 161, none⟩)], .iface 244 (.agg #[.pointer (some ⟨9, 73, none⟩)])]).run Tryz.prog w = .ok (.bool true) w := by kernel_rfl
theorem Tryz.typeOf161 (v : Value) (w : World) : (ReflectliteType.typeOf #[.iface 161 v]).run Tryz.prog w = .ok (.iface 244 (.agg #[.pointer (some ⟨9, 161, none⟩)])) w := by kernel_rfl
theorem Tryz.assignable161 (w : World) : (ReflectliteType.relation "AssignableTo" ReflectliteType.assignableTo #[.agg #[.pointer (some ⟨9, 161, none⟩)], .iface 244 (.agg #[.pointer (some ⟨9, 161, none⟩)])]).run Tryz.prog w = .ok (.bool true) w := by kernel_rfl
theorem Tryz.valueOf161 (n : Int) (w : World) : (ReflectliteValue.unpack (.iface 161 (.agg #[.int .i64 n]))).run Tryz.prog w
    = .ok (.agg #[.pointer (some ⟨9, 161, none⟩), .pointer (some ⟨w.heap.size, 0, none⟩), .int .u64 153]) (w.alloc (.cells #[.int .i64 n] 161)) := by kernel_rfl
theorem Tryz.elemOf165 (w : World) : (Rtype.elem? 165).run Tryz.prog w = .ok (some 161) w := by kernel_rfl
theorem Tryz.mk161 (p : Addr) (w : World) : (ReflectliteValue.mk 161 p ReflectliteValue.flagAddr).run Tryz.prog w = .ok (.agg #[.pointer (some ⟨9, 161, none⟩), .pointer (some p), .int .u64 409]) w := by kernel_rfl
theorem Tryz.elemV165 (a p : Addr) (W : World) (ha : W.cell? a = some (.pointer (some p))) :
    (ReflectliteValue.method (ReflectliteValue.valueError "reflectlite.Value.Elem" 0) ReflectliteValue.elem #[.agg #[.pointer (some ⟨9, 165, none⟩), .pointer (some a), .int .u64 150]]).run Tryz.prog W
      = .ok (.agg #[.pointer (some ⟨9, 161, none⟩), .pointer (some p), .int .u64 409]) W := by
  rw [rlm]
  simp only [Sem.run_bind, Tryz.parts165, Result.andThen]
  simp [ReflectliteValue.elem, loadVar, isAgg, underlying, Tryz.underlying165, ha, Result.andThen, Tryz.elemOf165, Tryz.mk161]
theorem rls (v x : Value) : ReflectliteValue.set #[v, x] = (do
    let (some (dst, a, fl), some (src, b, _)) := (← ReflectliteValue.parts v, ← ReflectliteValue.parts x)
      | unsupported (.noEntry "extern/(internal/reflectlite.Value).Set.zeroValue")
    if fl / ReflectliteValue.flagAddr % 2 == 0 then unsupported (.noEntry "extern/(internal/reflectlite.Value).Set.unaddressable")
    let val ← loadVar src b
    if ← Rtype.directlyAssignable dst src then storeVar dst a val
    else if ← Rtype.implements dst src then
      if (← Rtype.kind src) == 20 then
        match val with
        | .nilIface => unsupported (.noEntry "extern/reflectlite: a nil value of one interface type handed on as a value of another")
        | _ => storeVar dst a val
      else storeVar dst a (.iface src val)
    else panicString ("reflectlite.Set: value of type " ++ (← Rtype.spelt src) ++ " is not assignable to type " ++ (← Rtype.spelt dst))
    pure (.tuple #[])) := rfl
theorem Tryz.parts161a (a : Addr) (w : World) : (ReflectliteValue.parts (.agg #[.pointer (some ⟨9, 161, none⟩), .pointer (some a), .int .u64 409])).run Tryz.prog w = .ok (some (161, a, 409)) w := by kernel_rfl
theorem Tryz.parts161 (a : Addr) (w : World) : (ReflectliteValue.parts (.agg #[.pointer (some ⟨9, 161, none⟩), .pointer (some a), .int .u64 153])).run Tryz.prog w = .ok (some (161, a, 153)) w := by kernel_rfl
theorem Tryz.direct161 (w : World) : (Rtype.directlyAssignable 161 161).run Tryz.prog w = .ok true w := by kernel_rfl
theorem Tryz.set161 (ta b : Addr) (n : Int) (old : Value) (W : World) (hb : W.cell? b = some (.int .i64 n)) (ht : W.cell? ta = some old) (hf : W.frozen? ta = false) :
    (ReflectliteValue.set #[.agg #[.pointer (some ⟨9, 161, none⟩), .pointer (some ta), .int .u64 409], .agg #[.pointer (some ⟨9, 161, none⟩), .pointer (some b), .int .u64 153]]).run Tryz.prog W
      = .ok (.tuple #[]) (W.setCell ta (.int .i64 n)) := by
  have hl : (loadVar 161 b).run Tryz.prog W = .ok (.agg #[.int .i64 n]) W := by
    simp [loadVar, isAgg, underlying, Tryz.underlying161, Result.andThen, loadCells, loadCellsFrom, hb, Addr.add]
  rw [rls]
  simp only [Sem.run_bind, Tryz.parts161a, Tryz.parts161, Result.andThen]
  simp only [ReflectliteValue.flagAddr]
  simp [hl, Result.andThen, Tryz.direct161, storeVar, Value.cells, storeCells, Addr.add]
  rw [run_store Tryz.prog W ta _ _ (by rfl)]
  simp [ht, hf]
end Go.Proofs
namespace Go.Proofs
open Go.RowKit Go.Extern
set_option linter.unusedVariables false
set_option maxHeartbeats 4000000 in
set_option maxRecDepth 100000 in
theorem Tryz.as_hit (n : Int) (t b : Addr) (old : Value) (w : World) (hb : w.cell? b = some (.pointer (some t))) (ht0 : w.cell? t = some old) (hf0 : w.frozen? t = false) :
    Calls Tryz.prog 137 #[.iface 161 (.agg #[.int .i64 n]), .iface 165 (.pointer (some t)), .agg #[.pointer (some ⟨9, 165, none⟩), .pointer (some b), .int .u64 150], .iface 244 (.agg #[.pointer (some ⟨9, 161, none⟩)])] w fun ev w' => ev = .returned (.bool true) ∧ w' = ((w.alloc (.cells #[.pointer (some ⟨9, 165, none⟩), .pointer (some b), .int .u64 150] 208)).alloc (.cells #[.int .i64 n] 161)).setCell t (.int .i64 n) := by
  have h10 := @run_callFunc_extern Tryz.prog 171 _ ReflectliteType.typeOf Tryz.func171 (by kernel_rfl) (by kernel_rfl) (by kernel_rfl) (by kernel_rfl)
  have h35 := @run_callFunc_extern Tryz.prog 272 _ (ReflectliteType.relation "AssignableTo" ReflectliteType.assignableTo) Tryz.func272 (by kernel_rfl) (by kernel_rfl) (by kernel_rfl) (by kernel_rfl)
  have h11 := @run_callFunc_extern Tryz.prog 172 _ (ReflectliteValue.method (ReflectliteValue.valueError "reflectlite.Value.Elem" 0) ReflectliteValue.elem) Tryz.func172 (by kernel_rfl) (by kernel_rfl) (by kernel_rfl) (by kernel_rfl)
  have h6 := @run_callFunc_extern Tryz.prog 134 _ (fun args => ReflectliteValue.unpack (args.getD 0 (.tuple #[]))) Tryz.func134 (by kernel_rfl) (by kernel_rfl) (by kernel_rfl) (by kernel_rfl)
  have h12 := @run_callFunc_extern Tryz.prog 173 _ ReflectliteValue.set Tryz.func173 (by kernel_rfl) (by kernel_rfl) (by kernel_rfl) (by kernel_rfl)
  have tO := Tryz.typeOf161
  have mA := Tryz.methodAssignableTo
  have a25 := Tryz.assignable161
  have v25 := Tryz.valueOf161
  have htl : t.block < w.heap.size := by
    rcases Nat.lt_or_ge t.block w.heap.size with h | h
    · exact h
    · simp [World.cell?, Array.getElem?_eq_none h] at ht0
  have hbl : b.block < w.heap.size := by
    rcases Nat.lt_or_ge b.block w.heap.size with h | h
    · exact h
    · simp [World.cell?, Array.getElem?_eq_none h] at hb
  have el := Tryz.elemV165 b t (w.alloc (.cells #[.pointer (some ⟨9, 165, none⟩), .pointer (some b), .int .u64 150] 208)) (by rw [World.cell?_alloc_lt _ _ b hbl]; exact hb)
  have st := Tryz.set161 t ⟨w.heap.size + 1, 0, none⟩ n old ((w.alloc (.cells #[.pointer (some ⟨9, 165, none⟩), .pointer (some b), .int .u64 150] 208)).alloc (.cells #[.int .i64 n] 161))
    (by rw [World.cell?_alloc_at _ _ _ _ (by simp)]; rfl)
    (by rw [World.cell?_alloc_lt _ _ t (by simp; omega), World.cell?_alloc_lt _ _ t htl]; exact ht0)
    (by rw [World.frozen?_alloc_old _ _ t (by simp; omega), World.frozen?_alloc_old _ _ t (Nat.ne_of_lt htl)]; exact hf0)
  go_enter Tryz.func137, Tryz.ntmps137
  go_wp2
  refine wp_loop_rounds 1 ?_
  rw [rounds_succ]
  go_wp2
  go_ret
  exact ⟨rfl, rfl⟩
set_option maxHeartbeats 4000000 in
set_option maxRecDepth 100000 in
theorem Tryz.errors_As (n : Int) (t : Addr) (old : Value) (w : World) (hg : w.cell? ⟨0, 0, none⟩ = some (.iface 244 (.agg #[.pointer (some ⟨9, 73, none⟩)]))) (ht0 : w.cell? t = some old) (hf0 : w.frozen? t = false) :
    Calls Tryz.prog 86 #[.iface 161 (.agg #[.int .i64 n]), .iface 165 (.pointer (some t))] w fun ev w' => ev = .returned (.bool true) ∧ w' = ((((w.alloc (.cells #[.pointer (some t)] 165)).alloc (.cells #[.pointer (some ⟨9, 165, none⟩), .pointer (some ⟨w.heap.size, 0, none⟩), .int .u64 150] 208)).alloc (.cells #[.pointer (some ⟨9, 165, none⟩), .pointer (some ⟨w.heap.size, 0, none⟩), .int .u64 150] 208)).alloc (.cells #[.int .i64 n] 161)).setCell t (.int .i64 n) := by
  have h6 := @run_callFunc_extern Tryz.prog 134 _ (fun args => ReflectliteValue.unpack (args.getD 0 (.tuple #[]))) Tryz.func134 (by kernel_rfl) (by kernel_rfl) (by kernel_rfl) (by kernel_rfl)
  have h7 := @run_callFunc_extern Tryz.prog 135 _ (ReflectliteValue.methodAny (ReflectliteValue.valueError "reflectlite.Value.Type" 0) (fun t _ _ _ => ReflectliteType.toType t)) Tryz.func135 (by kernel_rfl) (by kernel_rfl) (by kernel_rfl) (by kernel_rfl)
  have h8 := @run_callFunc_extern Tryz.prog 136 _ (ReflectliteValue.method (ReflectliteValue.valueError "reflectlite.Value.IsNil" 0) ReflectliteValue.isNil) Tryz.func136 (by kernel_rfl) (by kernel_rfl) (by kernel_rfl) (by kernel_rfl)
  have h27 := @run_callFunc_extern Tryz.prog 263 _ (ReflectliteType.abiMethod fun t => do pure (.int .u8 (← Rtype.kind t))) Tryz.func263 (by kernel_rfl) (by kernel_rfl) (by kernel_rfl) (by kernel_rfl)
  have h37 := @run_callFunc_extern Tryz.prog 274 _ (ReflectliteType.method ReflectliteType.elem) Tryz.func274 (by kernel_rfl) (by kernel_rfl) (by kernel_rfl) (by kernel_rfl)
  have h38 := @run_callFunc_extern Tryz.prog 275 _ (ReflectliteType.relation "Implements" ReflectliteType.implements_) Tryz.func275 (by kernel_rfl) (by kernel_rfl) (by kernel_rfl) (by kernel_rfl)
  have f6 := Tryz.valueOf165
  have f7 := Tryz.rtype165
  have mK := Tryz.methodKind
  have mE := Tryz.methodElem
  have mI := Tryz.methodImplements
  have k27 := Tryz.kind165
  have k25 := Tryz.kind161
  have e27 := Tryz.elem165
  have i25 := Tryz.implements161
  have hlt : 0 < w.heap.size := by
    rcases Nat.eq_zero_or_pos w.heap.size with h0 | h
    · simp [World.cell?, h0] at hg
    · exact h
  have htl : t.block < w.heap.size := by
    rcases Nat.lt_or_ge t.block w.heap.size with h | h
    · exact h
    · simp [World.cell?, Array.getElem?_eq_none h] at ht0
  have n8 := Tryz.isNil165 ⟨w.heap.size, 0, none⟩ t ((w.alloc (.cells #[.pointer (some t)] 165)).alloc (.cells #[.pointer (some ⟨9, 165, none⟩), .pointer (some ⟨w.heap.size, 0, none⟩), .int .u64 150] 208)) (by simp)
  have hg2 : ((w.alloc (.cells #[.pointer (some t)] 165)).alloc (.cells #[.pointer (some ⟨9, 165, none⟩), .pointer (some ⟨w.heap.size, 0, none⟩), .int .u64 150] 208)).cell? ⟨0, 0, none⟩ = some (.iface 244 (.agg #[.pointer (some ⟨9, 73, none⟩)])) := by
    rw [World.cell?_alloc_lt _ _ ⟨0, 0, none⟩ (by simp), World.cell?_alloc_lt _ _ ⟨0, 0, none⟩ hlt]; exact hg
  have hA := Tryz.as_hit n t ⟨w.heap.size, 0, none⟩ old ((w.alloc (.cells #[.pointer (some t)] 165)).alloc (.cells #[.pointer (some ⟨9, 165, none⟩), .pointer (some ⟨w.heap.size, 0, none⟩), .int .u64 150] 208)) (by simp)
    (by rw [World.cell?_alloc_lt _ _ t (by simp; omega), World.cell?_alloc_lt _ _ t htl]; exact ht0)
    (by rw [World.frozen?_alloc_old _ _ t (by simp; omega), World.frozen?_alloc_old _ _ t (Nat.ne_of_lt htl)]; exact hf0)
  clear hg
  go_enter Tryz.func86, Tryz.ntmps86
  go_wp2_with (go_at_call 137; refine hA.mono ?_; rintro e w' ⟨rfl, rfl⟩)
  go_ret
  exact ⟨rfl, rfl⟩
end Go.Proofs
namespace Go.Proofs
open Go.RowKit Go.Sort Go.Proofs.YteffpgliiilnjaaGreatDoor
set_option linter.unusedVariables false
theorem Tryz.isNaN_int (x : Int) (w : World) : Calls Tryz.prog 184 #[.int .i64 x] w fun e w' => e = .returned (.bool false) ∧ w' = w := by
  go_enter Tryz.func184, Tryz.ntmps184
  go_wp2
  go_ret
  exact ⟨rfl, rfl⟩
theorem Tryz.compare_int (x y : Int) (w : World) : Calls Tryz.prog 141 #[.int .i64 x, .int .i64 y] w fun e w' => e = .returned (.int .i64 (Lib.compareInt x y)) ∧ w' = w := by
  have h := fun x => Tryz.isNaN_int x w
  unfold Lib.compareInt
  by_cases h1 : x < y
  · have h1' : decide (x < y) = true := by simpa using h1
    rw [if_pos h1]
    go_enter Tryz.func141, Tryz.ntmps141
    go_wp2_with (go_at_call 184; refine (h _).mono ?_; rintro e w' ⟨rfl, rfl⟩)
    go_ret
    exact ⟨rfl, rfl⟩
  · have h1' : decide (x < y) = false := by simpa using h1
    rw [if_neg h1]
    by_cases h2 : y < x
    · have h2' : decide (y < x) = true := by simpa using h2
      rw [if_pos h2]
      go_enter Tryz.func141, Tryz.ntmps141
      go_wp2_with (go_at_call 184; refine (h _).mono ?_; rintro e w' ⟨rfl, rfl⟩)
      go_ret
      exact ⟨rfl, rfl⟩
    · have h2' : decide (y < x) = false := by simpa using h2
      rw [if_neg h2]
      go_enter Tryz.func141, Tryz.ntmps141
      go_wp2_with (go_at_call 184; refine (h _).mono ?_; rintro e w' ⟨rfl, rfl⟩)
      go_ret
      exact ⟨rfl, rfl⟩
theorem Tryz.or_int (b : Nat) (x y z : Int) (w : World) (hx : w.cell? ⟨b, 0, none⟩ = some (.int .i64 x)) (hy : w.cell? ⟨b, 1, none⟩ = some (.int .i64 y)) (hz : w.cell? ⟨b, 2, none⟩ = some (.int .i64 z)) :
    Calls Tryz.prog 140 #[.slice (some ⟨b, 0, none⟩) 3 3] w fun e w' => e = .returned (.int .i64 (or3 x y z)) ∧ w' = w := by
  unfold or3
  by_cases h1 : x = 0
  · subst h1
    rw [if_neg (by simp)]
    by_cases h2 : y = 0
    · subst h2
      rw [if_neg (by simp)]
      by_cases h3 : z = 0
      · subst h3
        go_enter Tryz.func140, Tryz.ntmps140
        go_wp2
        refine wp_loop_rounds 4 ?_
        iterate 4 (rw [rounds_succ]; go_wp2)
        go_ret
        exact ⟨rfl, rfl⟩
      · go_enter Tryz.func140, Tryz.ntmps140
        go_wp2
        refine wp_loop_rounds 3 ?_
        iterate 3 (rw [rounds_succ]; go_wp2)
        go_ret
        exact ⟨rfl, rfl⟩
    · rw [if_pos h2]
      go_enter Tryz.func140, Tryz.ntmps140
      go_wp2
      refine wp_loop_rounds 2 ?_
      iterate 2 (rw [rounds_succ]; go_wp2)
      go_ret
      exact ⟨rfl, rfl⟩
  · rw [if_pos h1]
    go_enter Tryz.func140, Tryz.ntmps140
    go_wp2
    refine wp_loop_rounds 1 ?_
    rw [rounds_succ]
    go_wp2
    go_ret
    exact ⟨rfl, rfl⟩
end Go.Proofs
namespace Go.Proofs
open Go.RowKit Go.Sort Go.Proofs.YteffpgliiilnjaaGreatDoor
set_option linter.unusedVariables false
def encS (s : Seg) : List Value := [.int .i64 s.X1, .int .i64 s.Y1, .int .i64 s.X2, .int .i64 s.Y2]
theorem alloc_as_grow (w : World) (o : Obj) : w.alloc o = grow w #[o] := rfl
set_option maxHeartbeats 4000000 in
set_option maxRecDepth 100000 in
theorem Tryz.orderLines_lt (ax ay ax2 ay2 bx by_ bx2 by2 : Int) (w : World) (h1 : ay = ay2) (h2 : ¬ by_ = by2) : Calls Tryz.prog 89 #[.agg #[.int .i64 ax, .int .i64 ay, .int .i64 ax2, .int .i64 ay2], .agg #[.int .i64 bx, .int .i64 by_, .int .i64 bx2, .int .i64 by2]] w fun e w' => e = .returned (.int .i64 (-1)) ∧ ∃ q os, w' = grow (w.drewN q) os := by
  have e1 : (ay == ay2) = true := by simpa using h1
  have e2 : (by_ == by2) = false := by simpa using h2
  clear h1 h2
  go_enter Tryz.func89, Tryz.ntmps89
  go_wp2
  go_region_held3 (fun w' => w'.cell? ⟨w.heap.size, 0, none⟩ = some (.int .i64 ax) ∧ w'.cell? ⟨w.heap.size, 1, none⟩ = some (.int .i64 ay) ∧ w'.cell? ⟨w.heap.size, 2, none⟩ = some (.int .i64 ax2) ∧ w'.cell? ⟨w.heap.size, 3, none⟩ = some (.int .i64 ay2) ∧ w'.cell? ⟨w.heap.size + 1, 0, none⟩ = some (.int .i64 bx) ∧ w'.cell? ⟨w.heap.size + 1, 1, none⟩ = some (.int .i64 by_) ∧ w'.cell? ⟨w.heap.size + 1, 2, none⟩ = some (.int .i64 bx2) ∧ w'.cell? ⟨w.heap.size + 1, 3, none⟩ = some (.int .i64 by2)) (go_keep) (fail)
  all_goals go_wp2
  all_goals go_ret
  all_goals exact ⟨rfl, _, _, by rw [alloc_as_grow, alloc_as_grow, grow_grow, drew_grow]; rfl⟩
set_option maxHeartbeats 4000000 in
set_option maxRecDepth 100000 in
theorem Tryz.orderLines_gt (ax ay ax2 ay2 bx by_ bx2 by2 : Int) (w : World) (h1 : ¬ ay = ay2) (h2 : by_ = by2) : Calls Tryz.prog 89 #[.agg #[.int .i64 ax, .int .i64 ay, .int .i64 ax2, .int .i64 ay2], .agg #[.int .i64 bx, .int .i64 by_, .int .i64 bx2, .int .i64 by2]] w fun e w' => e = .returned (.int .i64 (1)) ∧ ∃ q os, w' = grow (w.drewN q) os := by
  have e1 : (ay == ay2) = false := by simpa using h1
  have e2 : (by_ == by2) = true := by simpa using h2
  clear h1 h2
  go_enter Tryz.func89, Tryz.ntmps89
  go_wp2
  go_region_held3 (fun w' => w'.cell? ⟨w.heap.size, 0, none⟩ = some (.int .i64 ax) ∧ w'.cell? ⟨w.heap.size, 1, none⟩ = some (.int .i64 ay) ∧ w'.cell? ⟨w.heap.size, 2, none⟩ = some (.int .i64 ax2) ∧ w'.cell? ⟨w.heap.size, 3, none⟩ = some (.int .i64 ay2) ∧ w'.cell? ⟨w.heap.size + 1, 0, none⟩ = some (.int .i64 bx) ∧ w'.cell? ⟨w.heap.size + 1, 1, none⟩ = some (.int .i64 by_) ∧ w'.cell? ⟨w.heap.size + 1, 2, none⟩ = some (.int .i64 bx2) ∧ w'.cell? ⟨w.heap.size + 1, 3, none⟩ = some (.int .i64 by2)) (go_keep) (fail)
  all_goals go_wp2
  all_goals go_ret
  all_goals exact ⟨rfl, _, _, by rw [alloc_as_grow, alloc_as_grow, grow_grow, drew_grow]; rfl⟩
set_option maxHeartbeats 4000000 in
set_option maxRecDepth 100000 in
theorem Tryz.orderLines_flat (ax ay ax2 ay2 bx by_ bx2 by2 : Int) (w : World) (h1 : ay = ay2) (h2 : by_ = by2) : Calls Tryz.prog 89 #[.agg #[.int .i64 ax, .int .i64 ay, .int .i64 ax2, .int .i64 ay2], .agg #[.int .i64 bx, .int .i64 by_, .int .i64 bx2, .int .i64 by2]] w fun e w' => e = .returned (.int .i64 (or3 (Lib.compareInt ay by_) (Lib.compareInt ax bx) (Lib.compareInt ax2 bx2))) ∧ ∃ q os, w' = grow (w.drewN q) os := by
  have e1 : (ay == ay2) = true := by simpa using h1
  have e2 : (by_ == by2) = true := by simpa using h2
  clear h1 h2
  go_enter Tryz.func89, Tryz.ntmps89
  go_wp2
  go_region_held3 (fun w' => w'.cell? ⟨w.heap.size, 0, none⟩ = some (.int .i64 ax) ∧ w'.cell? ⟨w.heap.size, 1, none⟩ = some (.int .i64 ay) ∧ w'.cell? ⟨w.heap.size, 2, none⟩ = some (.int .i64 ax2) ∧ w'.cell? ⟨w.heap.size, 3, none⟩ = some (.int .i64 ay2) ∧ w'.cell? ⟨w.heap.size + 1, 0, none⟩ = some (.int .i64 bx) ∧ w'.cell? ⟨w.heap.size + 1, 1, none⟩ = some (.int .i64 by_) ∧ w'.cell? ⟨w.heap.size + 1, 2, none⟩ = some (.int .i64 bx2) ∧ w'.cell? ⟨w.heap.size + 1, 3, none⟩ = some (.int .i64 by2)) (go_keep) (fail)
  all_goals go_wp2
  all_goals (go_region_held3 (fun w' => w'.cell? ⟨w.heap.size, 0, none⟩ = some (.int .i64 ax) ∧ w'.cell? ⟨w.heap.size, 1, none⟩ = some (.int .i64 ay) ∧ w'.cell? ⟨w.heap.size, 2, none⟩ = some (.int .i64 ax2) ∧ w'.cell? ⟨w.heap.size, 3, none⟩ = some (.int .i64 ay2) ∧ w'.cell? ⟨w.heap.size + 1, 0, none⟩ = some (.int .i64 bx) ∧ w'.cell? ⟨w.heap.size + 1, 1, none⟩ = some (.int .i64 by_) ∧ w'.cell? ⟨w.heap.size + 1, 2, none⟩ = some (.int .i64 bx2) ∧ w'.cell? ⟨w.heap.size + 1, 3, none⟩ = some (.int .i64 by2)) (go_keep) (first | (go_at_call 141; refine (Tryz.compare_int _ _ _).mono ?_; rintro e w' ⟨rfl, rfl⟩) | (go_at_call 140; refine (Tryz.or_int _ (Lib.compareInt ay by_) (Lib.compareInt ax bx) (Lib.compareInt ax2 bx2) _ (by simp; rw [World.cell?_alloc_at _ _ _ _ (by simp)]; rfl) (by simp; rw [World.cell?_alloc_at _ _ _ _ (by simp)]; rfl) (by simp; rw [World.cell?_alloc_at _ _ _ _ (by simp)]; rfl)).mono ?_; rintro e w' ⟨rfl, rfl⟩)))
  all_goals go_wp2
  all_goals go_ret
  all_goals exact ⟨rfl, 2, _, by simp only [alloc_as_grow, grow_grow, drew_grow]; rfl⟩
set_option maxHeartbeats 4000000 in
set_option maxRecDepth 100000 in
theorem Tryz.orderLines_up (ax ay ax2 ay2 bx by_ bx2 by2 : Int) (w : World) (h1 : ¬ ay = ay2) (h2 : ¬ by_ = by2) : Calls Tryz.prog 89 #[.agg #[.int .i64 ax, .int .i64 ay, .int .i64 ax2, .int .i64 ay2], .agg #[.int .i64 bx, .int .i64 by_, .int .i64 bx2, .int .i64 by2]] w fun e w' => e = .returned (.int .i64 (or3 (Lib.compareInt ax bx) (Lib.compareInt ay by_) (Lib.compareInt ay2 by2))) ∧ ∃ q os, w' = grow (w.drewN q) os := by
  have e1 : (ay == ay2) = false := by simpa using h1
  have e2 : (by_ == by2) = false := by simpa using h2
  clear h1 h2
  go_enter Tryz.func89, Tryz.ntmps89
  go_wp2
  go_region_held3 (fun w' => w'.cell? ⟨w.heap.size, 0, none⟩ = some (.int .i64 ax) ∧ w'.cell? ⟨w.heap.size, 1, none⟩ = some (.int .i64 ay) ∧ w'.cell? ⟨w.heap.size, 2, none⟩ = some (.int .i64 ax2) ∧ w'.cell? ⟨w.heap.size, 3, none⟩ = some (.int .i64 ay2) ∧ w'.cell? ⟨w.heap.size + 1, 0, none⟩ = some (.int .i64 bx) ∧ w'.cell? ⟨w.heap.size + 1, 1, none⟩ = some (.int .i64 by_) ∧ w'.cell? ⟨w.heap.size + 1, 2, none⟩ = some (.int .i64 bx2) ∧ w'.cell? ⟨w.heap.size + 1, 3, none⟩ = some (.int .i64 by2)) (go_keep) (fail)
  all_goals go_wp2
  all_goals (go_region_held3 (fun w' => w'.cell? ⟨w.heap.size, 0, none⟩ = some (.int .i64 ax) ∧ w'.cell? ⟨w.heap.size, 1, none⟩ = some (.int .i64 ay) ∧ w'.cell? ⟨w.heap.size, 2, none⟩ = some (.int .i64 ax2) ∧ w'.cell? ⟨w.heap.size, 3, none⟩ = some (.int .i64 ay2) ∧ w'.cell? ⟨w.heap.size + 1, 0, none⟩ = some (.int .i64 bx) ∧ w'.cell? ⟨w.heap.size + 1, 1, none⟩ = some (.int .i64 by_) ∧ w'.cell? ⟨w.heap.size + 1, 2, none⟩ = some (.int .i64 bx2) ∧ w'.cell? ⟨w.heap.size + 1, 3, none⟩ = some (.int .i64 by2)) (go_keep) (first | (go_at_call 141; refine (Tryz.compare_int _ _ _).mono ?_; rintro e w' ⟨rfl, rfl⟩) | (go_at_call 140; refine (Tryz.or_int _ (Lib.compareInt ax bx) (Lib.compareInt ay by_) (Lib.compareInt ay2 by2) _ (by simp; rw [World.cell?_alloc_at _ _ _ _ (by simp)]; rfl) (by simp; rw [World.cell?_alloc_at _ _ _ _ (by simp)]; rfl) (by simp; rw [World.cell?_alloc_at _ _ _ _ (by simp)]; rfl)).mono ?_; rintro e w' ⟨rfl, rfl⟩)))
  all_goals go_wp2
  all_goals go_ret
  all_goals exact ⟨rfl, 2, _, by simp only [alloc_as_grow, grow_grow, drew_grow]; rfl⟩
theorem Tryz.orderLines (a b : Seg) (w : World) : Calls Tryz.prog 89 #[.agg (encS a).toArray, .agg (encS b).toArray] w fun e w' => e = .returned (.int .i64 (ordS a b)) ∧ ∃ q os, w' = grow (w.drewN q) os := by
  obtain ⟨ax, ay, ax2, ay2⟩ := a
  obtain ⟨bx, by_, bx2, by2⟩ := b
  unfold ordS
  dsimp only
  by_cases h1 : ay = ay2 <;> by_cases h2 : by_ = by2
  · rw [if_neg (by simp [h2]), if_neg (by simp [h1]), if_pos h1]
    exact Tryz.orderLines_flat _ _ _ _ _ _ _ _ w h1 h2
  · rw [if_pos ⟨h1, h2⟩]
    exact Tryz.orderLines_lt _ _ _ _ _ _ _ _ w h1 h2
  · rw [if_neg (by simp [h1]), if_pos ⟨h2, h1⟩]
    exact Tryz.orderLines_gt _ _ _ _ _ _ _ _ w h1 h2
  · rw [if_neg (by simp [h1]), if_neg (by simp [h2]), if_neg h1]
    exact Tryz.orderLines_up _ _ _ _ _ _ _ _ w h1 h2
end Go.Proofs
namespace Go.Proofs
open Go.Shelf
def Tryz.laysSlF06_f88_ren : Go.Shelf.Ren := ⟨fun | 6 => 88 | 15 => 139 | 14 => 138 | 28 => 182 | 29 => 183 | 20 => 174 | 21 => 175 | 22 => 176 | 23 => 177 | 24 => 178 | 25 => 179 | 26 => 180 | 27 => 181 | 46 => 208 | 47 => 209 | 48 => 210 | 49 => 211 | 50 => 212 | 57 => 236 | n => n, fun | 22 => 26 | 24 => 43 | 25 => 167 | 3 => 3 | 39 => 184 | 0 => 0 | 53 => 265 | 55 => 267 | 4 => 4 | 46 => 259 | 45 => 258 | 50 => 193 | 5 => 5 | 9 => 9 | 66 => 285 | 70 => 289 | 76 => 310 | 77 => 105 | n => n, fun | n => n⟩
theorem Tryz.laysSlF06_f88 : Go.Proofs.SlLaysF0.n6 Tryz.prog Tryz.laysSlF06_f88_ren := {
  mixed := by kernel_rfl
  f6 := ⟨Tryz.f88.name, by decide, Tryz.func88.trans (congrArg some (by kernel_rfl))⟩
  f14 := ⟨Tryz.f138.name, by decide, Tryz.func138.trans (congrArg some (by kernel_rfl))⟩
  f15 := Tryz.func139.trans (congrArg some (by kernel_rfl))
  f20 := ⟨Tryz.f174.name, by decide, Tryz.func174.trans (congrArg some (by kernel_rfl))⟩
  f21 := ⟨Tryz.f175.name, by decide, Tryz.func175.trans (congrArg some (by kernel_rfl))⟩
  f22 := ⟨Tryz.f176.name, by decide, Tryz.func176.trans (congrArg some (by kernel_rfl))⟩
  f23 := ⟨Tryz.f177.name, by decide, Tryz.func177.trans (congrArg some (by kernel_rfl))⟩
  f24 := ⟨Tryz.f178.name, by decide, Tryz.func178.trans (congrArg some (by kernel_rfl))⟩
  f25 := ⟨Tryz.f179.name, by decide, Tryz.func179.trans (congrArg some (by kernel_rfl))⟩
  f26 := ⟨Tryz.f180.name, by decide, Tryz.func180.trans (congrArg some (by kernel_rfl))⟩
  f27 := ⟨Tryz.f181.name, by decide, Tryz.func181.trans (congrArg some (by kernel_rfl))⟩
  f28 := Tryz.func182.trans (congrArg some (by kernel_rfl))
  f29 := Tryz.func183.trans (congrArg some (by kernel_rfl))
  f46 := ⟨Tryz.f208.name, by decide, Tryz.func208.trans (congrArg some (by kernel_rfl))⟩
  f47 := Tryz.func209.trans (congrArg some (by kernel_rfl))
  f48 := Tryz.func210.trans (congrArg some (by kernel_rfl))
  f49 := ⟨Tryz.f211.name, by decide, Tryz.func211.trans (congrArg some (by kernel_rfl))⟩
  f50 := ⟨Tryz.f212.name, by decide, Tryz.func212.trans (congrArg some (by kernel_rfl))⟩
  f57 := ⟨Tryz.f236.name, by decide, Tryz.func236.trans (congrArg some (by kernel_rfl))⟩
  t0 := Tryz.underlying0
  a0 := Tryz.isAgg0
  z0 := Tryz.sizeOf0
  v0 := Tryz.zeroValue0
  t3 := Tryz.underlying3
  a3 := Tryz.isAgg3
  z3 := Tryz.sizeOf3
  v3 := Tryz.zeroValue3
  t4 := Tryz.underlying4
  a4 := Tryz.isAgg4
  z4 := Tryz.sizeOf4
  v4 := Tryz.zeroValue4
  t5 := Tryz.underlying5
  a5 := Tryz.isAgg5
  z5 := Tryz.sizeOf5
  v5 := Tryz.zeroValue5
  t9 := Tryz.underlying9
  a9 := Tryz.isAgg9
  z9 := Tryz.sizeOf9
  v9 := Tryz.zeroValue9
  t22 := Tryz.underlying26
  a22 := Tryz.isAgg26
  z22 := Tryz.sizeOf26
  v22 := Tryz.zeroValue26
  t25 := Tryz.underlying167
  a25 := Tryz.isAgg167
  z25 := Tryz.sizeOf167
  v25 := Tryz.zeroValue167
  t39 := Tryz.underlying184
  a39 := Tryz.isAgg184
  z39 := Tryz.sizeOf184
  v39 := Tryz.zeroValue184
  t45 := Tryz.underlying258
  a45 := Tryz.isAgg258
  z45 := Tryz.sizeOf258
  v45 := Tryz.zeroValue258
  t46 := Tryz.underlying259
  a46 := Tryz.isAgg259
  z46 := Tryz.sizeOf259
  v46 := Tryz.zeroValue259
  t50 := Tryz.underlying193
  a50 := Tryz.isAgg193
  z50 := Tryz.sizeOf193
  v50 := Tryz.zeroValue193
  t53 := Tryz.underlying265
  a53 := Tryz.isAgg265
  z53 := Tryz.sizeOf265
  v53 := Tryz.zeroValue265
  t55 := Tryz.underlying267
  a55 := Tryz.isAgg267
  z55 := Tryz.sizeOf267
  v55 := Tryz.zeroValue267
  t66 := Tryz.underlying285
  a66 := Tryz.isAgg285
  z66 := Tryz.sizeOf285
  v66 := Tryz.zeroValue285
  t70 := Tryz.underlying289
  a70 := Tryz.isAgg289
  z70 := Tryz.sizeOf289
  v70 := Tryz.zeroValue289
  t76 := Tryz.underlying310
  a76 := Tryz.isAgg310
  z76 := Tryz.sizeOf310
  v76 := Tryz.zeroValue310
  t77 := Tryz.underlying105
  a77 := Tryz.isAgg105
  z77 := Tryz.sizeOf105
  v77 := Tryz.zeroValue105 }
end Go.Proofs
namespace Go.Proofs.YteffpgliiilnjaaGreatDoor
open Go.Vm Go.RowKit Go.Lib Go.Sort
set_option linter.unusedVariables false
theorem ownsRow_putRowK {α : Type} [Inhabited α] {enc : α → List Value} {k : Nat} {w : World} {base : Nat} {e : TypeId} {g n cap q : Nat} {cs : List Value} {d : Array α} (h : w.ownsRow base e k (.slice (some ⟨g, 0, none⟩) n cap) n cs) (hd : d.size = n) :
    (putRowK enc k (Sort.ahead w q) g 0 d).ownsRow base e k (.slice (some ⟨g, 0, none⟩) n cap) n (flatK enc k d).toList := by
  rcases h.2 with ⟨e0, _⟩ | ⟨g', cap', cur, e0, hb, hg, hn, hm, hs, ht⟩
  · cases e0
  · injection e0 with e1 _ e3
    injection e1 with e1
    injection e1 with e1
    subst e1; subst e3
    have hle : n * k ≤ cap * k := Nat.mul_le_mul_right k hn
    refine ⟨by simp [hd], .inr ⟨g, cap, putCells id 0 (flatK enc k d) cur, rfl, hb, ?_, hn, hm, by simpa [putCells] using hs, ?_⟩⟩
    · simp [putRowK, putRow, mapBlock, Sort.ahead, Array.getElem?_modify, hg, onCells]
    · apply List.ext_getElem?
      intro j
      rw [List.getElem?_take, Array.getElem?_toList, Array.getElem?_toList]
      by_cases hj : j < n * k
      · have hjc : j < cur.size := by omega
        rw [if_pos hj]
        simp only [putCells, Array.getElem?_mapIdx, Array.getElem?_eq_getElem hjc, Option.map_some]
        rw [if_pos ⟨Nat.zero_le _, by rw [size_flatK, hd]; omega⟩, Array.getElem?_eq_getElem (by rw [size_flatK, hd]; exact hj)]
        simp [getElem!_pos, show j < d.size * k by rw [hd]; exact hj]
      · rw [if_neg hj, Array.getElem?_eq_none (by rw [size_flatK, hd]; omega)]
theorem ownsRow_grow8 {w : World} {os : Array Obj} {base : Nat} {e : TypeId} {k : Nat} {u : Value} {n : Nat} {cs : List Value} (h : w.ownsRow base e k u n cs) : (grow w os).ownsRow base e k u n cs := by
  refine ⟨h.1, ?_⟩
  rcases h.2 with hn | ⟨g, cap, cur, h1, h2, h3, rest⟩
  · exact .inl hn
  · exact .inr ⟨g, cap, cur, h1, h2, by rw [heap_grow_old _ _ (Array.getElem?_eq_some_iff.1 h3).1]; exact h3, rest⟩
theorem below_grow8 {B : Nat} {w0 w : World} {os : Array Obj} (h : Go.RowKit.Below B w0 w) (hB : B ≤ w.heap.size) : Go.RowKit.Below B w0 (grow w os) :=
  ⟨h.os, h.tape, h.output, by have := h.size; rw [size_grow]; omega, fun k hk => by rw [heap_grow_old _ _ (by omega)]; exact h.block k hk⟩
theorem rel_int {w : World} {ρ : Own} {st : Nat → Prop} {k : IntKind} {n : Int} {v : Value} (h : Rel EE w ρ st (.int k n) v) : v = .int k n := by
  cases h
  rfl
theorem k4 {k : Nat} (h : k < 4) : k = 0 ∨ k = 1 ∨ k = 2 ∨ k = 3 := by omega
theorem cells_of_rel {w : World} {ρ : Own} {st : Nat → Prop} {l : List Seg} {f : Nat → Value} (hr : ∀ i (h : i < l.length) k (hk : k < (EE.enc .seg l[i]).length), Rel EE w ρ st (EE.enc .seg l[i])[k] (f (i * UU.size .seg + k))) :
    ∀ i (h : i < l.length) k, k < 4 → f (i * 4 + k) = (encS l[i])[k]! := by
  intro i hi k hk
  rcases k4 hk with rfl | rfl | rfl | rfl
  · exact rel_int (hr i hi 0 (show 0 < 4 by decide))
  · exact rel_int (hr i hi 1 (show 1 < 4 by decide))
  · exact rel_int (hr i hi 2 (show 2 < 4 by decide))
  · exact rel_int (hr i hi 3 (show 3 < 4 by decide))
theorem rel_of_cells {w : World} {ρ : Own} {st : Nat → Prop} {l : List Seg} {f : Nat → Value} (hr : ∀ i (h : i < l.length) k, k < 4 → f (i * 4 + k) = (encS l[i])[k]!) :
    ∀ i (h : i < l.length) k (hk : k < (EE.enc .seg l[i]).length), Rel EE w ρ st (EE.enc .seg l[i])[k] (f (i * UU.size .seg + k)) := by
  intro i hi k hk
  have hk4 : k < 4 := hk
  have e := hr i hi k hk4
  rw [show i * UU.size .seg + k = i * 4 + k from rfl, e]
  rcases k4 hk4 with rfl | rfl | rfl | rfl
  · exact .int _ _
  · exact .int _ _
  · exact .int _ _
  · exact .int _ _
theorem flat_getD (l : List Seg) (i k : Nat) (hi : i < l.length) (hk : k < 4) : (flatK encS 4 l.toArray).toList.getD (i * 4 + k) undef = (encS l[i])[k]! := by
  have lt : i * 4 + k < (flatK encS 4 l.toArray).size := by
    rw [size_flatK]
    have : l.toArray.size = l.length := by simp
    omega
  have h1 : (flatK encS 4 l.toArray)[i * 4 + k]! = (encS l.toArray[(i * 4 + k) / 4]!)[(i * 4 + k) % 4]! := get_flatK _ _ _ _ (by rw [size_flatK] at lt; exact lt)
  rw [getElem!_pos (flatK encS 4 l.toArray) (i * 4 + k) lt] at h1
  have e1 : (i * 4 + k) / 4 = i := by omega
  have e2 : (i * 4 + k) % 4 = k := by omega
  rw [e1, e2, getElem!_pos l.toArray i (by simpa using hi)] at h1
  rw [List.getD_eq_getElem?_getD, Array.getElem?_toList, Array.getElem?_eq_getElem lt, Option.getD_some, h1]
  simp
theorem sort_seg {blk cap : Nat} {l : List Seg} {w : World} (hl : properL l) (hsz : l.length ≤ 100000) (hH : HoldsK encS 4 w blk 0 l.toArray) (hblk : blk < w.heap.size) :
    Calls Tryz.prog 88 #[.slice (some ⟨blk, 0, none⟩) l.length cap, .func (.func 89) #[] #[]] w fun e w' => e = .returned (.tuple #[]) ∧ ∃ n os, w' = grow (putRowK encS 4 (Sort.ahead w n) blk 0 (psort l).toArray) os := by
  have eg : ∀ args w, (callFunc 89 args).run Tryz.prog w = .ok (.enter 89 args) w := fun args w => callFunc_run (fn := Tryz.f89) Tryz.func89 (by kernel_rfl) rfl args w
  have h := AnyQ.slices_SortFunc Tryz.laysSlF06_f88 4 (fun w => by kernel_rfl) (fun w => by kernel_rfl) encS (fun _ => rfl) (fun x v hv => by
    simp only [encS, List.mem_cons, List.not_mem_nil, or_false] at hv
    rcases hv with rfl | rfl | rfl | rfl <;> rfl) ordS ordS_swo 89 #[] blk 0 cap l.toArray w eg (fun m os dk hdk x y => Tryz.orderLines x y _) hH hblk (by simp; omega)
  have h' : Calls Tryz.prog 88 #[.slice (some ⟨blk, 0, none⟩) l.length cap, .func (.func 89) #[] #[]] w fun e w' =>
      e = .returned (.tuple #[]) ∧ ∃ d' n os, PermIn 0 l.toArray.size l.toArray d' ∧ SortedIn (ltOf ordS) 0 l.toArray.size d' ∧ w' = sortWorldK encS 4 w blk 0 n d' os := h
  refine h'.mono ?_
  rintro e w' ⟨rfl, d', n, os, ⟨p1, p2, p3⟩, hs, rfl⟩
  refine ⟨rfl, n, os, ?_⟩
  have e1 : d'.toList.Perm l := by
    have q1 : (d'.extract 0 l.toArray.size).toList = d'.toList := by rw [← p1]; simp
    have q2 : (l.toArray.extract 0 l.toArray.size).toList = l := by simp
    rw [q1, q2] at p3
    exact p3
  have hsz' : d'.toList.length = l.toArray.size := by rw [Array.length_toList]; exact p1
  have e2 : d'.toList = psort l := by
    refine psort_one hl e1 ?_
    rw [List.pairwise_iff_getElem]
    intro i j hi hj hij
    have := hs i j (Nat.zero_le _) hij (by rw [hsz'] at hj; exact hj)
    rw [ltO_not] at this
    have gi : d'[i]! = d'.toList[i] := by rw [getElem!_pos _ _ (by rw [hsz'] at hi; rw [p1]; exact hi)]; simp
    have gj : d'[j]! = d'.toList[j] := by rw [getElem!_pos _ _ (by rw [hsz'] at hj; rw [p1]; exact hj)]; simp
    rw [gi, gj] at this
    exact this
  unfold sortWorldK
  rw [← e2]
theorem sort_none (c : Nat) (w : World) : Calls Tryz.prog 88 #[.slice none 0 c, .func (.func 89) #[] #[]] w fun e w' => e = .returned (.tuple #[]) ∧ w' = w :=
  AnyF.slices_SortFunc_none Tryz.laysSlF06_f88 none c (.func (.func 89) #[] #[]) w
noncomputable section
def eSort : EModel UU
  | [.osl 0 g, .fn 89 []], .row .seg g' l => cond (Nat.beq g g') (some ([properL l ∧ l.length ≤ 100000], .raw (.tuple #[]), .row .seg g' (psort l))) none
  | _, _ => none
theorem eff_sort {C : Cfg UU} (hP : C.P = Tryz.prog) (hE : C.E = EE) (w0 : World) : EffFn C 88 eSort w0 := by
  refine ⟨fun args w => by rw [hP]; exact callFunc_run (fn := Tryz.f88) Tryz.func88 (by kernel_rfl) rfl args w, fun st ρ w args k0 xs ob ob' cs r hb hst hdom hsep hob hsz hrel hc0 hm hc hc1 hpr hown => ?_⟩
  unfold eSort at hm
  split at hm
  · rename_i g g' l
    obtain ⟨hg, hm⟩ := cond_some hm
    obtain rfl := Nat.eq_of_beq_eq_true hg
    cases hm
    obtain rfl : 0 = k0 := by cases hown; rfl
    obtain ⟨h1, h2⟩ : properL l ∧ l.length ≤ 100000 := hc
    rw [hE] at hob hrel ⊢
    obtain ⟨u, cells, hu, hup, hro, hcs⟩ := hob
    have e0 := hrel 0 (by simp)
    have e1 := hrel 1 (by simp)
    obtain ⟨al⟩ := args
    match al, hsz with
    | [x, y], _ =>
      simp at e0 e1
      obtain rfl : x = u := by
        cases e0 with
        | osl _ _ u' hu' _ =>
          rw [hu] at hu'
          cases hu'
          rfl
        | oslOld _ _ g2 u' v hu' hlt =>
          rw [hu] at hu'
          cases hu'
          omega
      obtain rfl : y = .func (.func 89) #[] #[] := by
        cases e1 with
        | fn _ _ vs hn hl =>
          have : vs = #[] := Array.eq_empty_of_size_eq_zero hn
          rw [this]
      rw [hP]
      have hcells := cells_of_rel (f := fun j => cells.getD j undef) hcs
      have hbase : w0.heap.size ≤ w.heap.size := hb.size
      have fin : ∀ (w' : World) (cs' : List Value), w'.ownsRow w0.heap.size (UU.ety .seg) (UU.size .seg) x (psort l).length cs' → (∀ i (h : i < (psort l).length) k, k < 4 → cs'.getD (i * 4 + k) undef = (encS (psort l)[i])[k]!) → Go.RowKit.Below w0.heap.size w w' →
          (∀ b, b < w.heap.size → blk x ≠ some b → w'.heap[b]? = w.heap[b]?) → ∃ v ρ', Ending.returned (.tuple #[]) = .returned v ∧ Rel EE w' noOwn (fun _ => False) (.raw (.tuple #[])) v ∧
      RelObj EE w' ρ' (fun b => (st b ∨ w.heap.size ≤ b ∨ ∃ nm g u, ρ nm = some (g, u) ∧ blk u = some b) ∧ b < w'.heap.size ∧ ∀ nm g u, ρ' nm = some (g, u) → blk u ≠ some b) w0.heap.size 0 (.row .seg g (psort l)) ∧
      (∀ nm g' u, ρ' nm = some (g', u) → nm.id = 0 ∧ ((AObj.row .seg g (psort l) : AObj UU).simple = true → nm = .ob 0)) ∧ Chg (fun _ => False) (fun i => i = 0) w0.heap.size ρ ρ' w w' := by
        intro w' cs' q1 q2 q3 q4
        refine ⟨_, ρ, rfl, .raw _, ⟨x, cs', hu, hup, q1, rel_of_cells (f := fun j => cs'.getD j undef) q2⟩, hdom, ⟨fun _ _ => rfl, fun _ _ _ _ h => .inl h, q3, fun b hb hne => q4 b hb (hne (.ob 0) _ _ rfl hu), fun nm q u k hn h hbl => .inl ⟨nm, q, u, hn, h, hbl⟩, fun nm nm' q q' u u' k _ _ h h' hne hbl => hsep _ _ _ _ _ _ k h h' hne hbl⟩⟩
      have hlen : (psort l).length = l.length := (psort_perm l).length_eq
      rcases hro.2 with ⟨rfl, hn⟩ | ⟨b, cap, cur, rfl, q1, q2, q3, q4, q5, q6⟩
      · have hl0 : l = [] := List.eq_nil_of_length_eq_zero hn
        subst hl0
        refine (sort_none 0 w).mono ?_
        rintro e w' ⟨rfl, rfl⟩
        have e3 : psort ([] : List Seg) = [] := List.eq_nil_of_length_eq_zero (by rw [hlen]; rfl)
        refine fin w' [] ?_ (fun i h => ?_) (Go.RowKit.Below.refl _ _) (fun b hb _ => rfl)
        · rw [e3]
          exact World.ownsRow_nil _ _ _ _
        · rw [e3] at h
          exact absurd h (by simp)
      · have hbl : b < w.heap.size := (Array.getElem?_eq_some_iff.1 q2).1
        have hH : HoldsK encS 4 w b 0 l.toArray := by
          intro j hj
          rw [size_flatK] at hj
          have hj' : j < l.length * 4 := by simpa using hj
          have hcur : (cur.toList.take (l.length * 4))[j]? = cells[j]? := by
            have : UU.size .seg = 4 := rfl
            rw [this] at q6
            rw [q6]
          rw [List.getElem?_take, if_pos hj', Array.getElem?_toList] at hcur
          have hjc : j < cells.length := by
            have := hro.1
            have e4 : UU.size .seg = 4 := rfl
            rw [e4] at this
            omega
          rw [List.getElem?_eq_getElem hjc] at hcur
          have hv := hcells (j / 4) (by omega) (j % 4) (Nat.mod_lt _ (by decide))
          have hjj : j / 4 * 4 + j % 4 = j := by omega
          rw [hjj, List.getD_eq_getElem?_getD, List.getElem?_eq_getElem hjc, Option.getD_some] at hv
          refine ⟨?_, by simp [World.frozen?, q2]⟩
          rw [Nat.zero_add, get_flatK _ _ _ _ hj]
          simp only [World.cell?, q2]
          simp only [Option.isSome_none, Bool.false_eq_true, if_false]
          rw [hcur, hv]
          rw [getElem!_pos l.toArray (j / 4) (by simp; omega)]
          simp
        refine (sort_seg h1 h2 hH hbl).mono ?_
        rintro e w' ⟨rfl, n, os, rfl⟩
        have hsz2 : (psort l).toArray.size = l.length := by simp [hlen]
        refine fin _ (flatK encS 4 (psort l).toArray).toList ?_ (fun i hi k hk => flat_getD _ _ _ hi hk) ?_ (fun b' hb' hne => ?_)
        · rw [hlen]
          exact ownsRow_grow8 (ownsRow_putRowK hro hsz2)
        · refine below_grow8 ?_ (by rw [size_putRowK]; exact hbase)
          exact below_putRow (Go.RowKit.Below.refl _ _) q1
        · have hne' : b ≠ b' := fun e => hne (by rw [e]; rfl)
          rw [heap_grow_old _ _ (by rw [size_putRowK]; exact hb')]
          simp [putRowK, putRow, mapBlock, Sort.ahead, Array.getElem?_modify, hne']
  · cases hm
end
end Go.Proofs.YteffpgliiilnjaaGreatDoor
namespace Go.Proofs.YteffpgliiilnjaaGreatDoor
open Go.Vm Go.RowKit
set_option linter.unusedVariables false
noncomputable section
set_option maxHeartbeats 4000000 in
set_option maxRecDepth 100000 in
theorem code_calls (n : Int) (w : World) (hg : w.cell? ⟨0, 0, none⟩ = some (.iface 244 (.agg #[.pointer (some ⟨9, 73, none⟩)]))) :
    Calls Tryz.prog 31 #[.iface 161 (.agg #[.int .i64 n])] w fun e w' => e = .returned (.int .i64 n) ∧ Below w.heap.size w w' := by
  have hlt : 0 < w.heap.size := by
    rcases Nat.eq_zero_or_pos w.heap.size with h0 | h
    · simp [World.cell?, h0] at hg
    · exact h
  have hA := Tryz.errors_As n ⟨w.heap.size, 0, none⟩ (.int .i64 0) (w.alloc (.cells #[.int .i64 0] 161)) (by rw [World.cell?_alloc_lt _ _ ⟨0, 0, none⟩ hlt]; exact hg) (by simp) (World.frozen?_alloc_at _ _ _ _ rfl)
  have hA' : Calls Tryz.prog 86 #[.iface 161 (.agg #[.int .i64 n]), .iface 165 (.pointer (some ⟨w.heap.size, 0, none⟩))] (w.alloc (.cells #[.int .i64 0] 161)) fun e w' => e = .returned (.bool true) ∧ w'.cell? ⟨w.heap.size, 0, none⟩ = some (.int .i64 n) ∧ Below w.heap.size w w' := hA.mono (by
    rintro e w' ⟨rfl, rfl⟩
    refine ⟨rfl, ?_, ?_⟩
    · refine World.cell?_setCell_same _ _ _ (u := .int .i64 0) ?_
      rw [World.cell?_alloc_lt _ _ ⟨w.heap.size, 0, none⟩ (by simp; omega), World.cell?_alloc_lt _ _ ⟨w.heap.size, 0, none⟩ (by simp; omega), World.cell?_alloc_lt _ _ ⟨w.heap.size, 0, none⟩ (by simp; omega), World.cell?_alloc_lt _ _ ⟨w.heap.size, 0, none⟩ (by simp), World.cell?_alloc_at _ _ _ _ rfl]
      rfl
    · exact ((((((Below.refl _ w).alloc (Nat.le_refl _) _).alloc (by simp) _).alloc (by simp; omega) _).alloc (by simp; omega) _).alloc (by simp; omega) _).setCell (by simp) _)
  clear hA hg
  go_enter Tryz.func31, Tryz.ntmps31
  go_wp2_with (go_at_call 86; refine hA'.mono ?_; rintro e w' ⟨rfl, hc, hb⟩)
  go_ret
  exact ⟨rfl, hb⟩
def mCode : Model UU
  | [.raw (.iface 161 (.agg ⟨[.int .i64 n]⟩))] => some ([], .int .i64 n)
  | _ => none
theorem sCode {C : Cfg UU} (hE : C.E = EE) (hs : SumOK C) (hP : C.P = Tryz.prog) (hI : ∀ w, C.inv w → inv1 w) : SumOK (C.add 31 mCode) := by
  refine hs.put ⟨fun args w => by rw [hP]; exact callFunc_run (fn := Tryz.f31) Tryz.func31 (by kernel_rfl) rfl args w, ?_⟩
  intro N w args xs cs r hinv hN hargs hm hc
  unfold mCode at hm
  split at hm
  · rename_i n
    cases hm
    obtain ⟨a, rfl, ha⟩ := args1 hargs
    rw [hP]
    cases ha
    refine (code_calls n w (hI w hinv).1.2).mono ?_
    rintro e w' ⟨rfl, hb⟩
    exact ⟨_, rfl, Fresh.of rfl rfl (.int _ _), hb⟩
  · cases hm
def mDia : Model UU
  | [] => some ([], .frz .D)
  | _ => none
theorem sDia {C : Cfg UU} (hE : C.E = EE) (hs : SumOK C) (hP : C.P = Tryz.prog) : SumOK (C.add 51 mDia) := by
  refine hs.put ⟨fun args w => by rw [hP]; exact callFunc_run (fn := Tryz.f51) Tryz.func51 (by kernel_rfl) rfl args w, ?_⟩
  intro N w args xs cs r hinv hN hargs hm hc
  unfold mDia at hm
  split at hm
  · cases hm
    have : args = #[] := Array.eq_empty_of_size_eq_zero hargs.1
    subst this
    rw [hP, hE]
    refine (dialects_calls w).mono ?_
    rintro e w' ⟨rfl, rfl⟩
    refine ⟨_, rfl, Fresh.of rfl rfl (rfrz .D ?_), gr_below w _⟩
    have st : ∀ i, i < 4 → Out' N (gr w [M (lD (.map (some (w.heap.size + 1))) (.map (some (w.heap.size + 2))) (.map (some (w.heap.size + 3)))), M (strs wl1), M (strs wl2), M (strs wl3)]) (w.heap.size + i) := fun i hi => by
      refine ⟨?_, fun h => by have := hN _ h; omega⟩
      show _ < (w.heap ++ _).size
      simp
      omega
    exact ⟨_, _, _, ⟨_, rfl, st 1 (by omega), gr_at w _ 1⟩, ⟨_, rfl, st 2 (by omega), gr_at w _ 2⟩, ⟨_, rfl, st 3 (by omega), gr_at w _ 3⟩, ⟨_, rfl, st 0 (by omega), gr_at w _ 0⟩⟩
  · cases hm
def C_hs : Cfg UU := ((((C_cof1.add 87 mClone87).add 33 mClone33).add 31 mCode).add 51 mDia).addEff 88 eSort
theorem s_hs : SumOK C_hs := by
  have h1 := sClone87 rfl s_cof1 rfl
  have h2 := sClone33 rfl h1 rfl
  have h3 := sCode rfl h2 rfl fun _ h => h
  have h4 := sDia rfl h3 rfl
  exact h4.putEff fun w0 _ => eff_sort rfl rfl w0
def inlF (f : FuncId) : Option (Func × Code) := cond (Nat.beq f 30) (some (Tryz.f30, bo Tryz.f30)) none
theorem inlF_ok (f : FuncId) (fn : Func) (c : Code) (h : inlF f = some (fn, c)) : Tryz.prog.funcs[f]? = some fn ∧ fn.body = some c ∧ ∀ (args : Array Value) (w : World), (callFunc f args).run Tryz.prog w = .ok (.enter f args) w := by
  unfold inlF at h
  obtain ⟨hf, h⟩ := cond_some h
  obtain rfl := Nat.eq_of_beq_eq_true hf
  cases h
  exact ⟨Tryz.func30, by kernel_rfl, fun args w => callFunc_run (fn := Tryz.f30) Tryz.func30 (by kernel_rfl) rfl args w⟩
def inl1 (C : Cfg UU) (hP : C.P = Tryz.prog := by rfl) : Cfg UU := { C with inl := inlF, inlOK := fun f fn c h => by rw [hP]; exact inlF_ok f fn c h, dep := 1 }
theorem addI {C : Cfg UU} (hP : C.P = Tryz.prog) (hs : SumOK C) (hmix : C.P.follows .mixedOrders = true) {f : FuncId} {m : Model UU} {fn : Func} {c : Code} (hf : C.P.funcs[f]? = some fn) (hn : (fn.name == "runtime.NumGoroutine") = false)
    (hb : fn.body = some c) (hx : ∀ xs cs r, m xs = some (cs, r) → conj cs → (Nat.ble xs.length fn.ntmps && Nat.ble fn.ntmps 1000000) = true ∧ ∃ M fuel fr, Done (exec (inl1 C hP) fn.ntmps M fuel 0 c (initSt xs) (AEnds (inl1 C hP) fr fn fun r' => r' = r))) : SumOK (C.add f m) := by
  have hs' : SumOK (inl1 C hP) := hs
  have := SumOK.addD (C := inl1 C hP) hs' hmix hf hn hb hx
  exact this
end
end Go.Proofs.YteffpgliiilnjaaGreatDoor
namespace Go.Proofs.YteffpgliiilnjaaGreatDoor
open Go.Vm Go.RowKit
set_option linter.unusedVariables false
set_option maxRecDepth 100000
noncomputable section
def b_zaa_0 (F n r : Nat) (S : ASt UU) (K : AEx → ASt UU → Prop) : Prop := iter (execG (inliner M_zaa F 0 C_hs) C_hs Tryz.f32.ntmps M_zaa F 0 (cL (cB (cS (cF (cS (cS (cS (cS (bo Tryz.f32)))))))))) (M_zaa 0 0) n r S K
def k_zaa_0 (F : Nat) (Post : AVal UU → Prop) : AEx → ASt UU → Prop := kBlock 0 (kSeq (inliner M_zaa F 0 C_hs) C_hs Tryz.f32.ntmps M_zaa F 0 (cS (cS (cS (cS (cS (bo Tryz.f32)))))) (AEnds C_hs true Tryz.f32 Post))
theorem step_zaa_0 (F n r : Nat) (K : AEx → ASt UU → Prop) (t14 t15 : Int) (l121 l122 : List Seg) : b_zaa_0 F (n + 1) r (st_zaa_0 t14 t15 l121 l122) K = g_zaa_s0 (fun t14 t15 l121 l122 => b_zaa_0 F n (r + 1) (st_zaa_0 t14 t15 l121 l122) K) (fun t14 t15 l121 l122 => K (.exit 0) (st_zaa_0 t14 t15 l121 l122)) t14 t15 l121 l122 := by kernel_rfl
theorem cont_zaa_0_0 (F : Nat) (Post : AVal UU → Prop) (t14 t15 : Int) (l121 l122 : List Seg) : k_zaa_0 F Post (.exit 0) (st_zaa_0 t14 t15 l121 l122) = g_zaa_c0_0 (fun r0 => Post (.new .seg r0)) t14 t15 l121 l122 := by kernel_rfl
theorem entry_zaa (F : Nat) (Post : AVal UU → Prop) (a0 : List Seg) : exec C_hs Tryz.f32.ntmps M_zaa F 0 (bo Tryz.f32) (initSt [.sl .seg a0]) (AEnds C_hs true Tryz.f32 Post) = g_zaa_e a0 (fun r0 => Post (.new .seg r0)) (fun t14 t15 l121 l122 => b_zaa_0 F F 0 (st_zaa_0 t14 t15 l121 l122) (k_zaa_0 F Post)) := by kernel_rfl
theorem loop_zaa_0 (F : Nat) (K : AEx → ASt UU → Prop) : ∀ (n r : Nat) (t14 t15 : Int) (l121 l122 : List Seg), b_zaa_0 F n r (st_zaa_0 t14 t15 l121 l122) K = w_zaa_0 F  (fun t14 t15 l121 l122 => K (.exit 0) (st_zaa_0 t14 t15 l121 l122)) n t14 t15 l121 l122 := by
  intro n
  induction n with
  | zero => intros; rfl
  | succ n ih =>
    intro r t14 t15 l121 l122
    have e : (fun t14 t15 l121 l122 => b_zaa_0 F n (r + 1) (st_zaa_0 t14 t15 l121 l122) K) = w_zaa_0 F  (fun t14 t15 l121 l122 => K (.exit 0) (st_zaa_0 t14 t15 l121 l122)) n := by
      funext t14 t15 l121 l122
      exact ih (r + 1) t14 t15 l121 l122
    rw [step_zaa_0, e]
    rfl
theorem nl_zaa_0 (F : Nat) (Post : AVal UU → Prop) (t14 t15 : Int) (l121 l122 : List Seg) : b_zaa_0 F F 0 (st_zaa_0 t14 t15 l121 l122) (k_zaa_0 F Post) = n_zaa_0 F (fun r0 => Post (.new .seg r0)) t14 t15 l121 l122 := by
  rw [loop_zaa_0]
  have h0 : (fun t14 t15 l121 l122 => k_zaa_0 F Post (.exit 0) (st_zaa_0 t14 t15 l121 l122)) = (fun t14 t15 l121 l122 => g_zaa_c0_0 (fun r0 => Post (.new .seg r0)) t14 t15 l121 l122) := by
    funext t14 t15 l121 l122
    rw [cont_zaa_0_0]
  rw [h0]
  rfl
theorem exec_zaa (F : Nat) (Post : AVal UU → Prop) (a0 : List Seg) : exec C_hs Tryz.f32.ntmps M_zaa F 0 (bo Tryz.f32) (initSt [.sl .seg a0]) (AEnds C_hs true Tryz.f32 Post) = w_zaa F a0 (fun r0 => Post (.new .seg r0)) := by
  rw [entry_zaa]
  have e0 : (fun t14 t15 l121 l122 => b_zaa_0 F F 0 (st_zaa_0 t14 t15 l121 l122) (k_zaa_0 F Post)) = (n_zaa_0 F (fun r0 => Post (.new .seg r0))) := by
    funext t14 t15 l121 l122
    exact nl_zaa_0 F Post t14 t15 l121 l122
  rw [e0]
  rfl
def m_zaa : Model UU
  | [.sl .seg a0] => some ([pre_zaa a0], .new .seg (sp_zaa a0))
  | _ => none
def C_zaa : Cfg UU := C_hs.add 32 m_zaa
theorem s_zaa : SumOK C_zaa := by
  refine s_hs.addD mixed (fn := Tryz.f32) (c := bo Tryz.f32) Tryz.func32 (by kernel_rfl) (by kernel_rfl) ?_
  intro xs cs r h hc
  unfold m_zaa at h
  split at h
  · rename_i a0
    cases h
    obtain ⟨F, hF⟩ := ok_zaa a0 hc
    refine ⟨by kernel_rfl, M_zaa, F, true, ⟨?_⟩⟩
    rw [exec_zaa]
    refine hF _ ?_
    rfl
  · cases h
end
end Go.Proofs.YteffpgliiilnjaaGreatDoor
namespace Go.Proofs.YteffpgliiilnjaaGreatDoor
open Go.Vm Go.RowKit
set_option linter.unusedVariables false
set_option maxRecDepth 100000
noncomputable section
def b_zw_0 (F n r : Nat) (S : ASt UU) (K : AEx → ASt UU → Prop) : Prop := iter (execG (inliner M_zw F 1 (inl1 C_zaa)) (inl1 C_zaa) Tryz.f9.ntmps M_zw F 0 (cL (cB (cS (cF (cS (cS (cS (cS (bo Tryz.f9)))))))))) (M_zw 0 0) n r S K
def k_zw_0 (F : Nat) (Post : AVal UU → Prop) : AEx → ASt UU → Prop := kBlock 0 (kSeq (inliner M_zw F 1 (inl1 C_zaa)) (inl1 C_zaa) Tryz.f9.ntmps M_zw F 0 (cS (cS (cS (cS (cS (bo Tryz.f9)))))) (AEnds (inl1 C_zaa) true Tryz.f9 Post))
theorem step_zw_0 (F n r : Nat) (K : AEx → ASt UU → Prop) (t5 : Int) (t24 : List Opn) (t25 t26 : Int) (c23_0 c23_1 : ByteArray) (c23_2 c23_3 c23_4 c23_5 : Int) (c23_6 c23_7 : List Rect) (c23_8 c23_9 : Int) (l50 : List Rect) (l51 : List Seg) : b_zw_0 F (n + 1) r (st_zw_0 t5 t24 t25 t26 c23_0 c23_1 c23_2 c23_3 c23_4 c23_5 c23_6 c23_7 c23_8 c23_9 l50 l51) K = g_zw_s0 (fun t5 t24 t25 t26 c23_0 c23_1 c23_2 c23_3 c23_4 c23_5 c23_6 c23_7 c23_8 c23_9 l50 l51 => b_zw_0 F n (r + 1) (st_zw_0 t5 t24 t25 t26 c23_0 c23_1 c23_2 c23_3 c23_4 c23_5 c23_6 c23_7 c23_8 c23_9 l50 l51) K) (fun t5 t24 t25 t26 c23_0 c23_1 c23_2 c23_3 c23_4 c23_5 c23_6 c23_7 c23_8 c23_9 l50 l51 => K .ret (st_zw_0 t5 t24 t25 t26 c23_0 c23_1 c23_2 c23_3 c23_4 c23_5 c23_6 c23_7 c23_8 c23_9 l50 l51)) (fun t5 t24 t25 t26 c23_0 c23_1 c23_2 c23_3 c23_4 c23_5 c23_6 c23_7 c23_8 c23_9 l50 l51 => K (.exit 0) (st_zw_0 t5 t24 t25 t26 c23_0 c23_1 c23_2 c23_3 c23_4 c23_5 c23_6 c23_7 c23_8 c23_9 l50 l51)) t5 t24 t25 t26 c23_0 c23_1 c23_2 c23_3 c23_4 c23_5 c23_6 c23_7 c23_8 c23_9 l50 l51 := by kernel_rfl
theorem cont_zw_0_0 (F : Nat) (Post : AVal UU → Prop) (t5 : Int) (t24 : List Opn) (t25 t26 : Int) (c23_0 c23_1 : ByteArray) (c23_2 c23_3 c23_4 c23_5 : Int) (c23_6 c23_7 : List Rect) (c23_8 c23_9 : Int) (l50 : List Rect) (l51 : List Seg) : k_zw_0 F Post .ret (st_zw_0 t5 t24 t25 t26 c23_0 c23_1 c23_2 c23_3 c23_4 c23_5 c23_6 c23_7 c23_8 c23_9 l50 l51) = g_zw_c0_0 (fun r0_Lines r0_Stamps r1 => Post (.tup [.agg [.new .seg r0_Lines, .new .rect r0_Stamps], .int .i64 r1])) t5 t24 t25 t26 c23_0 c23_1 c23_2 c23_3 c23_4 c23_5 c23_6 c23_7 c23_8 c23_9 l50 l51 := by kernel_rfl
theorem cont_zw_0_1 (F : Nat) (Post : AVal UU → Prop) (t5 : Int) (t24 : List Opn) (t25 t26 : Int) (c23_0 c23_1 : ByteArray) (c23_2 c23_3 c23_4 c23_5 : Int) (c23_6 c23_7 : List Rect) (c23_8 c23_9 : Int) (l50 : List Rect) (l51 : List Seg) : k_zw_0 F Post (.exit 0) (st_zw_0 t5 t24 t25 t26 c23_0 c23_1 c23_2 c23_3 c23_4 c23_5 c23_6 c23_7 c23_8 c23_9 l50 l51) = g_zw_c0_1 (fun r0_Lines r0_Stamps r1 => Post (.tup [.agg [.new .seg r0_Lines, .new .rect r0_Stamps], .int .i64 r1])) t5 t24 t25 t26 c23_0 c23_1 c23_2 c23_3 c23_4 c23_5 c23_6 c23_7 c23_8 c23_9 l50 l51 := by kernel_rfl
theorem entry_zw (F : Nat) (Post : AVal UU → Prop) (qr qs : ByteArray) (qt qu ql qm : Int) (qk qo : List Rect) (a1 : List Opn) : exec (inl1 C_zaa) Tryz.f9.ntmps M_zw F 0 (bo Tryz.f9) (initSt [.agg [.str qr, .str qs, .int .i64 qt, .int .i64 qu, .int .i64 ql, .int .i64 qm, .sl .rect qk, .sl .rect qo], .sl .op a1]) (AEnds (inl1 C_zaa) true Tryz.f9 Post) = g_zw_e qr qs qt qu ql qm qk qo a1 (fun r0_Lines r0_Stamps r1 => Post (.tup [.agg [.new .seg r0_Lines, .new .rect r0_Stamps], .int .i64 r1])) (fun t5 t24 t25 t26 c23_0 c23_1 c23_2 c23_3 c23_4 c23_5 c23_6 c23_7 c23_8 c23_9 l50 l51 => b_zw_0 F F 0 (st_zw_0 t5 t24 t25 t26 c23_0 c23_1 c23_2 c23_3 c23_4 c23_5 c23_6 c23_7 c23_8 c23_9 l50 l51) (k_zw_0 F Post)) := by kernel_rfl
theorem loop_zw_0 (F : Nat) (K : AEx → ASt UU → Prop) : ∀ (n r : Nat) (t5 : Int) (t24 : List Opn) (t25 t26 : Int) (c23_0 c23_1 : ByteArray) (c23_2 c23_3 c23_4 c23_5 : Int) (c23_6 c23_7 : List Rect) (c23_8 c23_9 : Int) (l50 : List Rect) (l51 : List Seg), b_zw_0 F n r (st_zw_0 t5 t24 t25 t26 c23_0 c23_1 c23_2 c23_3 c23_4 c23_5 c23_6 c23_7 c23_8 c23_9 l50 l51) K = w_zw_0 F  (fun t5 t24 t25 t26 c23_0 c23_1 c23_2 c23_3 c23_4 c23_5 c23_6 c23_7 c23_8 c23_9 l50 l51 => K .ret (st_zw_0 t5 t24 t25 t26 c23_0 c23_1 c23_2 c23_3 c23_4 c23_5 c23_6 c23_7 c23_8 c23_9 l50 l51)) (fun t5 t24 t25 t26 c23_0 c23_1 c23_2 c23_3 c23_4 c23_5 c23_6 c23_7 c23_8 c23_9 l50 l51 => K (.exit 0) (st_zw_0 t5 t24 t25 t26 c23_0 c23_1 c23_2 c23_3 c23_4 c23_5 c23_6 c23_7 c23_8 c23_9 l50 l51)) n t5 t24 t25 t26 c23_0 c23_1 c23_2 c23_3 c23_4 c23_5 c23_6 c23_7 c23_8 c23_9 l50 l51 := by
  intro n
  induction n with
  | zero => intros; rfl
  | succ n ih =>
    intro r t5 t24 t25 t26 c23_0 c23_1 c23_2 c23_3 c23_4 c23_5 c23_6 c23_7 c23_8 c23_9 l50 l51
    have e : (fun t5 t24 t25 t26 c23_0 c23_1 c23_2 c23_3 c23_4 c23_5 c23_6 c23_7 c23_8 c23_9 l50 l51 => b_zw_0 F n (r + 1) (st_zw_0 t5 t24 t25 t26 c23_0 c23_1 c23_2 c23_3 c23_4 c23_5 c23_6 c23_7 c23_8 c23_9 l50 l51) K) = w_zw_0 F  (fun t5 t24 t25 t26 c23_0 c23_1 c23_2 c23_3 c23_4 c23_5 c23_6 c23_7 c23_8 c23_9 l50 l51 => K .ret (st_zw_0 t5 t24 t25 t26 c23_0 c23_1 c23_2 c23_3 c23_4 c23_5 c23_6 c23_7 c23_8 c23_9 l50 l51)) (fun t5 t24 t25 t26 c23_0 c23_1 c23_2 c23_3 c23_4 c23_5 c23_6 c23_7 c23_8 c23_9 l50 l51 => K (.exit 0) (st_zw_0 t5 t24 t25 t26 c23_0 c23_1 c23_2 c23_3 c23_4 c23_5 c23_6 c23_7 c23_8 c23_9 l50 l51)) n := by
      funext t5 t24 t25 t26 c23_0 c23_1 c23_2 c23_3 c23_4 c23_5 c23_6 c23_7 c23_8 c23_9 l50 l51
      exact ih (r + 1) t5 t24 t25 t26 c23_0 c23_1 c23_2 c23_3 c23_4 c23_5 c23_6 c23_7 c23_8 c23_9 l50 l51
    rw [step_zw_0, e]
    rfl
theorem nl_zw_0 (F : Nat) (Post : AVal UU → Prop) (t5 : Int) (t24 : List Opn) (t25 t26 : Int) (c23_0 c23_1 : ByteArray) (c23_2 c23_3 c23_4 c23_5 : Int) (c23_6 c23_7 : List Rect) (c23_8 c23_9 : Int) (l50 : List Rect) (l51 : List Seg) : b_zw_0 F F 0 (st_zw_0 t5 t24 t25 t26 c23_0 c23_1 c23_2 c23_3 c23_4 c23_5 c23_6 c23_7 c23_8 c23_9 l50 l51) (k_zw_0 F Post) = n_zw_0 F (fun r0_Lines r0_Stamps r1 => Post (.tup [.agg [.new .seg r0_Lines, .new .rect r0_Stamps], .int .i64 r1])) t5 t24 t25 t26 c23_0 c23_1 c23_2 c23_3 c23_4 c23_5 c23_6 c23_7 c23_8 c23_9 l50 l51 := by
  rw [loop_zw_0]
  have h0 : (fun t5 t24 t25 t26 c23_0 c23_1 c23_2 c23_3 c23_4 c23_5 c23_6 c23_7 c23_8 c23_9 l50 l51 => k_zw_0 F Post .ret (st_zw_0 t5 t24 t25 t26 c23_0 c23_1 c23_2 c23_3 c23_4 c23_5 c23_6 c23_7 c23_8 c23_9 l50 l51)) = (fun t5 t24 t25 t26 c23_0 c23_1 c23_2 c23_3 c23_4 c23_5 c23_6 c23_7 c23_8 c23_9 l50 l51 => g_zw_c0_0 (fun r0_Lines r0_Stamps r1 => Post (.tup [.agg [.new .seg r0_Lines, .new .rect r0_Stamps], .int .i64 r1])) t5 t24 t25 t26 c23_0 c23_1 c23_2 c23_3 c23_4 c23_5 c23_6 c23_7 c23_8 c23_9 l50 l51) := by
    funext t5 t24 t25 t26 c23_0 c23_1 c23_2 c23_3 c23_4 c23_5 c23_6 c23_7 c23_8 c23_9 l50 l51
    rw [cont_zw_0_0]
  have h1 : (fun t5 t24 t25 t26 c23_0 c23_1 c23_2 c23_3 c23_4 c23_5 c23_6 c23_7 c23_8 c23_9 l50 l51 => k_zw_0 F Post (.exit 0) (st_zw_0 t5 t24 t25 t26 c23_0 c23_1 c23_2 c23_3 c23_4 c23_5 c23_6 c23_7 c23_8 c23_9 l50 l51)) = (fun t5 t24 t25 t26 c23_0 c23_1 c23_2 c23_3 c23_4 c23_5 c23_6 c23_7 c23_8 c23_9 l50 l51 => g_zw_c0_1 (fun r0_Lines r0_Stamps r1 => Post (.tup [.agg [.new .seg r0_Lines, .new .rect r0_Stamps], .int .i64 r1])) t5 t24 t25 t26 c23_0 c23_1 c23_2 c23_3 c23_4 c23_5 c23_6 c23_7 c23_8 c23_9 l50 l51) := by
    funext t5 t24 t25 t26 c23_0 c23_1 c23_2 c23_3 c23_4 c23_5 c23_6 c23_7 c23_8 c23_9 l50 l51
    rw [cont_zw_0_1]
  rw [h0, h1]
  rfl
theorem exec_zw (F : Nat) (Post : AVal UU → Prop) (qr qs : ByteArray) (qt qu ql qm : Int) (qk qo : List Rect) (a1 : List Opn) : exec (inl1 C_zaa) Tryz.f9.ntmps M_zw F 0 (bo Tryz.f9) (initSt [.agg [.str qr, .str qs, .int .i64 qt, .int .i64 qu, .int .i64 ql, .int .i64 qm, .sl .rect qk, .sl .rect qo], .sl .op a1]) (AEnds (inl1 C_zaa) true Tryz.f9 Post) = w_zw F qr qs qt qu ql qm qk qo a1 (fun r0_Lines r0_Stamps r1 => Post (.tup [.agg [.new .seg r0_Lines, .new .rect r0_Stamps], .int .i64 r1])) := by
  rw [entry_zw]
  have e0 : (fun t5 t24 t25 t26 c23_0 c23_1 c23_2 c23_3 c23_4 c23_5 c23_6 c23_7 c23_8 c23_9 l50 l51 => b_zw_0 F F 0 (st_zw_0 t5 t24 t25 t26 c23_0 c23_1 c23_2 c23_3 c23_4 c23_5 c23_6 c23_7 c23_8 c23_9 l50 l51) (k_zw_0 F Post)) = (n_zw_0 F (fun r0_Lines r0_Stamps r1 => Post (.tup [.agg [.new .seg r0_Lines, .new .rect r0_Stamps], .int .i64 r1]))) := by
    funext t5 t24 t25 t26 c23_0 c23_1 c23_2 c23_3 c23_4 c23_5 c23_6 c23_7 c23_8 c23_9 l50 l51
    exact nl_zw_0 F Post t5 t24 t25 t26 c23_0 c23_1 c23_2 c23_3 c23_4 c23_5 c23_6 c23_7 c23_8 c23_9 l50 l51
  rw [e0]
  rfl
def m_zw : Model UU
  | [.agg [.str qr, .str qs, .int .i64 qt, .int .i64 qu, .int .i64 ql, .int .i64 qm, .sl .rect qk, .sl .rect qo], .sl .op a1] => some ([pre_zw qr qs qt qu ql qm qk qo a1], .tup [.agg [.new .seg ((sp_zw qr qs qt qu ql qm qk qo a1).1), .new .rect ((sp_zw qr qs qt qu ql qm qk qo a1).2.1)], .int .i64 ((sp_zw qr qs qt qu ql qm qk qo a1).2.2)])
  | _ => none
def C_zw : Cfg UU := C_zaa.add 9 m_zw
theorem s_zw : SumOK C_zw := by
  refine addI rfl s_zaa mixed (fn := Tryz.f9) (c := bo Tryz.f9) Tryz.func9 (by kernel_rfl) (by kernel_rfl) ?_
  intro xs cs r h hc
  unfold m_zw at h
  split at h
  · rename_i qr qs qt qu ql qm qk qo a1
    cases h
    obtain ⟨F, hF⟩ := ok_zw qr qs qt qu ql qm qk qo a1 hc
    refine ⟨by kernel_rfl, M_zw, F, true, ⟨?_⟩⟩
    rw [exec_zw]
    refine hF _ ?_
    rfl
  · cases h
end
end Go.Proofs.YteffpgliiilnjaaGreatDoor
namespace Go.Proofs.YteffpgliiilnjaaGreatDoor
open Go.Vm Go.RowKit
set_option linter.unusedVariables false
set_option maxRecDepth 100000
noncomputable section
theorem entry_zx (F : Nat) (Post : AVal UU → Prop) (qn a0_X a0_Y a0_W a0_H a0_N a1_X a1_Y : Int) : exec C_zw Tryz.f113.ntmps M_zx F 0 (bo Tryz.f113) (initSt [.agg [.int .i64 qn, .int .i64 a0_X, .int .i64 a0_Y, .int .i64 a0_W, .int .i64 a0_H, .int .i64 a0_N], .agg [.int .i64 a1_X, .int .i64 a1_Y]]) (AEnds C_zw false Tryz.f113 Post) = g_zx_e qn a0_X a0_Y a0_W a0_H a0_N a1_X a1_Y (fun r0 => Post (.sl .int r0)) := by kernel_rfl
theorem exec_zx (F : Nat) (Post : AVal UU → Prop) (qn a0_X a0_Y a0_W a0_H a0_N a1_X a1_Y : Int) : exec C_zw Tryz.f113.ntmps M_zx F 0 (bo Tryz.f113) (initSt [.agg [.int .i64 qn, .int .i64 a0_X, .int .i64 a0_Y, .int .i64 a0_W, .int .i64 a0_H, .int .i64 a0_N], .agg [.int .i64 a1_X, .int .i64 a1_Y]]) (AEnds C_zw false Tryz.f113 Post) = w_zx F qn a0_X a0_Y a0_W a0_H a0_N a1_X a1_Y (fun r0 => Post (.sl .int r0)) := by
  rw [entry_zx]
  rfl
def m_zx : Model UU
  | [.agg [.int .i64 qn, .int .i64 a0_X, .int .i64 a0_Y, .int .i64 a0_W, .int .i64 a0_H, .int .i64 a0_N], .agg [.int .i64 a1_X, .int .i64 a1_Y]] => some ([pre_zx qn a0_X a0_Y a0_W a0_H a0_N a1_X a1_Y], .sl .int (sp_zx qn a0_X a0_Y a0_W a0_H a0_N a1_X a1_Y))
  | _ => none
def C_zx : Cfg UU := C_zw.add 113 m_zx
theorem s_zx : SumOK C_zx := by
  refine s_zw.addD mixed (fn := Tryz.f113) (c := bo Tryz.f113) Tryz.func113 (by kernel_rfl) (by kernel_rfl) ?_
  intro xs cs r h hc
  unfold m_zx at h
  split at h
  · rename_i qn a0_X a0_Y a0_W a0_H a0_N a1_X a1_Y
    cases h
    obtain ⟨F, hF⟩ := ok_zx qn a0_X a0_Y a0_W a0_H a0_N a1_X a1_Y hc
    refine ⟨by kernel_rfl, M_zx, F, false, ⟨?_⟩⟩
    rw [exec_zx]
    refine hF _ ?_
    rfl
  · cases h
end
end Go.Proofs.YteffpgliiilnjaaGreatDoor
namespace Go.Proofs.YteffpgliiilnjaaGreatDoor
open Go.Vm Go.RowKit
set_option linter.unusedVariables false
set_option maxRecDepth 100000
noncomputable section
def b_fo2_0 (F n r : Nat) (S : ASt UU) (K : AEx → ASt UU → Prop) : Prop := iter (execG (inliner M_fo2 F 0 C_zx) C_zx Tryz.f20.ntmps M_fo2 F 0 (cL (cB (cS (cF (cS (cS (cS (cS (cS (cS (bo Tryz.f20)))))))))))) (M_fo2 0 0) n r S K
def b_fo2_1 (F n r : Nat) (S : ASt UU) (K : AEx → ASt UU → Prop) : Prop := iter (execG (inliner M_fo2 F 0 C_zx) C_zx Tryz.f20.ntmps M_fo2 F 2 (cL (cB (cS (cF (cS (cS (cS (cS (cB (cF (cS (cS (cL (cB (cS (cF (cS (cS (cS (cS (cS (cS (bo Tryz.f20)))))))))))))))))))))))) (M_fo2 0 2) n r S K
def k_fo2_0 (F : Nat) (Post : AVal UU → Prop) : AEx → ASt UU → Prop := kBlock 0 (kSeq (inliner M_fo2 F 0 C_zx) C_zx Tryz.f20.ntmps M_fo2 F 0 (cS (cS (cS (cS (cS (cS (cS (bo Tryz.f20)))))))) (AEnds C_zx false Tryz.f20 Post))
def k_fo2_1 (F n r : Nat) (K : AEx → ASt UU → Prop) : AEx → ASt UU → Prop := kBlock 2 (kSeq (inliner M_fo2 F 0 C_zx) C_zx Tryz.f20.ntmps M_fo2 F 1 (cS (cS (cS (cS (cS (cB (cF (cS (cS (cL (cB (cS (cF (cS (cS (cS (cS (cS (cS (bo Tryz.f20)))))))))))))))))))) (kBlock 1 (kSeq (inliner M_fo2 F 0 C_zx) C_zx Tryz.f20.ntmps M_fo2 F 0 (cS (cS (cS (cL (cB (cS (cF (cS (cS (cS (cS (cS (cS (bo Tryz.f20)))))))))))))) (kIter (execG (inliner M_fo2 F 0 C_zx) C_zx Tryz.f20.ntmps M_fo2 F 0 (cL (cB (cS (cF (cS (cS (cS (cS (cS (cS (bo Tryz.f20)))))))))))) (M_fo2 0 0) n r K))))
theorem step_fo2_0 (F n r : Nat) (K : AEx → ASt UU → Prop) (t4 : ByteArray) (t5 : Int) (t28 : List Opn) (t29 t30 : Int) (o8 : ByteArray) (c9_0 c9_1 : Int) : b_fo2_0 F (n + 1) r (st_fo2_0 t4 t5 t28 t29 t30 o8 c9_0 c9_1) K = g_fo2_s0 (fun t4 t5 t28 t29 t30 o8 c9_0 c9_1 => b_fo2_0 F n (r + 1) (st_fo2_0 t4 t5 t28 t29 t30 o8 c9_0 c9_1) K) (fun t4 t5 t28 t29 t30 o8 c9_0 c9_1 => K .ret (st_fo2_0 t4 t5 t28 t29 t30 o8 c9_0 c9_1)) (fun t4 t5 t28 t29 t30 o8 c9_0 c9_1 => K (.exit 0) (st_fo2_0 t4 t5 t28 t29 t30 o8 c9_0 c9_1)) t4 t5 t28 t29 t30 o8 c9_0 c9_1 (fun t4 t5 t28 t29 t30 t60 t61 t62 o8 c9_0 c9_1 c11_0 c11_1 c11_2 c11_3 c11_4 c11_5 => b_fo2_1 F F 0 (st_fo2_1 t4 t5 t28 t29 t30 t60 t61 t62 o8 c9_0 c9_1 c11_0 c11_1 c11_2 c11_3 c11_4 c11_5) (k_fo2_1 F n r K)) := by kernel_rfl
theorem cont_fo2_0_0 (F : Nat) (Post : AVal UU → Prop) (t4 : ByteArray) (t5 : Int) (t28 : List Opn) (t29 t30 : Int) (o8 : ByteArray) (c9_0 c9_1 : Int) : k_fo2_0 F Post .ret (st_fo2_0 t4 t5 t28 t29 t30 o8 c9_0 c9_1) = g_fo2_c0_0 (fun r0 r1 => Post (.tup [.str r0, .int .i64 r1])) t4 t5 t28 t29 t30 o8 c9_0 c9_1 := by kernel_rfl
theorem cont_fo2_0_1 (F : Nat) (Post : AVal UU → Prop) (t4 : ByteArray) (t5 : Int) (t28 : List Opn) (t29 t30 : Int) (o8 : ByteArray) (c9_0 c9_1 : Int) : k_fo2_0 F Post (.exit 0) (st_fo2_0 t4 t5 t28 t29 t30 o8 c9_0 c9_1) = g_fo2_c0_1 (fun r0 r1 => Post (.tup [.str r0, .int .i64 r1])) t4 t5 t28 t29 t30 o8 c9_0 c9_1 := by kernel_rfl
theorem step_fo2_1 (F n r : Nat) (K : AEx → ASt UU → Prop) (t4 : ByteArray) (t5 : Int) (t28 : List Opn) (t29 t30 : Int) (t60 : List Int) (t61 t62 : Int) (o8 : ByteArray) (c9_0 c9_1 c11_0 c11_1 c11_2 c11_3 c11_4 c11_5 : Int) : b_fo2_1 F (n + 1) r (st_fo2_1 t4 t5 t28 t29 t30 t60 t61 t62 o8 c9_0 c9_1 c11_0 c11_1 c11_2 c11_3 c11_4 c11_5) K = g_fo2_s1 (fun t4 t5 t28 t29 t30 t60 t61 t62 o8 c9_0 c9_1 c11_0 c11_1 c11_2 c11_3 c11_4 c11_5 => b_fo2_1 F n (r + 1) (st_fo2_1 t4 t5 t28 t29 t30 t60 t61 t62 o8 c9_0 c9_1 c11_0 c11_1 c11_2 c11_3 c11_4 c11_5) K) (fun t4 t5 t28 t29 t30 t60 t61 t62 o8 c9_0 c9_1 c11_0 c11_1 c11_2 c11_3 c11_4 c11_5 => K (.exit 2) (st_fo2_1 t4 t5 t28 t29 t30 t60 t61 t62 o8 c9_0 c9_1 c11_0 c11_1 c11_2 c11_3 c11_4 c11_5)) t4 t5 t28 t29 t30 t60 t61 t62 o8 c9_0 c9_1 c11_0 c11_1 c11_2 c11_3 c11_4 c11_5 := by kernel_rfl
theorem cont_fo2_1_0 (F n r : Nat) (K : AEx → ASt UU → Prop) (t4 : ByteArray) (t5 : Int) (t28 : List Opn) (t29 t30 : Int) (t60 : List Int) (t61 t62 : Int) (o8 : ByteArray) (c9_0 c9_1 c11_0 c11_1 c11_2 c11_3 c11_4 c11_5 : Int) : k_fo2_1 F n r K (.exit 2) (st_fo2_1 t4 t5 t28 t29 t30 t60 t61 t62 o8 c9_0 c9_1 c11_0 c11_1 c11_2 c11_3 c11_4 c11_5) = g_fo2_c1_0 (fun t4 t5 t28 t29 t30 o8 c9_0 c9_1 => b_fo2_0 F n (r + 1) (st_fo2_0 t4 t5 t28 t29 t30 o8 c9_0 c9_1) K) (fun t4 t5 t28 t29 t30 o8 c9_0 c9_1 => K .ret (st_fo2_0 t4 t5 t28 t29 t30 o8 c9_0 c9_1)) (fun t4 t5 t28 t29 t30 o8 c9_0 c9_1 => K (.exit 0) (st_fo2_0 t4 t5 t28 t29 t30 o8 c9_0 c9_1)) t4 t5 t28 t29 t30 t60 t61 t62 o8 c9_0 c9_1 c11_0 c11_1 c11_2 c11_3 c11_4 c11_5 := by kernel_rfl
theorem entry_fo2 (F : Nat) (Post : AVal UU → Prop) (ops : List Opn) : exec C_zx Tryz.f20.ntmps M_fo2 F 0 (bo Tryz.f20) (initSt [.int .i64 2, .sl .op ops]) (AEnds C_zx false Tryz.f20 Post) = g_fo2_e ops (fun r0 r1 => Post (.tup [.str r0, .int .i64 r1])) (fun t4 t5 t28 t29 t30 o8 c9_0 c9_1 => b_fo2_0 F F 0 (st_fo2_0 t4 t5 t28 t29 t30 o8 c9_0 c9_1) (k_fo2_0 F Post)) := by kernel_rfl
theorem loop_fo2_1 (F : Nat) (K : AEx → ASt UU → Prop) : ∀ (n r : Nat) (t4 : ByteArray) (t5 : Int) (t28 : List Opn) (t29 t30 : Int) (t60 : List Int) (t61 t62 : Int) (o8 : ByteArray) (c9_0 c9_1 c11_0 c11_1 c11_2 c11_3 c11_4 c11_5 : Int), b_fo2_1 F n r (st_fo2_1 t4 t5 t28 t29 t30 t60 t61 t62 o8 c9_0 c9_1 c11_0 c11_1 c11_2 c11_3 c11_4 c11_5) K = w_fo2_1 F  (fun t4 t5 t28 t29 t30 t60 t61 t62 o8 c9_0 c9_1 c11_0 c11_1 c11_2 c11_3 c11_4 c11_5 => K (.exit 2) (st_fo2_1 t4 t5 t28 t29 t30 t60 t61 t62 o8 c9_0 c9_1 c11_0 c11_1 c11_2 c11_3 c11_4 c11_5)) n t4 t5 t28 t29 t30 t60 t61 t62 o8 c9_0 c9_1 c11_0 c11_1 c11_2 c11_3 c11_4 c11_5 := by
  intro n
  induction n with
  | zero => intros; rfl
  | succ n ih =>
    intro r t4 t5 t28 t29 t30 t60 t61 t62 o8 c9_0 c9_1 c11_0 c11_1 c11_2 c11_3 c11_4 c11_5
    have e : (fun t4 t5 t28 t29 t30 t60 t61 t62 o8 c9_0 c9_1 c11_0 c11_1 c11_2 c11_3 c11_4 c11_5 => b_fo2_1 F n (r + 1) (st_fo2_1 t4 t5 t28 t29 t30 t60 t61 t62 o8 c9_0 c9_1 c11_0 c11_1 c11_2 c11_3 c11_4 c11_5) K) = w_fo2_1 F  (fun t4 t5 t28 t29 t30 t60 t61 t62 o8 c9_0 c9_1 c11_0 c11_1 c11_2 c11_3 c11_4 c11_5 => K (.exit 2) (st_fo2_1 t4 t5 t28 t29 t30 t60 t61 t62 o8 c9_0 c9_1 c11_0 c11_1 c11_2 c11_3 c11_4 c11_5)) n := by
      funext t4 t5 t28 t29 t30 t60 t61 t62 o8 c9_0 c9_1 c11_0 c11_1 c11_2 c11_3 c11_4 c11_5
      exact ih (r + 1) t4 t5 t28 t29 t30 t60 t61 t62 o8 c9_0 c9_1 c11_0 c11_1 c11_2 c11_3 c11_4 c11_5
    rw [step_fo2_1, e]
    rfl
theorem nl_fo2_1 (F n r : Nat) (K : AEx → ASt UU → Prop) (t4 : ByteArray) (t5 : Int) (t28 : List Opn) (t29 t30 : Int) (t60 : List Int) (t61 t62 : Int) (o8 : ByteArray) (c9_0 c9_1 c11_0 c11_1 c11_2 c11_3 c11_4 c11_5 : Int) : b_fo2_1 F F 0 (st_fo2_1 t4 t5 t28 t29 t30 t60 t61 t62 o8 c9_0 c9_1 c11_0 c11_1 c11_2 c11_3 c11_4 c11_5) (k_fo2_1 F n r K) = n_fo2_1 F (fun t4 t5 t28 t29 t30 o8 c9_0 c9_1 => b_fo2_0 F n (r + 1) (st_fo2_0 t4 t5 t28 t29 t30 o8 c9_0 c9_1) K) (fun t4 t5 t28 t29 t30 o8 c9_0 c9_1 => K .ret (st_fo2_0 t4 t5 t28 t29 t30 o8 c9_0 c9_1)) (fun t4 t5 t28 t29 t30 o8 c9_0 c9_1 => K (.exit 0) (st_fo2_0 t4 t5 t28 t29 t30 o8 c9_0 c9_1)) t4 t5 t28 t29 t30 t60 t61 t62 o8 c9_0 c9_1 c11_0 c11_1 c11_2 c11_3 c11_4 c11_5 := by
  rw [loop_fo2_1]
  have h0 : (fun t4 t5 t28 t29 t30 t60 t61 t62 o8 c9_0 c9_1 c11_0 c11_1 c11_2 c11_3 c11_4 c11_5 => k_fo2_1 F n r K (.exit 2) (st_fo2_1 t4 t5 t28 t29 t30 t60 t61 t62 o8 c9_0 c9_1 c11_0 c11_1 c11_2 c11_3 c11_4 c11_5)) = (fun t4 t5 t28 t29 t30 t60 t61 t62 o8 c9_0 c9_1 c11_0 c11_1 c11_2 c11_3 c11_4 c11_5 => g_fo2_c1_0 (fun t4 t5 t28 t29 t30 o8 c9_0 c9_1 => b_fo2_0 F n (r + 1) (st_fo2_0 t4 t5 t28 t29 t30 o8 c9_0 c9_1) K) (fun t4 t5 t28 t29 t30 o8 c9_0 c9_1 => K .ret (st_fo2_0 t4 t5 t28 t29 t30 o8 c9_0 c9_1)) (fun t4 t5 t28 t29 t30 o8 c9_0 c9_1 => K (.exit 0) (st_fo2_0 t4 t5 t28 t29 t30 o8 c9_0 c9_1)) t4 t5 t28 t29 t30 t60 t61 t62 o8 c9_0 c9_1 c11_0 c11_1 c11_2 c11_3 c11_4 c11_5) := by
    funext t4 t5 t28 t29 t30 t60 t61 t62 o8 c9_0 c9_1 c11_0 c11_1 c11_2 c11_3 c11_4 c11_5
    rw [cont_fo2_1_0]
  rw [h0]
  rfl
theorem loop_fo2_0 (F : Nat) (K : AEx → ASt UU → Prop) : ∀ (n r : Nat) (t4 : ByteArray) (t5 : Int) (t28 : List Opn) (t29 t30 : Int) (o8 : ByteArray) (c9_0 c9_1 : Int), b_fo2_0 F n r (st_fo2_0 t4 t5 t28 t29 t30 o8 c9_0 c9_1) K = w_fo2_0 F  (fun t4 t5 t28 t29 t30 o8 c9_0 c9_1 => K .ret (st_fo2_0 t4 t5 t28 t29 t30 o8 c9_0 c9_1)) (fun t4 t5 t28 t29 t30 o8 c9_0 c9_1 => K (.exit 0) (st_fo2_0 t4 t5 t28 t29 t30 o8 c9_0 c9_1)) n t4 t5 t28 t29 t30 o8 c9_0 c9_1 := by
  intro n
  induction n with
  | zero => intros; rfl
  | succ n ih =>
    intro r t4 t5 t28 t29 t30 o8 c9_0 c9_1
    have e : (fun t4 t5 t28 t29 t30 o8 c9_0 c9_1 => b_fo2_0 F n (r + 1) (st_fo2_0 t4 t5 t28 t29 t30 o8 c9_0 c9_1) K) = w_fo2_0 F  (fun t4 t5 t28 t29 t30 o8 c9_0 c9_1 => K .ret (st_fo2_0 t4 t5 t28 t29 t30 o8 c9_0 c9_1)) (fun t4 t5 t28 t29 t30 o8 c9_0 c9_1 => K (.exit 0) (st_fo2_0 t4 t5 t28 t29 t30 o8 c9_0 c9_1)) n := by
      funext t4 t5 t28 t29 t30 o8 c9_0 c9_1
      exact ih (r + 1) t4 t5 t28 t29 t30 o8 c9_0 c9_1
    have e1 : (fun t4 t5 t28 t29 t30 t60 t61 t62 o8 c9_0 c9_1 c11_0 c11_1 c11_2 c11_3 c11_4 c11_5 => b_fo2_1 F F 0 (st_fo2_1 t4 t5 t28 t29 t30 t60 t61 t62 o8 c9_0 c9_1 c11_0 c11_1 c11_2 c11_3 c11_4 c11_5) (k_fo2_1 F n r K)) = (n_fo2_1 F (fun t4 t5 t28 t29 t30 o8 c9_0 c9_1 => b_fo2_0 F n (r + 1) (st_fo2_0 t4 t5 t28 t29 t30 o8 c9_0 c9_1) K) (fun t4 t5 t28 t29 t30 o8 c9_0 c9_1 => K .ret (st_fo2_0 t4 t5 t28 t29 t30 o8 c9_0 c9_1)) (fun t4 t5 t28 t29 t30 o8 c9_0 c9_1 => K (.exit 0) (st_fo2_0 t4 t5 t28 t29 t30 o8 c9_0 c9_1))) := by
      funext t4 t5 t28 t29 t30 t60 t61 t62 o8 c9_0 c9_1 c11_0 c11_1 c11_2 c11_3 c11_4 c11_5
      exact nl_fo2_1 F n r K t4 t5 t28 t29 t30 t60 t61 t62 o8 c9_0 c9_1 c11_0 c11_1 c11_2 c11_3 c11_4 c11_5
    rw [step_fo2_0, e1, e]
    rfl
theorem nl_fo2_0 (F : Nat) (Post : AVal UU → Prop) (t4 : ByteArray) (t5 : Int) (t28 : List Opn) (t29 t30 : Int) (o8 : ByteArray) (c9_0 c9_1 : Int) : b_fo2_0 F F 0 (st_fo2_0 t4 t5 t28 t29 t30 o8 c9_0 c9_1) (k_fo2_0 F Post) = n_fo2_0 F (fun r0 r1 => Post (.tup [.str r0, .int .i64 r1])) t4 t5 t28 t29 t30 o8 c9_0 c9_1 := by
  rw [loop_fo2_0]
  have h0 : (fun t4 t5 t28 t29 t30 o8 c9_0 c9_1 => k_fo2_0 F Post .ret (st_fo2_0 t4 t5 t28 t29 t30 o8 c9_0 c9_1)) = (fun t4 t5 t28 t29 t30 o8 c9_0 c9_1 => g_fo2_c0_0 (fun r0 r1 => Post (.tup [.str r0, .int .i64 r1])) t4 t5 t28 t29 t30 o8 c9_0 c9_1) := by
    funext t4 t5 t28 t29 t30 o8 c9_0 c9_1
    rw [cont_fo2_0_0]
  have h1 : (fun t4 t5 t28 t29 t30 o8 c9_0 c9_1 => k_fo2_0 F Post (.exit 0) (st_fo2_0 t4 t5 t28 t29 t30 o8 c9_0 c9_1)) = (fun t4 t5 t28 t29 t30 o8 c9_0 c9_1 => g_fo2_c0_1 (fun r0 r1 => Post (.tup [.str r0, .int .i64 r1])) t4 t5 t28 t29 t30 o8 c9_0 c9_1) := by
    funext t4 t5 t28 t29 t30 o8 c9_0 c9_1
    rw [cont_fo2_0_1]
  rw [h0, h1]
  rfl
theorem exec_fo2 (F : Nat) (Post : AVal UU → Prop) (ops : List Opn) : exec C_zx Tryz.f20.ntmps M_fo2 F 0 (bo Tryz.f20) (initSt [.int .i64 2, .sl .op ops]) (AEnds C_zx false Tryz.f20 Post) = w_fo2 F ops (fun r0 r1 => Post (.tup [.str r0, .int .i64 r1])) := by
  rw [entry_fo2]
  have e0 : (fun t4 t5 t28 t29 t30 o8 c9_0 c9_1 => b_fo2_0 F F 0 (st_fo2_0 t4 t5 t28 t29 t30 o8 c9_0 c9_1) (k_fo2_0 F Post)) = (n_fo2_0 F (fun r0 r1 => Post (.tup [.str r0, .int .i64 r1]))) := by
    funext t4 t5 t28 t29 t30 o8 c9_0 c9_1
    exact nl_fo2_0 F Post t4 t5 t28 t29 t30 o8 c9_0 c9_1
  rw [e0]
  rfl
def m_fo2 : Model UU
  | [.int .i64 2, .sl .op ops] => some ([pre_fo2 ops], .tup [.str ((sp_fo2 ops).1), .int .i64 ((sp_fo2 ops).2)])
  | _ => none
def C_fo2 : Cfg UU := C_zx.add 20 m_fo2
theorem s_fo2 : SumOK C_fo2 := by
  refine s_zx.addD mixed (fn := Tryz.f20) (c := bo Tryz.f20) Tryz.func20 (by kernel_rfl) (by kernel_rfl) ?_
  intro xs cs r h hc
  unfold m_fo2 at h
  split at h
  · rename_i ops
    cases h
    obtain ⟨F, hF⟩ := ok_fo2 ops hc
    refine ⟨by kernel_rfl, M_fo2, F, false, ⟨?_⟩⟩
    rw [exec_fo2]
    refine hF _ ?_
    rfl
  · cases h
end
end Go.Proofs.YteffpgliiilnjaaGreatDoor
namespace Go.Proofs.YteffpgliiilnjaaGreatDoor
open Go.Vm Go.RowKit
set_option linter.unusedVariables false
set_option maxRecDepth 100000
noncomputable section
theorem entry_zbb (F : Nat) (Post : AVal UU → Prop)  : exec C_fo2 Tryz.f13.ntmps M_zbb F 0 (bo Tryz.f13) (initSt []) (AEnds C_fo2 false Tryz.f13 Post) = g_zbb_e  (fun r0 => Post (.bool r0)) := by kernel_rfl
theorem exec_zbb (F : Nat) (Post : AVal UU → Prop)  : exec C_fo2 Tryz.f13.ntmps M_zbb F 0 (bo Tryz.f13) (initSt []) (AEnds C_fo2 false Tryz.f13 Post) = w_zbb F  (fun r0 => Post (.bool r0)) := by
  rw [entry_zbb]
  rfl
def m_zbb : Model UU
  | [] => some ([], .bool sp_zbb)
  | _ => none
def C_zbb : Cfg UU := C_fo2.add 13 m_zbb
theorem s_zbb : SumOK C_zbb := by
  refine s_fo2.addD mixed (fn := Tryz.f13) (c := bo Tryz.f13) Tryz.func13 (by kernel_rfl) (by kernel_rfl) ?_
  intro xs cs r h hc
  unfold m_zbb at h
  split at h
  · cases h
    obtain ⟨F, hF⟩ := ok_zbb 
    refine ⟨by kernel_rfl, M_zbb, F, false, ⟨?_⟩⟩
    rw [exec_zbb]
    refine hF _ ?_
    rfl
  · cases h
end
end Go.Proofs.YteffpgliiilnjaaGreatDoor
