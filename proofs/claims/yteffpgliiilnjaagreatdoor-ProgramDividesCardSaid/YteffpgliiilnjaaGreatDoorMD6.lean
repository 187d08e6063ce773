/- Texts of this proof, one behind another: What pieces of code must make hold, in plain Lean; printed by gen.py. Conditions: none; de; program.Separate: the parts into which lines separate a sheet. Conditions: the lines are a; What pieces of code must make hold, in plain Lean; printed by gen.py. Conditions: none; de; What pieces of code must make hold, in plain Lean; printed by gen.py. Conditions: none; de; A grid and a finer one; areas; cells that do not overlap. Conditions: none; plain lemmas.; The law ProgramDivides, in plain words. Conditions: none.; That the code says what the printed pieces say, by the kernel; printed by gen.py. Conditio; That the code says what the printed pieces say, by the kernel; printed by gen.py. Conditio; That the code says what the printed pieces say, by the kernel; printed by gen.py. Conditio; That the code says what the printed pieces say, by the kernel; printed by gen.py. Conditio; That the code says what the printed pieces say, by the kernel; printed by gen.py. Conditio; That the code says what the printed pieces say, by the kernel; printed by gen.py. Conditio; slices.Clone of lines and of rectangles: a new slice of the same elements. Conditions: non; errors.As at a refusal, and program.code: the refusal's code. Conditions: none.. Conditions: none. -/
import Derived.Test.YteffpgliiilnjaaGreatDoorMD5
import Derived.Test.YteffpgliiilnjaaGreatDoorMD4
import Derived.WalkKit
import Derived.OwnWalk
import Derived.Lib.Walk
import Derived.Lib.SliceRun
import Derived.Deep.LoopGhost
import Derived.LaidEql
import Derived.RowKitTokens
namespace Go.Proofs.YteffpgliiilnjaaGreatDoor
open Go.Vm Go.RowKit
set_option linter.unusedVariables false
noncomputable section
def M_zh : Nat → Nat → Nat → Canon UU := fun o b r => cond (Nat.beq o 0 && Nat.beq b 0) ⟨[1, 2, 4, 5, 19, 20, 21], [2], [], [], []⟩ (cond (Nat.beq o 34000 && Nat.beq b 0) ⟨[1, 6, 7, 23, 24, 25], [], [(.tmp 6, 34188, .int), (.tmp 7, 34189, .int)], [], []⟩ (cond (Nat.beq o 34000 && Nat.beq b 2) ⟨[1, 10, 68, 69], [34049], [(.cell 34049 0, 34188, .int), (.cell 34049 1, 34189, .int), (.cell 34049 2, 34190, .bools), (.cell 34049 3, 34191, .bools), (.cell 34049 4, 34192, .ints)], [], [34190, 34191, 34192]⟩ (cond (Nat.beq o 34000 && Nat.beq b 4) ⟨[10, 118, 119, 120], [34049], [(.cell 34049 0, 34188, .int), (.cell 34049 1, 34189, .int), (.cell 34049 2, 34190, .bools), (.cell 34049 3, 34191, .bools), (.cell 34049 4, 34192, .ints)], [], [34190, 34191, 34192]⟩ (cond (Nat.beq o 34000 && Nat.beq b 6) ⟨[10, 12, 13, 15, 118, 119, 120], [34012, 34049], [(.cell 34049 0, 34188, .int), (.cell 34049 1, 34189, .int), (.cell 34049 2, 34190, .bools), (.cell 34049 3, 34191, .bools), (.cell 34049 4, 34192, .ints)], [], [34190, 34191, 34192]⟩ (cond (Nat.beq o 40000 && Nat.beq b 0) ⟨[0, 3, 12, 13], [34049], [(.cell 34049 0, 40114, .int), (.cell 34049 1, 40115, .int), (.cell 34049 2, 40116, .bools), (.cell 34049 3, 40117, .bools), (.cell 34049 4, 40118, .ints), (.tmp 3, 40119, .rects)], [], [40116, 40117, 40118, 40119]⟩ (cond (Nat.beq o 34000 && Nat.beq b 8) ⟨[10, 12, 13, 15, 118, 119, 120], [34012, 34049], [(.cell 34049 0, 34188, .int), (.cell 34049 1, 34189, .int), (.cell 34049 2, 34190, .bools), (.cell 34049 3, 34191, .bools), (.cell 34049 4, 34192, .ints)], [], [34190, 34191, 34192]⟩ (cond (Nat.beq o 40000 && Nat.beq b 2) ⟨[0, 3, 4, 12, 13, 21, 22], [34049], [(.cell 34049 0, 40114, .int), (.cell 34049 1, 40115, .int), (.cell 34049 2, 40116, .bools), (.cell 34049 3, 40117, .bools), (.cell 34049 4, 40118, .ints), (.tmp 3, 40119, .rects)], [], [40116, 40117, 40118, 40119]⟩ (cond (Nat.beq o 40042000 && Nat.beq b 0) ⟨[4, 7, 8, 2000000, 2000003, 2000004, 2000005, 2000012, 2000013, 2000021, 2000022], [34049, 40042004, 40042007, 40042008], [(.cell 34049 0, 40042145, .int), (.cell 34049 1, 40042146, .int), (.cell 34049 2, 40042147, .bools), (.cell 34049 3, 40042148, .bools), (.cell 34049 4, 40042149, .ints), (.cell 40042008 0, 40042150, .par), (.tmp 2000003, 40042151, .rects)], [], [40042147, 40042148, 40042149, 40042151]⟩ (⟨[], [], [], [], []⟩)))))))))
def st_zh_0 (t1 : List Seg) (t5 : Int) (t19 : List Seg) (t20 t21 : Int) (c2_0 c2_1 : ByteArray) (c2_2 c2_3 c2_4 c2_5 : Int) (c2_6 c2_7 : List Rect) : ASt UU := ⟨fun u => cond (Nat.beq u 1) (.sl .seg t1) (cond (Nat.beq u 2) (.ptr 2 0) (cond (Nat.beq u 4) (.nils) (cond (Nat.beq u 5) (.int .i64 t5) (cond (Nat.beq u 19) (.sl .seg t19) (cond (Nat.beq u 20) (.int .i64 t20) (cond (Nat.beq u 21) (.int .i64 t21) (.any))))))), fun u => cond (Nat.beq u 2) (some (.cells [.str c2_0, .str c2_1, .int .i64 c2_2, .int .i64 c2_3, .int .i64 c2_4, .int .i64 c2_5, .sl .rect c2_6, .sl .rect c2_7])) (none)⟩
def st_zh_1 (t1 t23 : List Seg) (t24 t25 : Int) (qax qay : List Int) : ASt UU := ⟨fun u => cond (Nat.beq u 1) (.sl .seg t1) (cond (Nat.beq u 6) (.osl 34188 0) (cond (Nat.beq u 7) (.osl 34189 0) (cond (Nat.beq u 23) (.sl .seg t23) (cond (Nat.beq u 24) (.int .i64 t24) (cond (Nat.beq u 25) (.int .i64 t25) (.any)))))), fun u => cond (Nat.beq u 34188) (some (.row .int 0 qax)) (cond (Nat.beq u 34189) (some (.row .int 0 qay)) (none))⟩
def st_zh_2 (t1 : List Seg) (t68 t69 : Int) (qax qay : List Int) (qaz qba : List (List Bool)) (qbb : List (List Int)) : ASt UU := ⟨fun u => cond (Nat.beq u 1) (.sl .seg t1) (cond (Nat.beq u 10) (.ptr 34049 0) (cond (Nat.beq u 68) (.int .i64 t68) (cond (Nat.beq u 69) (.int .i64 t69) (.any)))), fun u => cond (Nat.beq u 34188) (some (.row .int 0 qax)) (cond (Nat.beq u 34189) (some (.row .int 0 qay)) (cond (Nat.beq u 34190) (some (.deep .bools 0 0 qaz)) (cond (Nat.beq u 34191) (some (.deep .bools 0 0 qba)) (cond (Nat.beq u 34192) (some (.deep .ints 0 0 qbb)) (cond (Nat.beq u 34049) (some (.cells [.osl 34188 0, .osl 34189 0, .osl 34190 0, .osl 34191 0, .osl 34192 0])) (none))))))⟩
def st_zh_3 (t118 : List Seg) (t119 t120 : Int) (qax qay : List Int) (qaz qba : List (List Bool)) (qbb : List (List Int)) : ASt UU := ⟨fun u => cond (Nat.beq u 10) (.ptr 34049 0) (cond (Nat.beq u 118) (.sl .seg t118) (cond (Nat.beq u 119) (.int .i64 t119) (cond (Nat.beq u 120) (.int .i64 t120) (.any)))), fun u => cond (Nat.beq u 34188) (some (.row .int 0 qax)) (cond (Nat.beq u 34189) (some (.row .int 0 qay)) (cond (Nat.beq u 34190) (some (.deep .bools 0 0 qaz)) (cond (Nat.beq u 34191) (some (.deep .bools 0 0 qba)) (cond (Nat.beq u 34192) (some (.deep .ints 0 0 qbb)) (cond (Nat.beq u 34049) (some (.cells [.osl 34188 0, .osl 34189 0, .osl 34190 0, .osl 34191 0, .osl 34192 0])) (none))))))⟩
def st_zh_4 (t13 t15 : Int) (t118 : List Seg) (t119 t120 qas qat qau qav : Int) (qax qay : List Int) (qaz qba : List (List Bool)) (qbb : List (List Int)) : ASt UU := ⟨fun u => cond (Nat.beq u 10) (.ptr 34049 0) (cond (Nat.beq u 12) (.ptr 34012 0) (cond (Nat.beq u 13) (.int .i64 t13) (cond (Nat.beq u 15) (.int .i64 t15) (cond (Nat.beq u 118) (.sl .seg t118) (cond (Nat.beq u 119) (.int .i64 t119) (cond (Nat.beq u 120) (.int .i64 t120) (.any))))))), fun u => cond (Nat.beq u 34188) (some (.row .int 0 qax)) (cond (Nat.beq u 34189) (some (.row .int 0 qay)) (cond (Nat.beq u 34190) (some (.deep .bools 0 0 qaz)) (cond (Nat.beq u 34191) (some (.deep .bools 0 0 qba)) (cond (Nat.beq u 34192) (some (.deep .ints 0 0 qbb)) (cond (Nat.beq u 34012) (some (.cells [.int .i64 qas, .int .i64 qat, .int .i64 qau, .int .i64 qav])) (cond (Nat.beq u 34049) (some (.cells [.osl 34188 0, .osl 34189 0, .osl 34190 0, .osl 34191 0, .osl 34192 0])) (none)))))))⟩
def st_zh_5 (t12 t13 : Int) (qbj qbk : List Int) (qbl qbm : List (List Bool)) (qbn : List (List Int)) (qbo : List (List Rect)) : ASt UU := ⟨fun u => cond (Nat.beq u 0) (.ptr 34049 0) (cond (Nat.beq u 3) (.osl 40119 0) (cond (Nat.beq u 12) (.int .i64 t12) (cond (Nat.beq u 13) (.int .i64 t13) (.any)))), fun u => cond (Nat.beq u 40114) (some (.row .int 0 qbj)) (cond (Nat.beq u 40115) (some (.row .int 0 qbk)) (cond (Nat.beq u 40116) (some (.deep .bools 0 0 qbl)) (cond (Nat.beq u 40117) (some (.deep .bools 0 0 qbm)) (cond (Nat.beq u 40118) (some (.deep .ints 0 0 qbn)) (cond (Nat.beq u 40119) (some (.deep .rects 0 0 qbo)) (cond (Nat.beq u 34049) (some (.cells [.osl 40114 0, .osl 40115 0, .osl 40116 0, .osl 40117 0, .osl 40118 0])) (none)))))))⟩
def st_zh_6 (t13 t15 : Int) (t118 : List Seg) (t119 t120 qas qat qau qav : Int) (qax qay : List Int) (qaz qba : List (List Bool)) (qbb : List (List Int)) : ASt UU := ⟨fun u => cond (Nat.beq u 10) (.ptr 34049 0) (cond (Nat.beq u 12) (.ptr 34012 0) (cond (Nat.beq u 13) (.int .i64 t13) (cond (Nat.beq u 15) (.int .i64 t15) (cond (Nat.beq u 118) (.sl .seg t118) (cond (Nat.beq u 119) (.int .i64 t119) (cond (Nat.beq u 120) (.int .i64 t120) (.any))))))), fun u => cond (Nat.beq u 34188) (some (.row .int 0 qax)) (cond (Nat.beq u 34189) (some (.row .int 0 qay)) (cond (Nat.beq u 34190) (some (.deep .bools 0 0 qaz)) (cond (Nat.beq u 34191) (some (.deep .bools 0 0 qba)) (cond (Nat.beq u 34192) (some (.deep .ints 0 0 qbb)) (cond (Nat.beq u 34012) (some (.cells [.int .i64 qas, .int .i64 qat, .int .i64 qau, .int .i64 qav])) (cond (Nat.beq u 34049) (some (.cells [.osl 34188 0, .osl 34189 0, .osl 34190 0, .osl 34191 0, .osl 34192 0])) (none)))))))⟩
def st_zh_7 (t4 t12 t13 t21 t22 : Int) (qbj qbk : List Int) (qbl qbm : List (List Bool)) (qbn : List (List Int)) (qbo : List (List Rect)) : ASt UU := ⟨fun u => cond (Nat.beq u 0) (.ptr 34049 0) (cond (Nat.beq u 3) (.osl 40119 0) (cond (Nat.beq u 4) (.int .i64 t4) (cond (Nat.beq u 12) (.int .i64 t12) (cond (Nat.beq u 13) (.int .i64 t13) (cond (Nat.beq u 21) (.int .i64 t21) (cond (Nat.beq u 22) (.int .i64 t22) (.any))))))), fun u => cond (Nat.beq u 40114) (some (.row .int 0 qbj)) (cond (Nat.beq u 40115) (some (.row .int 0 qbk)) (cond (Nat.beq u 40116) (some (.deep .bools 0 0 qbl)) (cond (Nat.beq u 40117) (some (.deep .bools 0 0 qbm)) (cond (Nat.beq u 40118) (some (.deep .ints 0 0 qbn)) (cond (Nat.beq u 40119) (some (.deep .rects 0 0 qbo)) (cond (Nat.beq u 34049) (some (.cells [.osl 40114 0, .osl 40115 0, .osl 40116 0, .osl 40117 0, .osl 40118 0])) (none)))))))⟩
def st_zh_8 (qbp qbq qbr qbs qbt qbu qaw : Int) (qbc qbd : List Int) (qbe qbf : List (List Bool)) (qbg : List (List Int)) (qbh : List Par) (qbi : List (List Rect)) : ASt UU := ⟨fun u => cond (Nat.beq u 4) (.ptr 40042004 0) (cond (Nat.beq u 7) (.ptr 40042007 0) (cond (Nat.beq u 8) (.ptr 40042008 0) (cond (Nat.beq u 2000000) (.ptr 34049 0) (cond (Nat.beq u 2000003) (.osl 40042151 0) (cond (Nat.beq u 2000004) (.int .i64 qbp) (cond (Nat.beq u 2000005) (.int .i64 qbq) (cond (Nat.beq u 2000012) (.int .i64 qbr) (cond (Nat.beq u 2000013) (.int .i64 qbs) (cond (Nat.beq u 2000021) (.int .i64 qbt) (cond (Nat.beq u 2000022) (.int .i64 qbu) (.any))))))))))), fun u => cond (Nat.beq u 40042145) (some (.row .int 0 qbc)) (cond (Nat.beq u 40042146) (some (.row .int 0 qbd)) (cond (Nat.beq u 40042147) (some (.deep .bools 0 0 qbe)) (cond (Nat.beq u 40042148) (some (.deep .bools 0 0 qbf)) (cond (Nat.beq u 40042149) (some (.deep .ints 0 0 qbg)) (cond (Nat.beq u 40042150) (some (.row .par 0 qbh)) (cond (Nat.beq u 40042151) (some (.deep .rects 0 0 qbi)) (cond (Nat.beq u 34049) (some (.cells [.osl 40042145 0, .osl 40042146 0, .osl 40042147 0, .osl 40042148 0, .osl 40042149 0])) (cond (Nat.beq u 40042004) (some (.cells [.ptr 34049 0])) (cond (Nat.beq u 40042007) (some (.cells [.int .i64 qaw])) (cond (Nat.beq u 40042008) (some (.cells [.osl 40042150 0])) (none)))))))))))⟩
def g_zh_e (qe qf : ByteArray) (qg qh qa qb : Int) (qc qd : List Rect) (a1 : List Seg) (Q : List (List Rect) → Int → Prop) (i0 : List Seg → Int → List Seg → Int → Int → ByteArray → ByteArray → Int → Int → Int → Int → List Rect → List Rect → Prop) : Prop := (let r0 := (sp_zc qe qf qg qh qa qb qc qd); cond (r0 != 0) (Q ([]) r0) (cond (decide (200 < (a1.length : Int))) (Q ([]) 4) (i0 a1 0 a1 (a1.length : Int) 0 qe qf qg qh qa qb qc qd)))
def g_zh_s0 (rec : List Seg → Int → List Seg → Int → Int → ByteArray → ByteArray → Int → Int → Int → Int → List Rect → List Rect → Prop) (x0 : List Seg → Int → List Seg → Int → Int → ByteArray → ByteArray → Int → Int → Int → Int → List Rect → List Rect → Prop) (x1 : List Seg → Int → List Seg → Int → Int → ByteArray → ByteArray → Int → Int → Int → Int → List Rect → List Rect → Prop) (t1 : List Seg) (t5 : Int) (t19 : List Seg) (t20 t21 : Int) (c2_0 c2_1 : ByteArray) (c2_2 c2_3 c2_4 c2_5 : Int) (c2_6 c2_7 : List Rect) : Prop := cond (decide (t21 < t20)) ((let e0 := (t19.getD t21.toNat default); ((0 ≤ t21 ∧ t21 < t19.length) ∧ (let r1 := (sp_zd c2_0 c2_1 c2_2 c2_3 c2_4 c2_5 c2_6 c2_7 e0.X1 e0.Y1 e0.X2 e0.Y2); cond (!r1) (x0 t1 1 t19 t20 t21 c2_0 c2_1 c2_2 c2_3 c2_4 c2_5 c2_6 c2_7) (rec t1 t5 t19 t20 (w64 (t21 + 1)) c2_0 c2_1 c2_2 c2_3 c2_4 c2_5 c2_6 c2_7))))) (x1 t1 t5 t19 t20 t21 c2_0 c2_1 c2_2 c2_3 c2_4 c2_5 c2_6 c2_7)
def g_zh_c0_0 (Q : List (List Rect) → Int → Prop) (t1 : List Seg) (t5 : Int) (t19 : List Seg) (t20 t21 : Int) (c2_0 c2_1 : ByteArray) (c2_2 c2_3 c2_4 c2_5 : Int) (c2_6 c2_7 : List Rect) : Prop := Q ([]) t5
def g_zh_c0_1 (Q : List (List Rect) → Int → Prop) (t1 : List Seg) (t5 : Int) (t19 : List Seg) (t20 t21 : Int) (c2_0 c2_1 : ByteArray) (c2_2 c2_3 c2_4 c2_5 : Int) (c2_6 c2_7 : List Rect) (i1 : List Seg → List Seg → Int → Int → List Int → List Int → Prop) : Prop := i1 t1 t1 (t1.length : Int) 0 ([0, c2_4]) ([0, c2_5])
def g_zh_s1 (rec : List Seg → List Seg → Int → Int → List Int → List Int → Prop) (x0 : List Seg → List Seg → Int → Int → List Int → List Int → Prop) (t1 t23 : List Seg) (t24 t25 : Int) (qax qay : List Int) : Prop := cond (decide (t25 < t24)) ((let e0 := (t23.getD t25.toNat default); ((0 ≤ t25 ∧ t25 < t23.length) ∧ (((qax.length + ([e0.X1, e0.X2]).length) * 8 ≤ 140737488355328) ∧ (((qay.length + ([e0.Y1, e0.Y2]).length) * 8 ≤ 140737488355328) ∧ rec t1 t23 t24 (w64 (t25 + 1)) (qax ++ ([e0.X1, e0.X2])) (qay ++ ([e0.Y1, e0.Y2]))))))) (x0 t1 t23 t24 t25 qax qay)
def g_zh_c1_0 (Q : List (List Rect) → Int → Prop) (t1 t23 : List Seg) (t24 t25 : Int) (qax qay : List Int) (i2 : List Seg → Int → Int → List Int → List Int → List (List Bool) → List (List Bool) → List (List Int) → Prop) : Prop := ((qax.length ≤ 1000) ∧ ((qay.length ≤ 1000) ∧ (let v0 := w64 ((w64 (((srtC qax).length : Int) - 1)) * (w64 (((srtC qay).length : Int) - 1))); cond (decide (6000 < v0)) (Q ([]) 4) (i2 t1 ((srtC qax).length : Int) 0 (srtC qax) (srtC qay) ([]) ([]) ([])))))
def g_zh_s2 (rec : List Seg → Int → Int → List Int → List Int → List (List Bool) → List (List Bool) → List (List Int) → Prop) (x0 : List Seg → Int → Int → List Int → List Int → List (List Bool) → List (List Bool) → List (List Int) → Prop) (t1 : List Seg) (t68 t69 : Int) (qax qay : List Int) (qaz qba : List (List Bool)) (qbb : List (List Int)) : Prop := cond (decide (t69 < t68)) (((0 ≤ (qay.length : Int) ∧ (qay.length : Int) = (qay.length : Int) ∧ (qay.length : Int) * 1 ≤ 140737488355328) ∧ (((qaz.length + 1) * 24 ≤ 140737488355328) ∧ ((0 ≤ (qay.length : Int) ∧ (qay.length : Int) = (qay.length : Int) ∧ (qay.length : Int) * 1 ≤ 140737488355328) ∧ (((qba.length + 1) * 24 ≤ 140737488355328) ∧ ((pre_zar ([(-1)]) (qay.length : Int)) ∧ (((qbb.length + 1) * 24 ≤ 140737488355328) ∧ rec t1 t68 (w64 (t69 + 1)) qax qay (qaz ++ [(List.replicate ((qay.length : Int).toNat) (false : Bool))]) (qba ++ [(List.replicate ((qay.length : Int).toNat) (false : Bool))]) (qbb ++ [(sp_zar ([(-1)]) (qay.length : Int))])))))))) (x0 t1 t68 t69 qax qay qaz qba qbb)
def g_zh_c2_0 (Q : List (List Rect) → Int → Prop) (t1 : List Seg) (t68 t69 : Int) (qax qay : List Int) (qaz qba : List (List Bool)) (qbb : List (List Int)) (i3 : List Seg → Int → Int → List Int → List Int → List (List Bool) → List (List Bool) → List (List Int) → Prop) : Prop := i3 t1 (t1.length : Int) 0 qax qay qaz qba qbb
def g_zh_s3 (rec : List Seg → Int → Int → List Int → List Int → List (List Bool) → List (List Bool) → List (List Int) → Prop) (x0 : List Seg → Int → Int → List Int → List Int → List (List Bool) → List (List Bool) → List (List Int) → Prop) (t118 : List Seg) (t119 t120 : Int) (qax qay : List Int) (qaz qba : List (List Bool)) (qbb : List (List Int)) (i4 : Int → Int → List Seg → Int → Int → Int → Int → Int → Int → List Int → List Int → List (List Bool) → List (List Bool) → List (List Int) → Prop) : Prop := cond (decide (t120 < t119)) ((let e0 := (t118.getD t120.toNat default); ((0 ≤ t120 ∧ t120 < t118.length) ∧ (let r1 := (sp_zaq qax e0.X1); ((pre_zaq qax e0.X1) ∧ (let r2 := (sp_zaq qay e0.Y1); ((pre_zaq qay e0.Y1) ∧ i4 r1.1 r2.1 t118 t119 t120 e0.X1 e0.Y1 e0.X2 e0.Y2 qax qay qaz qba qbb))))))) (x0 t118 t119 t120 qax qay qaz qba qbb)
def g_zh_c3_0 (Q : List (List Rect) → Int → Prop) (t118 : List Seg) (t119 t120 : Int) (qax qay : List Int) (qaz qba : List (List Bool)) (qbb : List (List Int)) (i5 : Int → Int → List Int → List Int → List (List Bool) → List (List Bool) → List (List Int) → List (List Rect) → Prop) : Prop := i5 (w64 ((qay.length : Int) - 1)) 0 qax qay qaz qba qbb ([])
def g_zh_s4 (rec : Int → Int → List Seg → Int → Int → Int → Int → Int → Int → List Int → List Int → List (List Bool) → List (List Bool) → List (List Int) → Prop) (x0 : Int → Int → List Seg → Int → Int → Int → Int → Int → Int → List Int → List Int → List (List Bool) → List (List Bool) → List (List Int) → Prop) (t13 t15 : Int) (t118 : List Seg) (t119 t120 qas qat qau qav : Int) (qax qay : List Int) (qaz qba : List (List Bool)) (qbb : List (List Int)) : Prop := ((0 ≤ t13 ∧ t13 < qax.length) ∧ cond (decide ((qax.getD t13.toNat default) < qau)) ((((0 ≤ t13 ∧ t13 < qba.length) ∧ (0 ≤ t15 ∧ t15 < (qba.getD t13.toNat default).length)) ∧ rec (w64 (t13 + 1)) t15 t118 t119 t120 qas qat qau qav qax qay qaz (qba.set t13.toNat ((qba.getD t13.toNat default).set t15.toNat true)) qbb)) (x0 t13 t15 t118 t119 t120 qas qat qau qav qax qay qaz qba qbb))
def g_zh_c4_0 (rec : List Seg → Int → Int → List Int → List Int → List (List Bool) → List (List Bool) → List (List Int) → Prop) (x0 : List Seg → Int → Int → List Int → List Int → List (List Bool) → List (List Bool) → List (List Int) → Prop) (t13 t15 : Int) (t118 : List Seg) (t119 t120 qas qat qau qav : Int) (qax qay : List Int) (qaz qba : List (List Bool)) (qbb : List (List Int)) (i6 : Int → Int → List Seg → Int → Int → Int → Int → Int → Int → List Int → List Int → List (List Bool) → List (List Bool) → List (List Int) → Prop) : Prop := i6 t13 t15 t118 t119 t120 qas qat qau qav qax qay qaz qba qbb
def g_zh_s5 (rec : Int → Int → List Int → List Int → List (List Bool) → List (List Bool) → List (List Int) → List (List Rect) → Prop) (x0 : Int → Int → List Int → List Int → List (List Bool) → List (List Bool) → List (List Int) → List (List Rect) → Prop) (t12 t13 : Int) (qbj qbk : List Int) (qbl qbm : List (List Bool)) (qbn : List (List Int)) (qbo : List (List Rect)) (i7 : Int → Int → Int → Int → Int → List Int → List Int → List (List Bool) → List (List Bool) → List (List Int) → List (List Rect) → Prop) : Prop := cond (decide (t13 < t12)) (i7 t13 t12 t13 (w64 ((qbj.length : Int) - 1)) 0 qbj qbk qbl qbm qbn qbo) (x0 t12 t13 qbj qbk qbl qbm qbn qbo)
def g_zh_c5_0 (Q : List (List Rect) → Int → Prop) (t12 t13 : Int) (qbj qbk : List Int) (qbl qbm : List (List Bool)) (qbn : List (List Int)) (qbo : List (List Rect)) : Prop := Q qbo 0
def g_zh_s6 (rec : Int → Int → List Seg → Int → Int → Int → Int → Int → Int → List Int → List Int → List (List Bool) → List (List Bool) → List (List Int) → Prop) (x0 : Int → Int → List Seg → Int → Int → Int → Int → Int → Int → List Int → List Int → List (List Bool) → List (List Bool) → List (List Int) → Prop) (t13 t15 : Int) (t118 : List Seg) (t119 t120 qas qat qau qav : Int) (qax qay : List Int) (qaz qba : List (List Bool)) (qbb : List (List Int)) : Prop := ((0 ≤ t15 ∧ t15 < qay.length) ∧ cond (decide ((qay.getD t15.toNat default) < qav)) ((((0 ≤ t13 ∧ t13 < qaz.length) ∧ (0 ≤ t15 ∧ t15 < (qaz.getD t13.toNat default).length)) ∧ rec t13 (w64 (t15 + 1)) t118 t119 t120 qas qat qau qav qax qay (qaz.set t13.toNat ((qaz.getD t13.toNat default).set t15.toNat true)) qba qbb)) (x0 t13 t15 t118 t119 t120 qas qat qau qav qax qay qaz qba qbb))
def g_zh_c6_0 (rec : List Seg → Int → Int → List Int → List Int → List (List Bool) → List (List Bool) → List (List Int) → Prop) (x0 : List Seg → Int → Int → List Int → List Int → List (List Bool) → List (List Bool) → List (List Int) → Prop) (t13 t15 : Int) (t118 : List Seg) (t119 t120 qas qat qau qav : Int) (qax qay : List Int) (qaz qba : List (List Bool)) (qbb : List (List Int)) : Prop := rec t118 t119 (w64 (t120 + 1)) qax qay qaz qba qbb
def g_zh_s7 (rec : Int → Int → Int → Int → Int → List Int → List Int → List (List Bool) → List (List Bool) → List (List Int) → List (List Rect) → Prop) (x0 : Int → Int → Int → Int → Int → List Int → List Int → List (List Bool) → List (List Bool) → List (List Int) → List (List Rect) → Prop) (t4 t12 t13 t21 t22 : Int) (qbj qbk : List Int) (qbl qbm : List (List Bool)) (qbn : List (List Int)) (qbo : List (List Rect)) (i8 : Int → Int → Int → Int → Int → Int → Int → List Int → List Int → List (List Bool) → List (List Bool) → List (List Int) → List Par → List (List Rect) → Prop) : Prop := cond (decide (t22 < t21)) ((let v0 := ((qbn.getD t22.toNat default).getD t4.toNat default); (((0 ≤ t22 ∧ t22 < qbn.length) ∧ (0 ≤ t4 ∧ t4 < (qbn.getD t22.toNat default).length)) ∧ cond (decide (v0 < 0)) (((0 ≤ t22 ∧ t22 < qbn.length) ∧ ((0 ≤ t4 ∧ t4 < (qbn.getD t22.toNat default).length) ∧ i8 t4 t22 t12 t13 t21 t22 (qbo.length : Int) qbj qbk qbl qbm (qbn.set t22.toNat ((qbn.getD t22.toNat default).set t4.toNat (qbo.length : Int))) ([(Par.mk t22 t4)]) qbo))) ((let v1 := ((qbn.getD t22.toNat default).getD t4.toNat default); (((0 ≤ t22 ∧ t22 < qbn.length) ∧ (0 ≤ t4 ∧ t4 < (qbn.getD t22.toNat default).length)) ∧ ((0 ≤ v1 ∧ v1 < qbo.length) ∧ ((0 ≤ t22 ∧ t22 < qbj.length) ∧ ((0 ≤ t4 ∧ t4 < qbk.length) ∧ ((0 ≤ (w64 (t22 + 1)) ∧ (w64 (t22 + 1)) < qbj.length) ∧ (let v2 := (qbj.getD ((w64 (t22 + 1)).toNat) default); ((0 ≤ t22 ∧ t22 < qbj.length) ∧ ((0 ≤ (w64 (t4 + 1)) ∧ (w64 (t4 + 1)) < qbk.length) ∧ ((0 ≤ t4 ∧ t4 < qbk.length) ∧ (let v3 := w64 ((qbk.getD ((w64 (t4 + 1)).toNat) default) - (qbk.getD t4.toNat default)); ((((qbo.getD v1.toNat default).length + ([(Rect.mk (qbj.getD t22.toNat default) (qbk.getD t4.toNat default) (w64 (v2 - (qbj.getD t22.toNat default))) v3)]).length) * 32 ≤ 140737488355328) ∧ ((0 ≤ v1 ∧ v1 < (qbo.set v1.toNat ((qbo.getD v1.toNat default) ++ ([(Rect.mk (qbj.getD t22.toNat default) (qbk.getD t4.toNat default) (w64 (v2 - (qbj.getD t22.toNat default))) v3)]))).length) ∧ ((v1.toNat = v1.toNat ∧ v1.toNat = v1.toNat) ∧ rec t4 t12 t13 t21 (w64 (t22 + 1)) qbj qbk qbl qbm qbn (qbo.set v1.toNat ((qbo.getD v1.toNat default) ++ ([(Rect.mk (qbj.getD t22.toNat default) (qbk.getD t4.toNat default) (w64 (v2 - (qbj.getD t22.toNat default))) v3)]))))))))))))))))))))) (x0 t4 t12 t13 t21 t22 qbj qbk qbl qbm qbn qbo)
def g_zh_c7_0 (rec : Int → Int → List Int → List Int → List (List Bool) → List (List Bool) → List (List Int) → List (List Rect) → Prop) (x0 : Int → Int → List Int → List Int → List (List Bool) → List (List Bool) → List (List Int) → List (List Rect) → Prop) (t4 t12 t13 t21 t22 : Int) (qbj qbk : List Int) (qbl qbm : List (List Bool)) (qbn : List (List Int)) (qbo : List (List Rect)) : Prop := rec t12 (w64 (t13 + 1)) qbj qbk qbl qbm qbn qbo
def g_zh_s8 (rec : Int → Int → Int → Int → Int → Int → Int → List Int → List Int → List (List Bool) → List (List Bool) → List (List Int) → List Par → List (List Rect) → Prop) (x0 : Int → Int → Int → Int → Int → Int → Int → List Int → List Int → List (List Bool) → List (List Bool) → List (List Int) → List Par → List (List Rect) → Prop) (qbp qbq qbr qbs qbt qbu qaw : Int) (qbc qbd : List Int) (qbe qbf : List (List Bool)) (qbg : List (List Int)) (qbh : List Par) (qbi : List (List Rect)) : Prop := cond (decide (0 < (qbh.length : Int))) (((0 ≤ (w64 ((qbh.length : Int) - 1)) ∧ (w64 ((qbh.length : Int) - 1)) < qbh.length) ∧ ((0 ≤ (0 : Int) ∧ (0 : Int) < 2) ∧ (let v0 := (qbh.getD ((w64 ((qbh.length : Int) - 1)).toNat) default).e0; ((0 ≤ (w64 ((qbh.length : Int) - 1)) ∧ (w64 ((qbh.length : Int) - 1)) < qbh.length) ∧ ((0 ≤ (1 : Int) ∧ (1 : Int) < 2) ∧ (let v1 := (qbh.getD ((w64 ((qbh.length : Int) - 1)).toNat) default).e1; ((0 ≤ (w64 ((qbh.length : Int) - 1)) ∧ (w64 ((qbh.length : Int) - 1)) ≤ qbh.length) ∧ meetG ((decide (0 < v0)) = true → ((0 ≤ v0 ∧ v0 < qbe.length) ∧ 0 ≤ v1 ∧ v1 < (qbe.getD v0.toNat default).length)) ((decide (0 < v0)) && (!((qbe.getD v0.toNat default).getD v1.toNat default))) (ma (w64 (v0 - 1)) 0) v1 qaw qbg (qbh.take ((w64 ((qbh.length : Int) - 1)).toNat)) fun qbg qbh => meetG ((decide ((w64 (v0 + 2)) < (qbc.length : Int))) = true → ((0 ≤ (w64 (v0 + 1)) ∧ (w64 (v0 + 1)) < qbe.length) ∧ 0 ≤ v1 ∧ v1 < (qbe.getD ((w64 (v0 + 1)).toNat) default).length)) ((decide ((w64 (v0 + 2)) < (qbc.length : Int))) && (!((qbe.getD ((w64 (v0 + 1)).toNat) default).getD v1.toNat default))) (w64 (v0 + 1)) v1 qaw qbg qbh fun qbg qbh => meetG ((decide (0 < v1)) = true → ((0 ≤ v0 ∧ v0 < qbf.length) ∧ 0 ≤ v1 ∧ v1 < (qbf.getD v0.toNat default).length)) ((decide (0 < v1)) && (!((qbf.getD v0.toNat default).getD v1.toNat default))) v0 (ma (w64 (v1 - 1)) 0) qaw qbg qbh fun qbg qbh => meetG ((decide ((w64 (v1 + 2)) < (qbd.length : Int))) = true → ((0 ≤ v0 ∧ v0 < qbf.length) ∧ 0 ≤ (w64 (v1 + 1)) ∧ (w64 (v1 + 1)) < (qbf.getD v0.toNat default).length)) ((decide ((w64 (v1 + 2)) < (qbd.length : Int))) && (!((qbf.getD v0.toNat default).getD ((w64 (v1 + 1)).toNat) default))) v0 (w64 (v1 + 1)) qaw qbg qbh fun qbg qbh => rec qbp qbq qbr qbs qbt qbu qaw qbc qbd qbe qbf qbg qbh qbi)))))))) (x0 qbp qbq qbr qbs qbt qbu qaw qbc qbd qbe qbf qbg qbh qbi)
def g_zh_c8_0 (rec : Int → Int → Int → Int → Int → List Int → List Int → List (List Bool) → List (List Bool) → List (List Int) → List (List Rect) → Prop) (x0 : Int → Int → Int → Int → Int → List Int → List Int → List (List Bool) → List (List Bool) → List (List Int) → List (List Rect) → Prop) (qbp qbq qbr qbs qbt qbu qaw : Int) (qbc qbd : List Int) (qbe qbf : List (List Bool)) (qbg : List (List Int)) (qbh : List Par) (qbi : List (List Rect)) : Prop := (((qbi.length + ([[]] : List (List Rect)).length) * 24 ≤ 140737488355328) ∧ (let v0 := ((qbg.getD qbq.toNat default).getD qbp.toNat default); (((0 ≤ qbq ∧ qbq < qbg.length) ∧ (0 ≤ qbp ∧ qbp < (qbg.getD qbq.toNat default).length)) ∧ ((0 ≤ v0 ∧ v0 < (qbi ++ ([[]] : List (List Rect))).length) ∧ ((0 ≤ qbq ∧ qbq < qbc.length) ∧ ((0 ≤ qbp ∧ qbp < qbd.length) ∧ ((0 ≤ (w64 (qbq + 1)) ∧ (w64 (qbq + 1)) < qbc.length) ∧ (let v1 := (qbc.getD ((w64 (qbq + 1)).toNat) default); ((0 ≤ qbq ∧ qbq < qbc.length) ∧ (let v2 := w64 (v1 - (qbc.getD qbq.toNat default)); ((0 ≤ (w64 (qbp + 1)) ∧ (w64 (qbp + 1)) < qbd.length) ∧ (let v3 := (qbd.getD ((w64 (qbp + 1)).toNat) default); ((0 ≤ qbp ∧ qbp < qbd.length) ∧ (let v4 := w64 (v3 - (qbd.getD qbp.toNat default)); (((((qbi ++ ([[]] : List (List Rect))).getD v0.toNat default).length + ([(Rect.mk (qbc.getD qbq.toNat default) (qbd.getD qbp.toNat default) v2 v4)]).length) * 32 ≤ 140737488355328) ∧ ((0 ≤ v0 ∧ v0 < ((qbi ++ ([[]] : List (List Rect))).set v0.toNat (((qbi ++ ([[]] : List (List Rect))).getD v0.toNat default) ++ ([(Rect.mk (qbc.getD qbq.toNat default) (qbd.getD qbp.toNat default) v2 v4)]))).length) ∧ ((v0.toNat = v0.toNat ∧ v0.toNat = v0.toNat) ∧ rec qbp qbr qbs qbt (w64 (qbu + 1)) qbc qbd qbe qbf qbg ((qbi ++ ([[]] : List (List Rect))).set v0.toNat (((qbi ++ ([[]] : List (List Rect))).getD v0.toNat default) ++ ([(Rect.mk (qbc.getD qbq.toNat default) (qbd.getD qbp.toNat default) v2 v4)]))))))))))))))))))))
def w_zh_6 (F : Nat) (x0 : Int → Int → List Seg → Int → Int → Int → Int → Int → Int → List Int → List Int → List (List Bool) → List (List Bool) → List (List Int) → Prop) : Nat → Int → Int → List Seg → Int → Int → Int → Int → Int → Int → List Int → List Int → List (List Bool) → List (List Bool) → List (List Int) → Prop
 | 0, _, _, _, _, _, _, _, _, _, _, _, _, _, _ => False
 | n + 1, t13, t15, t118, t119, t120, qas, qat, qau, qav, qax, qay, qaz, qba, qbb => g_zh_s6 (w_zh_6 F x0 n) x0 t13 t15 t118 t119 t120 qas qat qau qav qax qay qaz qba qbb
def n_zh_6 (F : Nat) (rec : List Seg → Int → Int → List Int → List Int → List (List Bool) → List (List Bool) → List (List Int) → Prop) (x0 : List Seg → Int → Int → List Int → List Int → List (List Bool) → List (List Bool) → List (List Int) → Prop) (t13 t15 : Int) (t118 : List Seg) (t119 t120 qas qat qau qav : Int) (qax qay : List Int) (qaz qba : List (List Bool)) (qbb : List (List Int)) : Prop := w_zh_6 F (fun t13 t15 t118 t119 t120 qas qat qau qav qax qay qaz qba qbb => g_zh_c6_0 rec x0 t13 t15 t118 t119 t120 qas qat qau qav qax qay qaz qba qbb) F t13 t15 t118 t119 t120 qas qat qau qav qax qay qaz qba qbb
def w_zh_4 (F : Nat) (x0 : Int → Int → List Seg → Int → Int → Int → Int → Int → Int → List Int → List Int → List (List Bool) → List (List Bool) → List (List Int) → Prop) : Nat → Int → Int → List Seg → Int → Int → Int → Int → Int → Int → List Int → List Int → List (List Bool) → List (List Bool) → List (List Int) → Prop
 | 0, _, _, _, _, _, _, _, _, _, _, _, _, _, _ => False
 | n + 1, t13, t15, t118, t119, t120, qas, qat, qau, qav, qax, qay, qaz, qba, qbb => g_zh_s4 (w_zh_4 F x0 n) x0 t13 t15 t118 t119 t120 qas qat qau qav qax qay qaz qba qbb
def n_zh_4 (F : Nat) (rec : List Seg → Int → Int → List Int → List Int → List (List Bool) → List (List Bool) → List (List Int) → Prop) (x0 : List Seg → Int → Int → List Int → List Int → List (List Bool) → List (List Bool) → List (List Int) → Prop) (t13 t15 : Int) (t118 : List Seg) (t119 t120 qas qat qau qav : Int) (qax qay : List Int) (qaz qba : List (List Bool)) (qbb : List (List Int)) : Prop := w_zh_4 F (fun t13 t15 t118 t119 t120 qas qat qau qav qax qay qaz qba qbb => g_zh_c4_0 rec x0 t13 t15 t118 t119 t120 qas qat qau qav qax qay qaz qba qbb (n_zh_6 F rec x0)) F t13 t15 t118 t119 t120 qas qat qau qav qax qay qaz qba qbb
def w_zh_8 (F : Nat) (x0 : Int → Int → Int → Int → Int → Int → Int → List Int → List Int → List (List Bool) → List (List Bool) → List (List Int) → List Par → List (List Rect) → Prop) : Nat → Int → Int → Int → Int → Int → Int → Int → List Int → List Int → List (List Bool) → List (List Bool) → List (List Int) → List Par → List (List Rect) → Prop
 | 0, _, _, _, _, _, _, _, _, _, _, _, _, _, _ => False
 | n + 1, qbp, qbq, qbr, qbs, qbt, qbu, qaw, qbc, qbd, qbe, qbf, qbg, qbh, qbi => g_zh_s8 (w_zh_8 F x0 n) x0 qbp qbq qbr qbs qbt qbu qaw qbc qbd qbe qbf qbg qbh qbi
def n_zh_8 (F : Nat) (rec : Int → Int → Int → Int → Int → List Int → List Int → List (List Bool) → List (List Bool) → List (List Int) → List (List Rect) → Prop) (x0 : Int → Int → Int → Int → Int → List Int → List Int → List (List Bool) → List (List Bool) → List (List Int) → List (List Rect) → Prop) (qbp qbq qbr qbs qbt qbu qaw : Int) (qbc qbd : List Int) (qbe qbf : List (List Bool)) (qbg : List (List Int)) (qbh : List Par) (qbi : List (List Rect)) : Prop := w_zh_8 F (fun qbp qbq qbr qbs qbt qbu qaw qbc qbd qbe qbf qbg qbh qbi => g_zh_c8_0 rec x0 qbp qbq qbr qbs qbt qbu qaw qbc qbd qbe qbf qbg qbh qbi) F qbp qbq qbr qbs qbt qbu qaw qbc qbd qbe qbf qbg qbh qbi
def w_zh_7 (F : Nat) (x0 : Int → Int → Int → Int → Int → List Int → List Int → List (List Bool) → List (List Bool) → List (List Int) → List (List Rect) → Prop) : Nat → Int → Int → Int → Int → Int → List Int → List Int → List (List Bool) → List (List Bool) → List (List Int) → List (List Rect) → Prop
 | 0, _, _, _, _, _, _, _, _, _, _, _ => False
 | n + 1, t4, t12, t13, t21, t22, qbj, qbk, qbl, qbm, qbn, qbo => g_zh_s7 (w_zh_7 F x0 n) x0 t4 t12 t13 t21 t22 qbj qbk qbl qbm qbn qbo (n_zh_8 F (w_zh_7 F x0 n) x0)
def n_zh_7 (F : Nat) (rec : Int → Int → List Int → List Int → List (List Bool) → List (List Bool) → List (List Int) → List (List Rect) → Prop) (x0 : Int → Int → List Int → List Int → List (List Bool) → List (List Bool) → List (List Int) → List (List Rect) → Prop) (t4 t12 t13 t21 t22 : Int) (qbj qbk : List Int) (qbl qbm : List (List Bool)) (qbn : List (List Int)) (qbo : List (List Rect)) : Prop := w_zh_7 F (fun t4 t12 t13 t21 t22 qbj qbk qbl qbm qbn qbo => g_zh_c7_0 rec x0 t4 t12 t13 t21 t22 qbj qbk qbl qbm qbn qbo) F t4 t12 t13 t21 t22 qbj qbk qbl qbm qbn qbo
def w_zh_5 (F : Nat) (x0 : Int → Int → List Int → List Int → List (List Bool) → List (List Bool) → List (List Int) → List (List Rect) → Prop) : Nat → Int → Int → List Int → List Int → List (List Bool) → List (List Bool) → List (List Int) → List (List Rect) → Prop
 | 0, _, _, _, _, _, _, _, _ => False
 | n + 1, t12, t13, qbj, qbk, qbl, qbm, qbn, qbo => g_zh_s5 (w_zh_5 F x0 n) x0 t12 t13 qbj qbk qbl qbm qbn qbo (n_zh_7 F (w_zh_5 F x0 n) x0)
def n_zh_5 (F : Nat) (Q : List (List Rect) → Int → Prop) (t12 t13 : Int) (qbj qbk : List Int) (qbl qbm : List (List Bool)) (qbn : List (List Int)) (qbo : List (List Rect)) : Prop := w_zh_5 F (fun t12 t13 qbj qbk qbl qbm qbn qbo => g_zh_c5_0 Q t12 t13 qbj qbk qbl qbm qbn qbo) F t12 t13 qbj qbk qbl qbm qbn qbo
def w_zh_3 (F : Nat) (x0 : List Seg → Int → Int → List Int → List Int → List (List Bool) → List (List Bool) → List (List Int) → Prop) : Nat → List Seg → Int → Int → List Int → List Int → List (List Bool) → List (List Bool) → List (List Int) → Prop
 | 0, _, _, _, _, _, _, _, _ => False
 | n + 1, t118, t119, t120, qax, qay, qaz, qba, qbb => g_zh_s3 (w_zh_3 F x0 n) x0 t118 t119 t120 qax qay qaz qba qbb (n_zh_4 F (w_zh_3 F x0 n) x0)
def n_zh_3 (F : Nat) (Q : List (List Rect) → Int → Prop) (t118 : List Seg) (t119 t120 : Int) (qax qay : List Int) (qaz qba : List (List Bool)) (qbb : List (List Int)) : Prop := w_zh_3 F (fun t118 t119 t120 qax qay qaz qba qbb => g_zh_c3_0 Q t118 t119 t120 qax qay qaz qba qbb (n_zh_5 F Q)) F t118 t119 t120 qax qay qaz qba qbb
def w_zh_2 (F : Nat) (x0 : List Seg → Int → Int → List Int → List Int → List (List Bool) → List (List Bool) → List (List Int) → Prop) : Nat → List Seg → Int → Int → List Int → List Int → List (List Bool) → List (List Bool) → List (List Int) → Prop
 | 0, _, _, _, _, _, _, _, _ => False
 | n + 1, t1, t68, t69, qax, qay, qaz, qba, qbb => g_zh_s2 (w_zh_2 F x0 n) x0 t1 t68 t69 qax qay qaz qba qbb
def n_zh_2 (F : Nat) (Q : List (List Rect) → Int → Prop) (t1 : List Seg) (t68 t69 : Int) (qax qay : List Int) (qaz qba : List (List Bool)) (qbb : List (List Int)) : Prop := w_zh_2 F (fun t1 t68 t69 qax qay qaz qba qbb => g_zh_c2_0 Q t1 t68 t69 qax qay qaz qba qbb (n_zh_3 F Q)) F t1 t68 t69 qax qay qaz qba qbb
def w_zh_1 (F : Nat) (x0 : List Seg → List Seg → Int → Int → List Int → List Int → Prop) : Nat → List Seg → List Seg → Int → Int → List Int → List Int → Prop
 | 0, _, _, _, _, _, _ => False
 | n + 1, t1, t23, t24, t25, qax, qay => g_zh_s1 (w_zh_1 F x0 n) x0 t1 t23 t24 t25 qax qay
def n_zh_1 (F : Nat) (Q : List (List Rect) → Int → Prop) (t1 t23 : List Seg) (t24 t25 : Int) (qax qay : List Int) : Prop := w_zh_1 F (fun t1 t23 t24 t25 qax qay => g_zh_c1_0 Q t1 t23 t24 t25 qax qay (n_zh_2 F Q)) F t1 t23 t24 t25 qax qay
def w_zh_0 (F : Nat) (x0 : List Seg → Int → List Seg → Int → Int → ByteArray → ByteArray → Int → Int → Int → Int → List Rect → List Rect → Prop) (x1 : List Seg → Int → List Seg → Int → Int → ByteArray → ByteArray → Int → Int → Int → Int → List Rect → List Rect → Prop) : Nat → List Seg → Int → List Seg → Int → Int → ByteArray → ByteArray → Int → Int → Int → Int → List Rect → List Rect → Prop
 | 0, _, _, _, _, _, _, _, _, _, _, _, _, _ => False
 | n + 1, t1, t5, t19, t20, t21, c2_0, c2_1, c2_2, c2_3, c2_4, c2_5, c2_6, c2_7 => g_zh_s0 (w_zh_0 F x0 x1 n) x0 x1 t1 t5 t19 t20 t21 c2_0 c2_1 c2_2 c2_3 c2_4 c2_5 c2_6 c2_7
def n_zh_0 (F : Nat) (Q : List (List Rect) → Int → Prop) (t1 : List Seg) (t5 : Int) (t19 : List Seg) (t20 t21 : Int) (c2_0 c2_1 : ByteArray) (c2_2 c2_3 c2_4 c2_5 : Int) (c2_6 c2_7 : List Rect) : Prop := w_zh_0 F (fun t1 t5 t19 t20 t21 c2_0 c2_1 c2_2 c2_3 c2_4 c2_5 c2_6 c2_7 => g_zh_c0_0 Q t1 t5 t19 t20 t21 c2_0 c2_1 c2_2 c2_3 c2_4 c2_5 c2_6 c2_7) (fun t1 t5 t19 t20 t21 c2_0 c2_1 c2_2 c2_3 c2_4 c2_5 c2_6 c2_7 => g_zh_c0_1 Q t1 t5 t19 t20 t21 c2_0 c2_1 c2_2 c2_3 c2_4 c2_5 c2_6 c2_7 (n_zh_1 F Q)) F t1 t5 t19 t20 t21 c2_0 c2_1 c2_2 c2_3 c2_4 c2_5 c2_6 c2_7
def w_zh (F : Nat) (qe qf : ByteArray) (qg qh qa qb : Int) (qc qd : List Rect) (a1 : List Seg) (Q : List (List Rect) → Int → Prop) : Prop := g_zh_e qe qf qg qh qa qb qc qd a1 Q (n_zh_0 F Q)
end
end Go.Proofs.YteffpgliiilnjaaGreatDoor
namespace Go.Proofs.YteffpgliiilnjaaGreatDoor
open Go.Vm Go.RowKit
set_option linter.unusedVariables false
set_option maxRecDepth 20000
noncomputable section
def linB (nm mt : ByteArray) (g gr w h : Int) (cl us : List Rect) (s : Seg) : Bool := sp_zd nm mt g gr w h cl us s.X1 s.Y1 s.X2 s.Y2
def pre_zh (nm mt : ByteArray) (g gr w h : Int) (cl us : List Rect) (ls : List Seg) : Prop := True
def sp_zh (nm mt : ByteArray) (g gr w h : Int) (cl us : List Rect) (ls : List Seg) : List (List Rect) × Int :=
 cond (sp_zc nm mt g gr w h cl us != 0) ([], sp_zc nm mt g gr w h cl us) (cond (decide (200 < (ls.length : Int))) ([], 4) (cond (!(ls.all (linB nm mt g gr w h cl us))) ([], 1)
  (cond (decide (6000 < (((gxs w ls).length : Int) - 1) * (((gys h ls).length : Int) - 1))) ([], 4) (partsG w h ls, 0))))
theorem linB_iff {nm mt : ByteArray} {g gr w h : Int} {cl us : List Rect} {s : Seg} : linB nm mt g gr w h cl us s = true ↔ segOK w h s := by
 have e : ∀ a b, sp_zm nm mt g gr w h cl us a b = true ↔ (0 ≤ a ∧ a ≤ w ∧ 0 ≤ b ∧ b ≤ h) := fun a b => by
  unfold sp_zm
  simp only [Bool.and_eq_true, decide_eq_true_eq, and_assoc]
 have e1 := e s.X1 s.Y1
 have e2 := e s.X2 s.Y2
 unfold linB sp_zd segOK
 cases q1 : sp_zm nm mt g gr w h cl us s.X1 s.Y1 with
 | false =>
  rw [q1] at e1
  simp only [Bool.not_false, Bool.true_or, cond_true]
  refine ⟨(fun z => by cases z), fun z => ?_⟩
  exact e1.2 (by omega)
 | true =>
  rw [q1] at e1
  cases q2 : sp_zm nm mt g gr w h cl us s.X2 s.Y2 with
  | false =>
   rw [q2] at e2
   simp only [Bool.not_false, Bool.or_true, cond_true]
   refine ⟨(fun z => by cases z), fun z => ?_⟩
   exact e2.2 (by omega)
  | true =>
   rw [q2] at e2
   have a1 := e1.1 rfl
   have a2 := e2.1 rfl
   simp only [Bool.not_true, Bool.or_self, cond_false, Bool.or_eq_true, Bool.and_eq_true, beq_iff_eq, decide_eq_true_eq]
   omega
theorem sheet_size {nm mt : ByteArray} {g gr w h : Int} {cl us : List Rect} (h1 : (sp_zc nm mt g gr w h cl us != 0) = false) : 1 ≤ w ∧ w ≤ 1048576 ∧ 1 ≤ h ∧ h ≤ 1048576 := by
 unfold sp_zc at h1
 revert h1
 cases ((!(vn nm)) || (!(vn mt)))
 ·simp only [cond_false]
  cases q : (((!(sp_zal g gr)) || (!(sp_zan w 1 1048576))) || (!(sp_zan h 1 1048576)))
  ·intro _
   simp only [Bool.or_eq_false_iff, Bool.not_eq_false'] at q
   obtain ⟨⟨_, q1⟩, q2⟩ := q
   unfold sp_zan at q1 q2
   simp only [Bool.and_eq_true, decide_eq_true_eq] at q1 q2
   omega
  ·simp
 ·simp
abbrev LI := List Int
abbrev LB := List (List Bool)
abbrev XS := LI → LI → LB → LB → List (List Int) → Prop
abbrev X4 := Int → Int → List Seg → Int → Int → Int → Int → Int → Int → XS
abbrev X3 := List Seg → Int → Int → XS
abbrev X5 := Int → Int → LI → LI → LB → LB → List (List Int) → List (List Rect) → Prop
abbrev X7 := Int → Int → Int → X5
abbrev X8 := Int → Int → Int → Int → Int → Int → Int → LI → LI → LB → LB → List (List Int) → List Par → List (List Rect) → Prop
theorem lp1 (F : Nat) (x0 : List Seg → List Seg → Int → Int → LI → LI → Prop) (ls : List Seg) (hl : ls.length ≤ 200) : ∀ (n i : Nat) (xs ys : LI), i ≤ ls.length → ls.length < n + i → xs.length = 2 + 2 * i → ys.length = 2 + 2 * i →
  x0 ls ls ls.length ls.length (xs ++ (ls.drop i).flatMap fun s => [s.X1, s.X2]) (ys ++ (ls.drop i).flatMap fun s => [s.Y1, s.Y2]) → w_zh_1 F x0 n ls ls ls.length i xs ys := by
 intro n
 induction n with
 | zero => intro i xs ys h1 h2; omega
 | succ n ih =>
  intro i xs ys h1 h2 h3 h4 hx
  show g_zh_s1 _ _ _ _ _ _ _ _
  unfold g_zh_s1
  by_cases h : i < ls.length
  ·rw [dec_t (show (i : Int) < ls.length by omega), cond_true]
   simp only [Int.toNat_natCast]
   refine ⟨⟨by omega, by omega⟩, by simp only [List.length_cons, List.length_nil]; omega, by simp only [List.length_cons, List.length_nil]; omega, ?_⟩
   rw [w64_succ h (by omega)]
   refine ih (i + 1) _ _ (by omega) (by omega) (by simp; omega) (by simp; omega) ?_
   rw [drop_getD ls i h, List.flatMap_cons, List.flatMap_cons, ← List.append_assoc, ← List.append_assoc] at hx
   exact hx
  ·have e : i = ls.length := by omega
   subst e
   rw [dec_f (by omega), cond_false]
   rw [List.drop_length] at hx
   simpa using hx
theorem lp2 (F : Nat) (x0 : X3) (ls : List Seg) (xs ys : LI) (h1 : xs.length ≤ 1000) (h2 : ys.length ≤ 1000) (hx : x0 ls xs.length xs.length xs ys (List.replicate xs.length (List.replicate ys.length false)) (List.replicate xs.length (List.replicate ys.length false)) (List.replicate xs.length (List.replicate ys.length (-1)))) :
  ∀ (n i : Nat), i ≤ xs.length → xs.length < n + i → w_zh_2 F x0 n ls xs.length i xs ys (List.replicate i (List.replicate ys.length false)) (List.replicate i (List.replicate ys.length false)) (List.replicate i (List.replicate ys.length (-1))) := by
 intro n
 induction n with
 | zero => intro i h3 h4; omega
 | succ n ih =>
  intro i h3 h4
  show g_zh_s2 _ _ _ _ _ _ _ _ _ _
  unfold g_zh_s2
  by_cases h : i < xs.length
  ·rw [dec_t (show (i : Int) < xs.length by omega), cond_true]
   simp only [Int.toNat_natCast, List.length_replicate]
   refine ⟨⟨by omega, by trivial, by omega⟩, by omega, ⟨by omega, by trivial, by omega⟩, by omega, ⟨rfl, by omega, by omega⟩, by omega, ?_⟩
   rw [w64_succ h (by omega)]
   have e : sp_zar [-1] (ys.length : Int) = List.replicate ys.length (-1) := by
    unfold sp_zar
    rw [Int.toNat_natCast]
    rfl
   rw [e, ← List.replicate_succ', ← List.replicate_succ']
   exact ih (i + 1) (by omega) (by omega)
  ·have e : i = xs.length := by omega
   subst e
   rw [dec_f (by omega), cond_false]
   exact hx
theorem lp4 (F : Nat) (x0 : X4) (ls : List Seg) (t119 t120 c0 c1 c2 c3 : Int) (xs ys : LI) (lf : LB) (part : List (List Int)) (k : Nat) (hk : k < ys.length) (hx1 : xs.length ≤ 1000) (hs : asc xs) (hm : c2 ∈ xs) :
  ∀ (n a : Nat) (bl : LB) (f : Nat → Nat → Bool), Tab xs.length ys.length bl f → xs.length < n + a →
  (∀ b bl', (b = max a (below_ xs c2)) → Tab xs.length ys.length bl' (fun i j => f i j || decide (a ≤ i ∧ i < below_ xs c2 ∧ j = k)) → x0 b k ls t119 t120 c0 c1 c2 c3 xs ys lf bl' part) →
  a < xs.length → w_zh_4 F x0 n a k ls t119 t120 c0 c1 c2 c3 xs ys lf bl part := by
 obtain ⟨hb, hbv⟩ := below_mem hs hm
 intro n
 induction n with
 | zero => intro a bl f h1 h2 h3 h4; omega
 | succ n ih =>
  intro a bl f hT h2 hx ha
  show g_zh_s4 _ _ _ _ _ _ _ _ _ _ _ _ _ _ _ _
  unfold g_zh_s4
  simp only [Int.toNat_natCast]
  refine ⟨⟨by omega, by omega⟩, ?_⟩
  have hlt := below_lt xs c2 hs.le a ha
  by_cases h : a < below_ xs c2
  ·rw [dec_t (hlt.2 h), cond_true]
   have hr := hT.2.1 a ha
   have hl := hT.1
   refine ⟨⟨⟨by omega, by omega⟩, by omega, by omega⟩, ?_⟩
   rw [w64_succ ha (by omega)]
   refine ih (a + 1) _ _ (hT.set ha hk) (by omega) (fun b bl' hb' hT' => hx b bl' (by omega) (hT'.congr fun i j hi hj => ?_)) (by omega)
   rw [Bool.or_assoc]
   congr 1
   rw [Bool.eq_iff_iff]
   simp only [Bool.or_eq_true, decide_eq_true_eq]
   omega
  ·rw [dec_f (fun q => h (hlt.1 q)), cond_false]
   refine hx a bl (by omega) (hT.congr fun i j hi hj => ?_)
   rw [decide_eq_false (by omega), Bool.or_false]
theorem lp6 (F : Nat) (x0 : X4) (ls : List Seg) (t119 t120 c0 c1 c2 c3 : Int) (xs ys : LI) (bl : LB) (part : List (List Int)) (b : Nat) (hb : b < xs.length) (hx1 : ys.length ≤ 1000) (hs : asc ys) (hm : c3 ∈ ys) :
  ∀ (n a : Nat) (lf : LB) (f : Nat → Nat → Bool), Tab xs.length ys.length lf f → ys.length < n + a →
  (∀ t lf', Tab xs.length ys.length lf' (fun i j => f i j || decide (i = b ∧ a ≤ j ∧ j < below_ ys c3)) → x0 b t ls t119 t120 c0 c1 c2 c3 xs ys lf' bl part) →
  a < ys.length → w_zh_6 F x0 n b a ls t119 t120 c0 c1 c2 c3 xs ys lf bl part := by
 obtain ⟨hbb, hbv⟩ := below_mem hs hm
 intro n
 induction n with
 | zero => intro a lf f h1 h2 h3 h4; omega
 | succ n ih =>
  intro a lf f hT h2 hx ha
  show g_zh_s6 _ _ _ _ _ _ _ _ _ _ _ _ _ _ _ _
  unfold g_zh_s6
  simp only [Int.toNat_natCast]
  refine ⟨⟨by omega, by omega⟩, ?_⟩
  have hlt := below_lt ys c3 hs.le a ha
  by_cases h : a < below_ ys c3
  ·rw [dec_t (hlt.2 h), cond_true]
   have hr := hT.2.1 b hb
   have hl := hT.1
   refine ⟨⟨⟨by omega, by omega⟩, by omega, by omega⟩, ?_⟩
   rw [w64_succ ha (by omega)]
   refine ih (a + 1) _ _ (hT.set hb ha) (by omega) (fun t lf' hT' => hx t lf' (hT'.congr fun i j hi hj => ?_)) (by omega)
   rw [Bool.or_assoc]
   congr 1
   rw [Bool.eq_iff_iff]
   simp only [Bool.or_eq_true, decide_eq_true_eq]
   omega
  ·rw [dec_f (fun q => h (hlt.1 q)), cond_false]
   refine hx a lf (hT.congr fun i j hi hj => ?_)
   rw [decide_eq_false (by omega), Bool.or_false]
theorem lfG_snoc (xs ys : LI) (ls : List Seg) (s : Seg) (i k : Nat) : lfG xs ys (ls ++ [s]) i k = (lfG xs ys ls i k || decide (i = below_ xs s.X1 ∧ below_ ys s.Y1 ≤ k ∧ k < below_ ys s.Y2)) := by
 unfold lfG
 simp
theorem blG_snoc (xs ys : LI) (ls : List Seg) (s : Seg) (i k : Nat) : blG xs ys (ls ++ [s]) i k = (blG xs ys ls i k || decide (below_ xs s.X1 ≤ i ∧ i < below_ xs s.X2 ∧ k = below_ ys s.Y1)) := by
 unfold blG
 simp
theorem take_snoc {α : Type} [Inhabited α] (l : List α) (i : Nat) (h : i < l.length) : l.take (i + 1) = l.take i ++ [l.getD i default] := by
 rw [List.take_add_one, List.getD_eq_getElem?_getD, List.getElem?_eq_getElem h]
 rfl
theorem lp3 (F : Nat) (x0 : X3) (ls : List Seg) (hl : ls.length ≤ 200) (w h : Int) (xs ys : LI) (hx1 : xs.length ≤ 1000) (hy1 : ys.length ≤ 1000) (hsx : asc xs) (hsy : asc ys) (hF : 2000 < F) (part : List (List Int))
  (hls : ∀ s ∈ ls, segOK w h s ∧ s.X1 ∈ xs ∧ s.X2 ∈ xs ∧ s.Y1 ∈ ys ∧ s.Y2 ∈ ys)
  (hx : ∀ lf bl, Tab xs.length ys.length lf (lfG xs ys ls) → Tab xs.length ys.length bl (blG xs ys ls) → x0 ls ls.length ls.length xs ys lf bl part) :
  ∀ (n i : Nat) (lf bl : LB), i ≤ ls.length → ls.length < n + i → Tab xs.length ys.length lf (lfG xs ys (ls.take i)) → Tab xs.length ys.length bl (blG xs ys (ls.take i)) → w_zh_3 F x0 n ls ls.length i xs ys lf bl part := by
 intro n
 induction n with
 | zero => intro i lf bl h1 h2; omega
 | succ n ih =>
  intro i lf bl h1 h2 hT hU
  show g_zh_s3 _ _ _ _ _ _ _ _ _ _ _
  unfold g_zh_s3
  by_cases hi : i < ls.length
  ·rw [dec_t (show (i : Int) < ls.length by omega), cond_true]
   simp only [Int.toNat_natCast]
   have hms : ls.getD i default ∈ ls := by
    rw [List.getD_eq_getElem?_getD, List.getElem?_eq_getElem hi, Option.getD_some]
    exact List.getElem_mem _
   have hT2 := take_snoc ls i hi
   generalize ls.getD i default = s at hms hT2
   obtain ⟨⟨ho1, ho2⟩, m1, m2, m3, m4⟩ := hls s hms
   refine ⟨⟨by omega, by omega⟩, ⟨hsx.le, by omega⟩, ⟨hsy.le, by omega⟩, ?_⟩
   show w_zh_4 F (fun t13 t15 t118 t119 t120 qas qat qau qav qax qay qaz qba qbb => g_zh_c4_0 (w_zh_3 F x0 n) x0 t13 t15 t118 t119 t120 qas qat qau qav qax qay qaz qba qbb (n_zh_6 F (w_zh_3 F x0 n) x0)) F (below_ xs s.X1 : Nat) (below_ ys s.Y1 : Nat) ls ls.length i s.X1 s.Y1 s.X2 s.Y2 xs ys lf bl part
   obtain ⟨b1, v1⟩ := below_mem hsx m1
   obtain ⟨b2, v2⟩ := below_mem hsx m2
   obtain ⟨b3, v3⟩ := below_mem hsy m3
   obtain ⟨b4, v4⟩ := below_mem hsy m4
   have mono : ∀ {l : LI}, asc l → ∀ {x y : Int}, x ∈ l → y ∈ l → x ≤ y → below_ l x ≤ below_ l y := fun {l} hl {x y} hx hy hxy => by
    obtain ⟨c1, u1⟩ := below_mem hl hx
    obtain ⟨c2, u2⟩ := below_mem hl hy
    by_cases q : below_ l x ≤ below_ l y
    ·exact q
    ·have := hl.get (show below_ l y < below_ l x by omega) c1
     omega
   have g1 := mono hsx m1 m2 (by omega)
   refine lp4 F _ ls _ _ _ _ _ _ xs ys lf part (below_ ys s.Y1) b3 hx1 hsx m2 F (below_ xs s.X1) bl _ hU (by omega) (fun b bl' hb hU' => ?_) b1
   have hb2 : b = below_ xs s.X2 := by omega
   subst hb2
   show w_zh_6 F (fun t13 t15 t118 t119 t120 qas qat qau qav qax qay qaz qba qbb => g_zh_c6_0 (w_zh_3 F x0 n) x0 t13 t15 t118 t119 t120 qas qat qau qav qax qay qaz qba qbb) F (below_ xs s.X2 : Nat) (below_ ys s.Y1 : Nat) ls ls.length i s.X1 s.Y1 s.X2 s.Y2 xs ys lf bl' part
   refine lp6 F _ ls _ _ _ _ _ _ xs ys bl' part (below_ xs s.X2) b2 hy1 hsy m4 F (below_ ys s.Y1) lf _ hT (by omega) (fun t lf' hT' => ?_) b3
   show w_zh_3 F x0 n ls ls.length (w64 ((i : Int) + 1)) xs ys lf' bl' part
   rw [w64_succ hi (by omega)]
   refine ih (i + 1) lf' bl' (by omega) (by omega) (hT'.congr fun a c ha hc => ?_) (hU'.congr fun a c ha hc => ?_)
   ·rw [hT2, lfG_snoc]
    congr 1
    rw [decide_eq_decide]
    rcases ho2 with ⟨q1, q2⟩ | ⟨q1, q2⟩
    ·rw [q1]
     omega
    ·rw [q1]
   ·rw [hT2, blG_snoc]
  ·have e : i = ls.length := by omega
   subst e
   rw [dec_f (by omega), cond_false]
   rw [List.take_length] at hT hU
   exact hx lf bl hT hU
theorem s8_eq (rec x0 : X8) (t4 t5 t12 t13 t21 t22 n : Int) (xs ys : LI) (lf bl : LB) (part : List (List Int)) (todo : List Par) (out : List (List Rect)) :
  g_zh_s8 rec x0 t4 t5 t12 t13 t21 t22 n xs ys lf bl part todo out =
  cond (decide (0 < (todo.length : Int))) (((0 ≤ (w64 ((todo.length : Int) - 1)) ∧ (w64 ((todo.length : Int) - 1)) < todo.length) ∧ ((0 ≤ (0 : Int) ∧ (0 : Int) < 2) ∧ (let v0 := (todo.getD ((w64 ((todo.length : Int) - 1)).toNat) default).e0;
   ((0 ≤ (w64 ((todo.length : Int) - 1)) ∧ (w64 ((todo.length : Int) - 1)) < todo.length) ∧ ((0 ≤ (1 : Int) ∧ (1 : Int) < 2) ∧ (let v1 := (todo.getD ((w64 ((todo.length : Int) - 1)).toNat) default).e1;
   ((0 ≤ (w64 ((todo.length : Int) - 1)) ∧ (w64 ((todo.length : Int) - 1)) ≤ todo.length) ∧
   meetG ((decide (0 < v0)) = true → ((0 ≤ v0 ∧ v0 < lf.length) ∧ 0 ≤ v1 ∧ v1 < (lf.getD v0.toNat default).length)) ((decide (0 < v0)) && (!((lf.getD v0.toNat default).getD v1.toNat default))) (ma (w64 (v0 - 1)) 0) v1 n part (todo.take ((w64 ((todo.length : Int) - 1)).toNat)) fun part todo =>
   meetG ((decide ((w64 (v0 + 2)) < (xs.length : Int))) = true → ((0 ≤ (w64 (v0 + 1)) ∧ (w64 (v0 + 1)) < lf.length) ∧ 0 ≤ v1 ∧ v1 < (lf.getD ((w64 (v0 + 1)).toNat) default).length)) ((decide ((w64 (v0 + 2)) < (xs.length : Int))) && (!((lf.getD ((w64 (v0 + 1)).toNat) default).getD v1.toNat default))) (w64 (v0 + 1)) v1 n part todo fun part todo =>
   meetG ((decide (0 < v1)) = true → ((0 ≤ v0 ∧ v0 < bl.length) ∧ 0 ≤ v1 ∧ v1 < (bl.getD v0.toNat default).length)) ((decide (0 < v1)) && (!((bl.getD v0.toNat default).getD v1.toNat default))) v0 (ma (w64 (v1 - 1)) 0) n part todo fun part todo =>
   meetG ((decide ((w64 (v1 + 2)) < (ys.length : Int))) = true → ((0 ≤ v0 ∧ v0 < bl.length) ∧ 0 ≤ (w64 (v1 + 1)) ∧ (w64 (v1 + 1)) < (bl.getD v0.toNat default).length)) ((decide ((w64 (v1 + 2)) < (ys.length : Int))) && (!((bl.getD v0.toNat default).getD ((w64 (v1 + 1)).toNat) default))) v0 (w64 (v1 + 1)) n part todo fun part todo =>
   rec t4 t5 t12 t13 t21 t22 n xs ys lf bl part todo out)))))))) (x0 t4 t5 t12 t13 t21 t22 n xs ys lf bl part todo out) := rfl
theorem lp8 (F : Nat) (x0 : X8) (t4 t5 t12 t13 t21 t22 : Int) (xs ys : LI) (lf bl : LB) (f g : Nat → Nat → Bool) (w h n : Nat) (hw : xs.length = w + 1) (hh : ys.length = h + 1) (hw1 : w ≤ 1000) (hh1 : h ≤ 1000)
  (hT : Tab xs.length ys.length lf f) (hU : Tab xs.length ys.length bl g) (out : List (List Rect)) (L0 : Pl → Option Nat) (c0 : Pl) (h0 : L0 c0 = none) (hf : ∀ d, L0 d ≠ some n)
  (hx : ∀ part', Arr cdP w h part' (fillA (nbs w h f g) L0 c0 n) → x0 t4 t5 t12 t13 t21 t22 n xs ys lf bl part' [] out) :
  ∀ (m : Nat) (L : Pl → Option Nat) (S : List Pl) (part : List (List Int)) (todo : List Par), Arr cdP w h part L → todo = S.map encP → WInv (nbs w h f g) (cellsOf w h) L0 c0 n (fun _ => False) L S → free (cellsOf w h) L + S.length ≤ 1000000 → free (cellsOf w h) L + S.length < m →
   w_zh_8 F x0 m t4 t5 t12 t13 t21 t22 n xs ys lf bl part todo out := by
 intro m
 induction m with
 | zero => intro L S part todo A hTd W hr hm; omega
 | succ m ih =>
  intro L S part todo A hTd W hr hm
  show g_zh_s8 _ _ _ _ _ _ _ _ _ _ _ _ _ _ _ _
  rw [s8_eq]
  rcases List.eq_nil_or_concat S with rfl | ⟨S', c, rfl⟩
  ·subst hTd
   rw [dec_f (by simp), cond_false]
   refine hx part ?_
   rw [← W.done h0]
   exact A
  ·rw [List.concat_eq_append] at hTd W hr hm
   obtain ⟨hcn, hcc⟩ := W.mem c (by simp)
   obtain ⟨i, k⟩ := c
   obtain ⟨hci, hck⟩ := mem_cellsOf.1 hcc
   replace hci : i < w := hci
   replace hck : k < h := hck
   rw [List.length_append, List.length_singleton] at hr hm
   have hlen : todo.length = S'.length + 1 := by rw [hTd]; simp
   have e1 : w64 ((todo.length : Int) - 1) = (S'.length : Nat) := by
    rw [hlen, w64_of (by omega) (by omega)]
    omega
   have e2 : todo.getD S'.length default = encP (i, k) := by
    rw [hTd, List.map_append, List.getD_eq_getElem?_getD, List.getElem?_append_right (by simp)]
    simp
   have e3 : todo.take S'.length = S'.map encP := by
    rw [hTd, List.map_append]
    exact List.take_left' (by simp)
   rw [dec_t (show (0 : Int) < (todo.length : Int) by omega), cond_true, e1]
   have e4 : (encP (i, k)).e0 = (i : Int) := rfl
   have e5 : (encP (i, k)).e1 = (k : Int) := rfl
   have e6 : w64 ((i : Int) + 1) = ((i + 1 : Nat) : Int) := by rw [w64_of (by omega) (by omega)]; omega
   have e7 : w64 ((k : Int) + 1) = ((k + 1 : Nat) : Int) := by rw [w64_of (by omega) (by omega)]; omega
   have e8 : w64 ((i : Int) + 2) = (i : Int) + 2 := w64_of (by omega) (by omega)
   have e9 : w64 ((k : Int) + 2) = (k : Int) + 2 := w64_of (by omega) (by omega)
   have e10 : ma (w64 ((i : Int) - 1)) 0 = ((i - 1 : Nat) : Int) := by
    rw [w64_of (by omega) (by omega)]
    unfold ma
    omega
   have e11 : ma (w64 ((k : Int) - 1)) 0 = ((k - 1 : Nat) : Int) := by
    rw [w64_of (by omega) (by omega)]
    unfold ma
    omega
   obtain ⟨T1, T2, T3⟩ := hT
   obtain ⟨U1, U2, U3⟩ := hU
   simp only [Int.toNat_natCast, e2, e3, e4, e5, e6, e7, e8, e9, e10, e11]
   refine ⟨by first | omega | trivial, by first | omega | trivial, by first | omega | trivial, by first | omega | trivial, by first | omega | trivial, ?_⟩
   have hnb : nbs w h f g (i, k) = (if 0 < i ∧ f i k = false then [(i - 1, k)] else []) ++ (if i + 1 < w ∧ f (i + 1) k = false then [(i + 1, k)] else []) ++ (if 0 < k ∧ g i k = false then [(i, k - 1)] else []) ++ (if k + 1 < h ∧ g i (k + 1) = false then [(i, k + 1)] else []) := by
    unfold nbs
    rw [if_pos ⟨hci, hck⟩]
   refine meetG_of (w := w) (h := h) (L := L) (S := S') (n := n) (l := if 0 < i ∧ f i k = false then [(i - 1, k)] else []) A rfl (by omega) (fun q => ?_) ?_ fun part1 todo1 s1 hs1 A1 hT1 hr1 => ?_
   ·have := T2 i (by omega)
    omega
   ·by_cases p : 0 < i ∧ f i k = false
    ·refine .inr ⟨?_, i - 1, k, rfl, rfl, by omega, hck, if_pos p⟩
     rw [dec_t (by omega), T3 i k (by omega) (by omega), p.2]
     rfl
    ·refine .inl ⟨?_, if_neg p⟩
     rw [T3 i k (by omega) (by omega)]
     by_cases q : 0 < i
     ·have : f i k = true := by
       cases z : f i k with
       | true => rfl
       | false => exact absurd ⟨q, z⟩ p
      rw [this]
      simp
     ·rw [dec_f (by omega)]
      rfl
   refine meetG_of (w := w) (h := h) (L := s1.1) (S := s1.2) (n := n) (l := if i + 1 < w ∧ f (i + 1) k = false then [(i + 1, k)] else []) A1 hT1 hr1 (fun q => ?_) ?_ fun part2 todo2 s2 hs2 A2 hT2 hr2 => ?_
   ·have := T2 (i + 1) (by omega)
    omega
   ·by_cases p : i + 1 < w ∧ f (i + 1) k = false
    ·refine .inr ⟨?_, i + 1, k, rfl, rfl, by omega, hck, if_pos p⟩
     rw [dec_t (by omega), T3 (i + 1) k (by omega) (by omega), p.2]
     rfl
    ·refine .inl ⟨?_, if_neg p⟩
     rw [T3 (i + 1) k (by omega) (by omega)]
     by_cases q : i + 1 < w
     ·have : f (i + 1) k = true := by
       cases z : f (i + 1) k with
       | true => rfl
       | false => exact absurd ⟨q, z⟩ p
      rw [this]
      simp
     ·rw [dec_f (by omega)]
      rfl
   refine meetG_of (w := w) (h := h) (L := s2.1) (S := s2.2) (n := n) (l := if 0 < k ∧ g i k = false then [(i, k - 1)] else []) A2 hT2 hr2 (fun q => ?_) ?_ fun part3 todo3 s3 hs3 A3 hT3 hr3 => ?_
   ·have := U2 i (by omega)
    omega
   ·by_cases p : 0 < k ∧ g i k = false
    ·refine .inr ⟨?_, i, k - 1, rfl, rfl, hci, by omega, if_pos p⟩
     rw [dec_t (by omega), U3 i k (by omega) (by omega), p.2]
     rfl
    ·refine .inl ⟨?_, if_neg p⟩
     rw [U3 i k (by omega) (by omega)]
     by_cases q : 0 < k
     ·have : g i k = true := by
       cases z : g i k with
       | true => rfl
       | false => exact absurd ⟨q, z⟩ p
      rw [this]
      simp
     ·rw [dec_f (by omega)]
      rfl
   refine meetG_of (w := w) (h := h) (L := s3.1) (S := s3.2) (n := n) (l := if k + 1 < h ∧ g i (k + 1) = false then [(i, k + 1)] else []) A3 hT3 hr3 (fun q => ?_) ?_ fun part4 todo4 s4 hs4 A4 hT4 hr4 => ?_
   ·have := U2 i (by omega)
    have := of_decide_eq_true q
    omega
   ·by_cases p : k + 1 < h ∧ g i (k + 1) = false
    ·refine .inr ⟨?_, i, k + 1, rfl, rfl, hci, by omega, if_pos p⟩
     rw [dec_t (by omega), U3 i (k + 1) (by omega) (by omega), p.2]
     rfl
    ·refine .inl ⟨?_, if_neg p⟩
     rw [U3 i (k + 1) (by omega) (by omega)]
     by_cases q : k + 1 < h
     ·have : g i (k + 1) = true := by
       cases z : g i (k + 1) with
       | true => rfl
       | false => exact absurd ⟨q, z⟩ p
      rw [this]
      simp
     ·rw [dec_f (by omega)]
      rfl
   have hv : visit n (nbs w h f g (i, k)) (L, S') = s4 := by
    rw [hnb]
    unfold visit at hs1 hs2 hs3 hs4 ⊢
    rw [List.foldl_append, List.foldl_append, List.foldl_append, hs4, hs3, hs2, hs1]
   have hfree := visit_free (n := n) (cells := cellsOf w h) (nbs w h f g (i, k)) (L, S') (fun e he => nbs_cells he)
   rw [hv] at hfree
   simp only at hfree
   have hW := W.next (c := (i, k)) (rest := S') (l := nbs w h f g (i, k)) (by simp) (fun d hd => by
    rcases List.mem_append.1 hd with q | q
    ·exact .inr q
    ·exact .inl (List.mem_singleton.1 q)) (fun d hd => List.mem_append_left _ hd) hf (fun e he => ⟨he, nbs_cells he⟩) (fun e he => he)
   rw [hv] at hW
   exact ih s4.1 s4.2 part4 todo4 A4 hT4 hW hr4 (by omega)
def preC (w k i : Nat) : List Pl := cellsOf w k ++ (List.range i).map fun i => (i, k)
theorem preC_succ (w k i : Nat) : preC w k (i + 1) = preC w k i ++ [(i, k)] := by
 unfold preC
 rw [List.range_succ, List.map_append, List.append_assoc]
 rfl
theorem preC_row (w k : Nat) : preC w k w = preC w (k + 1) 0 := by
 unfold preC cellsOf
 rw [List.range_succ, List.flatMap_append]
 simp
theorem preC_len (w k i : Nat) : (preC w k i).length = k * w + i := by
 unfold preC
 rw [List.length_append, cellsOf_len]
 simp
theorem free_le (cells : List Pl) (L : Pl → Option Nat) : free cells L ≤ cells.length := List.length_filter_le _ _
theorem lp7 (F : Nat) (x0 : X7) (xs ys : LI) (lf bl : LB) (f g : Nat → Nat → Bool) (w h : Nat) (hw : xs.length = w + 1) (hh : ys.length = h + 1) (hw1 : w ≤ 1000) (hh1 : h ≤ 1000) (hF : 1000000 < F + 1) (hwh : h * w ≤ 10000)
  (hbx : ∀ j, j < xs.length → 0 ≤ xs.getD j default ∧ xs.getD j default ≤ 1048576) (hby : ∀ j, j < ys.length → 0 ≤ ys.getD j default ∧ ys.getD j default ≤ 1048576)
  (hT : Tab xs.length ys.length lf f) (hU : Tab xs.length ys.length bl g) (k : Nat) (hk : k < h)
  (hx : ∀ part' out' L', sepRun (nbs w h f g) (rectG xs ys) (preC w k w) (fun _ => none, []) = (L', out') → Arr cdP w h part' L' → x0 k h k w w xs ys lf bl part' out') :
  ∀ (n i : Nat) (part : List (List Int)) (out : List (List Rect)) (L : Pl → Option Nat), i ≤ w → w < n + i → sepRun (nbs w h f g) (rectG xs ys) (preC w k i) (fun _ => none, []) = (L, out) → Arr cdP w h part L →
   w_zh_7 F x0 n k h k w i xs ys lf bl part out := by
 intro n
 induction n with
 | zero => intro i part out L h1 h2; omega
 | succ n ih =>
  intro i part out L h1 h2 hrun A
  show g_zh_s7 _ _ _ _ _ _ _ _ _ _ _ _ _ _
  unfold g_zh_s7
  by_cases hi : i < w
  ·rw [dec_t (show (i : Int) < (w : Int) by omega), cond_true]
   have hinv := SInv.run (nbs_sym (w := w) (h := h) (lf := f) (bl := g)) (rect := rectG xs ys) (preC w k i) [] (fun _ => none, []) (SInv.nil _ _)
   rw [hrun, List.nil_append] at hinv
   simp only at hinv
   have hpl : (preC w k i).length ≤ 10000 := by
    rw [preC_len]
    have : (k + 1) * w ≤ h * w := Nat.mul_le_mul_right w hk
    rw [Nat.succ_mul] at this
    omega
   have hol : out.length ≤ 10000 := by
    have := sepRun_len (nbs w h f g) (rectG xs ys) (preC w k i) (fun _ => none, [])
    rw [hrun] at this
    simp at this
    omega
   have hml : ∀ j, (out.getD j default).length ≤ 10000 := fun j => by
    refine Nat.le_trans (flatten_mem_len out j) ?_
    rw [hinv.perm.length_eq, List.length_map]
    exact hpl
   have hnext : sepRun (nbs w h f g) (rectG xs ys) (preC w k (i + 1)) (fun _ => none, []) = sepStep (nbs w h f g) (rectG xs ys) (L, out) (i, k) := by
    rw [preC_succ, sepRun_append, hrun]
    rfl
   obtain ⟨A1, A2, A3⟩ := id A
   have a2 := A2 i hi
   have a3 := A3 i k hi hk
   have e1 : w64 ((i : Int) + 1) = ((i + 1 : Nat) : Int) := by rw [w64_of (by omega) (by omega)]; omega
   have e2 : w64 ((k : Int) + 1) = ((k + 1 : Nat) : Int) := by rw [w64_of (by omega) (by omega)]; omega
   have er : Rect.mk (xs.getD i default) (ys.getD k default) (w64 (xs.getD (i + 1) default - xs.getD i default)) (w64 (ys.getD (k + 1) default - ys.getD k default)) = rectG xs ys (i, k) := by
    have b1 := hbx i (by omega)
    have b2 := hbx (i + 1) (by omega)
    have b3 := hby k (by omega)
    have b4 := hby (k + 1) (by omega)
    rw [w64_of (by omega) (by omega), w64_of (by omega) (by omega)]
    rfl
   simp only [Int.toNat_natCast, e1, e2, er, a3]
   refine ⟨⟨⟨by omega, by omega⟩, by omega, by omega⟩, ?_⟩
   cases hL : L (i, k) with
   | none =>
    rw [hL] at a3
    rw [dec_t ((cdP_neg none).2 rfl), cond_true]
    refine ⟨⟨by omega, by omega⟩, ⟨by omega, by omega⟩, ?_⟩
    show w_zh_8 F (fun qbp qbq qbr qbs qbt qbu qaw qbc qbd qbe qbf qbg qbh qbi => g_zh_c8_0 (w_zh_7 F x0 n) x0 qbp qbq qbr qbs qbt qbu qaw qbc qbd qbe qbf qbg qbh qbi) F k i h k w i (out.length : Nat) xs ys lf bl (part.set i ((part.getD i default).set k (out.length : Nat))) [Par.mk i k] out
    have hf : ∀ d, L d ≠ some out.length := fun d q => by
     have := hinv.bound d _ q
     omega
    have hcm : (i, k) ∈ cellsOf w h := mem_cellsOf.2 ⟨hi, hk⟩
    have hfl := free_le (cellsOf w h) (upd L (i, k) out.length)
    rw [cellsOf_len] at hfl
    refine lp8 F _ _ _ _ _ _ _ xs ys lf bl f g w h out.length hw hh hw1 hh1 hT hU out L (i, k) hL hf (fun part' A' => ?_) F (upd L (i, k) out.length) [(i, k)] _ _ (A.set hi hk) rfl (WInv.init hL hcm hf) (by simp; omega) (by simp; omega)
    obtain ⟨B1, B2, B3⟩ := id A'
    have b2 := B2 i hi
    have b3 := B3 i k hi hk
    have hcc : fillA (nbs w h f g) L (i, k) out.length (i, k) = some out.length := by
     unfold fillA
     rw [if_pos .base]
    rw [hcc] at b3
    show g_zh_c8_0 _ _ _ _ _ _ _ _ _ _ _ _ _ _ _ _
    unfold g_zh_c8_0
    have b4 : (part'.getD i default).getD k default = ((out.length : Nat) : Int) := b3
    have hg0 : (out ++ [[]]).getD out.length default = ([] : List Rect) := by simp
    have hlen2 : (out ++ [([] : List Rect)]).length = out.length + 1 := by simp
    simp only [Int.toNat_natCast, e1, e2, er, b4, hlen2, hg0, List.length_set, List.length_nil, List.length_singleton, List.nil_append]
    refine ⟨by omega, ⟨⟨by omega, by omega⟩, by omega, by omega⟩, ⟨by omega, by omega⟩, ⟨by omega, by omega⟩, ⟨by omega, by omega⟩, ⟨by omega, by omega⟩, ⟨by omega, by omega⟩, ⟨by omega, by omega⟩, ⟨by omega, by omega⟩, by omega, ⟨by omega, by omega⟩, ⟨by trivial, by trivial⟩, ?_⟩
    refine ih (i + 1) _ _ (fillA (nbs w h f g) L (i, k) out.length) (by omega) (by omega) ?_ A'
    rw [hnext]
    unfold sepStep
    simp only [hL, if_true, hcc, Option.getD_some, hg0, List.nil_append]
   | some j =>
    rw [hL] at a3
    have hjb := hinv.bound _ _ hL
    have hj0 : cdP (some j) = ((j : Nat) : Int) := rfl
    have hm := hml j
    simp only [hj0, Int.toNat_natCast, List.length_set, List.length_singleton]
    rw [dec_f (show ¬ ((j : Nat) : Int) < 0 by omega), cond_false]
    refine ⟨⟨⟨by omega, by omega⟩, by omega, by omega⟩, ⟨by omega, by omega⟩, ⟨by omega, by omega⟩, ⟨by omega, by omega⟩, ⟨by omega, by omega⟩, ⟨by omega, by omega⟩, ⟨by omega, by omega⟩, ⟨by omega, by omega⟩, by omega, ⟨by omega, by omega⟩, ⟨by trivial, by trivial⟩, ?_⟩
    refine ih (i + 1) _ _ L (by omega) (by omega) ?_ A
    rw [hnext]
    unfold sepStep
    simp only [hL, Option.getD_some, reduceCtorEq, if_false]
  ·have e : i = w := by omega
   subst e
   rw [dec_f (by omega), cond_false]
   exact hx part out L hrun A
theorem lp5 (F : Nat) (x0 : X5) (xs ys : LI) (lf bl : LB) (f g : Nat → Nat → Bool) (w h : Nat) (hw : xs.length = w + 1) (hh : ys.length = h + 1) (hw1 : w ≤ 1000) (hh1 : h ≤ 1000) (hF : 1000000 < F + 1) (hwh : h * w ≤ 10000)
  (hbx : ∀ j, j < xs.length → 0 ≤ xs.getD j default ∧ xs.getD j default ≤ 1048576) (hby : ∀ j, j < ys.length → 0 ≤ ys.getD j default ∧ ys.getD j default ≤ 1048576)
  (hT : Tab xs.length ys.length lf f) (hU : Tab xs.length ys.length bl g)
  (hx : ∀ part, x0 h h xs ys lf bl part (sepA (nbs w h f g) (rectG xs ys) (cellsOf w h))) :
  ∀ (n k : Nat) (part : List (List Int)) (out : List (List Rect)) (L : Pl → Option Nat), k ≤ h → h < n + k → sepRun (nbs w h f g) (rectG xs ys) (preC w k 0) (fun _ => none, []) = (L, out) → Arr cdP w h part L →
   w_zh_5 F x0 n h k xs ys lf bl part out := by
 intro n
 induction n with
 | zero => intro k part out L h1 h2; omega
 | succ n ih =>
  intro k part out L h1 h2 hrun A
  show g_zh_s5 _ _ _ _ _ _ _ _ _ _ _
  unfold g_zh_s5
  by_cases hk : k < h
  ·rw [dec_t (show (k : Int) < (h : Int) by omega), cond_true]
   have e1 : w64 ((xs.length : Int) - 1) = (w : Nat) := by
    rw [w64_of (by omega) (by omega)]
    omega
   rw [e1]
   show w_zh_7 F (fun t4 t12 t13 t21 t22 qbj qbk qbl qbm qbn qbo => g_zh_c7_0 (w_zh_5 F x0 n) x0 t4 t12 t13 t21 t22 qbj qbk qbl qbm qbn qbo) F k h k w (0 : Nat) xs ys lf bl part out
   refine lp7 F _ xs ys lf bl f g w h hw hh hw1 hh1 hF hwh hbx hby hT hU k hk (fun part' out' L' hrun' A' => ?_) F 0 part out L (by omega) (by omega) hrun A
   show w_zh_5 F x0 n h (w64 ((k : Int) + 1)) xs ys lf bl part' out'
   rw [w64_succ hk (by omega)]
   rw [preC_row] at hrun'
   exact ih (k + 1) part' out' L' (by omega) (by omega) hrun' A'
  ·have e : k = h := by omega
   subst e
   rw [dec_f (by omega), cond_false]
   have e2 : preC w k 0 = cellsOf w k := by
    unfold preC
    simp
   rw [e2] at hrun
   have := hx part
   unfold sepA at this
   rw [hrun] at this
   exact this
theorem arr_rep (w h : Nat) (m n : Nat) (hw : w ≤ m) (hh : h ≤ n) : Arr cdP w h (List.replicate m (List.replicate n (-1))) (fun _ => none) := by
 have e : ∀ i, i < m → (List.replicate m (List.replicate n (-1 : Int))).getD i default = List.replicate n (-1) := fun i hi => by
  rw [List.getD_eq_getElem?_getD, List.getElem?_replicate, if_pos hi]
  rfl
 refine ⟨by simpa using hw, fun i hi => by rw [e i (by omega)]; simpa using hh, fun i k hi hk => ?_⟩
 rw [e i (by omega), List.getD_eq_getElem?_getD, List.getElem?_replicate, if_pos (by omega)]
 rfl
theorem getD_mem_ {l : LI} {j : Nat} (h : j < l.length) : l.getD j default ∈ l := by
 rw [List.getD_eq_getElem?_getD, List.getElem?_eq_getElem h, Option.getD_some]
 exact List.getElem_mem _
theorem ok_zh (qe qf : ByteArray) (qg qh qa qb : Int) (qc qd : List Rect) (a1 : List Seg) (h : pre_zh qe qf qg qh qa qb qc qd a1) : ∃ F, ∀ Q : List (List Rect) → Int → Prop, Q ((sp_zh qe qf qg qh qa qb qc qd a1).1) ((sp_zh qe qf qg qh qa qb qc qd a1).2) → w_zh F qe qf qg qh qa qb qc qd a1 Q := by
 refine ⟨1000001, fun Q hQ => ?_⟩
 generalize hFq : 1000001 = F
 have hF : 1000000 < F := by omega
 clear hFq
 unfold w_zh g_zh_e
 unfold sp_zh at hQ
 dsimp only
 cases h1 : (sp_zc qe qf qg qh qa qb qc qd != 0) with
 | true =>
  rw [h1] at hQ
  exact hQ
 | false =>
 rw [h1] at hQ
 simp only [cond_false] at hQ ⊢
 by_cases h2 : 200 < (a1.length : Int)
 ·rw [dec_t h2] at hQ ⊢
  exact hQ
 rw [dec_f h2] at hQ ⊢
 simp only [cond_false] at hQ ⊢
 obtain ⟨w1, w2, w3, w4⟩ := sheet_size h1
 refine all_loop0 a1 (linB qe qf qg qh qa qb qc qd) (by omega) (fun n i => w_zh_0 F _ _ n a1 0 a1 a1.length i qe qf qg qh qa qb qc qd) _ _ (fun n i => rfl) F (by omega) (fun q j => ?_) (fun q => ?_)
 ·rw [q] at hQ
  exact hQ
 rw [q] at hQ
 simp only [Bool.not_true, cond_false] at hQ
 have hok : ∀ s ∈ a1, segOK qa qb s := fun s hs => linB_iff.1 (List.all_eq_true.1 q s hs)
 show w_zh_1 F (fun t1 t23 t24 t25 qax qay => g_zh_c1_0 Q t1 t23 t24 t25 qax qay (n_zh_2 F Q)) F a1 a1 a1.length (0 : Nat) [0, qa] [0, qb]
 refine lp1 F _ a1 (by omega) F 0 _ _ (by omega) (by omega) rfl rfl ?_
 rw [List.drop_zero]
 show g_zh_c1_0 _ _ _ _ _ _ _ _
 unfold g_zh_c1_0
 have lx : ([0, qa] ++ a1.flatMap fun s => [s.X1, s.X2]).length = 2 + 2 * a1.length := by rw [List.length_append, flat2_len]; rfl
 have ly : ([0, qb] ++ a1.flatMap fun s => [s.Y1, s.Y2]).length = 2 + 2 * a1.length := by rw [List.length_append, flat2_len]; rfl
 refine ⟨by omega, by omega, ?_⟩
 have gx := gxs_len qa a1
 have gy := gys_len qb a1
 have px := gxs_pos qa a1
 have py := gys_pos qb a1
 have ax := gxs_asc qa a1
 have ay := gys_asc qb a1
 have mx := fun x => gxs_mem (w := qa) (ls := a1) (x := x)
 have my := fun x => gys_mem (h := qb) (ls := a1) (x := x)
 unfold partsG nbG at hQ
 change cond (decide (6000 < w64 ((w64 (((gxs qa a1).length : Int) - 1)) * (w64 (((gys qb a1).length : Int) - 1))))) (Q [] 4) (n_zh_2 F Q a1 ((gxs qa a1).length : Int) 0 (gxs qa a1) (gys qb a1) [] [] [])
 generalize gxs qa a1 = xs at *
 generalize gys qb a1 = ys at *
 have hxw : ∃ w : Nat, xs.length = w + 1 := ⟨xs.length - 1, by omega⟩
 have hyh : ∃ w : Nat, ys.length = w + 1 := ⟨ys.length - 1, by omega⟩
 obtain ⟨w, hw⟩ := hxw
 obtain ⟨hh, hhh⟩ := hyh
 have ew : ((xs.length : Int) - 1) = (w : Nat) := by omega
 have eh : ((ys.length : Int) - 1) = (hh : Nat) := by omega
 have ew' : xs.length - 1 = w := by omega
 have eh' : ys.length - 1 = hh := by omega
 have hmul : w * hh ≤ 1000 * 1000 := Nat.mul_le_mul (by omega) (by omega)
 have emul : (w : Int) * (hh : Int) = ((w * hh : Nat) : Int) := by push_cast; rfl
 rw [ew, eh, emul, ew', eh'] at hQ
 rw [ew, eh, w64_of (n := (w : Int)) (by omega) (by omega), w64_of (n := (hh : Int)) (by omega) (by omega), emul, w64_of (by omega) (by omega)]
 by_cases h3 : 6000 < ((w * hh : Nat) : Int)
 ·rw [dec_t h3] at hQ ⊢
  exact hQ
 rw [dec_f h3] at hQ ⊢
 simp only [cond_false] at hQ ⊢
 have hls : ∀ s ∈ a1, segOK qa qb s ∧ s.X1 ∈ xs ∧ s.X2 ∈ xs ∧ s.Y1 ∈ ys ∧ s.Y2 ∈ ys := fun s hs =>
  ⟨hok s hs, (mx _).2 (.inr (.inr ⟨s, hs, .inl rfl⟩)), (mx _).2 (.inr (.inr ⟨s, hs, .inr rfl⟩)), (my _).2 (.inr (.inr ⟨s, hs, .inl rfl⟩)), (my _).2 (.inr (.inr ⟨s, hs, .inr rfl⟩))⟩
 have hbx : ∀ j, j < xs.length → 0 ≤ xs.getD j default ∧ xs.getD j default ≤ 1048576 := fun j hj => by
  rcases (mx _).1 (getD_mem_ hj) with e | e | ⟨s, hs, e⟩
  ·omega
  ·omega
  ·have := (hok s hs).1
   omega
 have hby : ∀ j, j < ys.length → 0 ≤ ys.getD j default ∧ ys.getD j default ≤ 1048576 := fun j hj => by
  rcases (my _).1 (getD_mem_ hj) with e | e | ⟨s, hs, e⟩
  ·omega
  ·omega
  ·have := (hok s hs).1
   omega
 show w_zh_2 F (fun t1 t68 t69 qax qay qaz qba qbb => g_zh_c2_0 Q t1 t68 t69 qax qay qaz qba qbb (n_zh_3 F Q)) F a1 xs.length (0 : Nat) xs ys (List.replicate 0 (List.replicate ys.length false)) (List.replicate 0 (List.replicate ys.length false)) (List.replicate 0 (List.replicate ys.length (-1)))
 refine lp2 F _ a1 xs ys (by omega) (by omega) ?_ F 0 (by omega) (by omega)
 show w_zh_3 F (fun t118 t119 t120 qax qay qaz qba qbb => g_zh_c3_0 Q t118 t119 t120 qax qay qaz qba qbb (n_zh_5 F Q)) F a1 a1.length (0 : Nat) xs ys _ _ _
 refine lp3 F _ a1 (by omega) qa qb xs ys (by omega) (by omega) ax ay (by omega) _ hls (fun lf bl hT hU => ?_) F 0 _ _ (by omega) (by omega) (Tab.rep _ _) (Tab.rep _ _)
 show w_zh_5 F (fun t12 t13 qbj qbk qbl qbm qbn qbo => g_zh_c5_0 Q t12 t13 qbj qbk qbl qbm qbn qbo) F (w64 ((ys.length : Int) - 1)) (0 : Nat) xs ys lf bl _ []
 rw [eh, w64_of (by omega) (by omega)]
 refine lp5 F _ xs ys lf bl _ _ w hh hw hhh (by omega) (by omega) (by omega) (by rw [Nat.mul_comm]; omega) hbx hby hT hU (fun part => ?_) F 0 _ [] (fun _ => none) (by omega) (by omega) ?_ (arr_rep w hh _ _ (by omega) (by omega))
 ·exact hQ
 ·unfold preC cellsOf
  rfl
end
end Go.Proofs.YteffpgliiilnjaaGreatDoor
namespace Go.Proofs.YteffpgliiilnjaaGreatDoor
open Go.Vm Go.RowKit
set_option linter.unusedVariables false
noncomputable section
def M_zw : Nat → Nat → Nat → Canon UU := fun o b r => ⟨[], [], [], [], []⟩
def g_zw_e (a0_X a0_Y a0_W a0_H a1_X a1_Y a1_W a1_H : Int) (Q : Bool → Prop) : Prop := Q ((((((sp_zq a0_X a0_Y a0_W a0_H) && (sp_zq a1_X a1_Y a1_W a1_H)) && (decide (a0_X < (w64 (a1_X + a1_W))))) && (decide (a1_X < (w64 (a0_X + a0_W))))) && (decide (a0_Y < (w64 (a1_Y + a1_H))))) && (decide (a1_Y < (w64 (a0_Y + a0_H)))))
def w_zw (F : Nat) (a0_X a0_Y a0_W a0_H a1_X a1_Y a1_W a1_H : Int) (Q : Bool → Prop) : Prop := g_zw_e a0_X a0_Y a0_W a0_H a1_X a1_Y a1_W a1_H Q
def sp_zw (a0_X a0_Y a0_W a0_H a1_X a1_Y a1_W a1_H : Int) : Bool := ((((((sp_zq a0_X a0_Y a0_W a0_H) && (sp_zq a1_X a1_Y a1_W a1_H)) && (decide (a0_X < (w64 (a1_X + a1_W))))) && (decide (a1_X < (w64 (a0_X + a0_W))))) && (decide (a0_Y < (w64 (a1_Y + a1_H))))) && (decide (a1_Y < (w64 (a0_Y + a0_H)))))
theorem ok_zw (a0_X a0_Y a0_W a0_H a1_X a1_Y a1_W a1_H : Int) : ∃ F, ∀ Q : Bool → Prop, Q (sp_zw a0_X a0_Y a0_W a0_H a1_X a1_Y a1_W a1_H) → w_zw F a0_X a0_Y a0_W a0_H a1_X a1_Y a1_W a1_H Q := by
 refine ⟨0, fun Q h => ?_⟩
 unfold w_zw g_zw_e
 unfold sp_zw at h
 exact h
end
end Go.Proofs.YteffpgliiilnjaaGreatDoor
namespace Go.Proofs.YteffpgliiilnjaaGreatDoor
open Go.Vm Go.RowKit
set_option linter.unusedVariables false
noncomputable section
def M_za : Nat → Nat → Nat → Canon UU := fun o b r => cond (Nat.beq b 0) ⟨[1, 3, 5, 7, 9, 10, 11], [3, 5], [(.tmp 7, 131, .rects), (.tmp 10, 132, .rect)], [], [131]⟩ (cond (Nat.beq b 2) ⟨[1, 3, 5, 7, 9, 10, 11, 12], [3, 5], [(.tmp 7, 131, .rects), (.tmp 10, 132, .rect)], [], [131]⟩ (cond (Nat.beq b 4) ⟨[1, 3, 5, 6, 7, 9, 10, 13], [3, 5], [(.tmp 7, 131, .rects), (.tmp 10, 132, .rect)], [], [131]⟩ (cond (Nat.beq b 6) ⟨[1, 3, 5, 6, 7, 9, 10, 13, 14], [3, 5], [(.tmp 7, 131, .rects), (.tmp 10, 132, .rect)], [], [131]⟩ (⟨[], [], [], [], []⟩))))
def st_za_0 (t1 : List Seg) (t9 t11 : Int) (c3_0 c3_1 : ByteArray) (c3_2 c3_3 c3_4 c3_5 : Int) (c3_6 c3_7 : List Rect) (c5_0 c5_1 c5_2 c5_3 : Int) (l131 : List (List Rect)) (l132 : List Rect) : ASt UU := ⟨fun u => cond (Nat.beq u 1) (.sl .seg t1) (cond (Nat.beq u 3) (.ptr 3 0) (cond (Nat.beq u 5) (.ptr 5 0) (cond (Nat.beq u 7) (.osl 131 0) (cond (Nat.beq u 9) (.int .i64 t9) (cond (Nat.beq u 10) (.osl 132 0) (cond (Nat.beq u 11) (.int .i64 t11) (.any))))))), fun u => cond (Nat.beq u 131) (some (.deep .rects 0 0 l131)) (cond (Nat.beq u 132) (some (.row .rect 0 l132)) (cond (Nat.beq u 3) (some (.cells [.str c3_0, .str c3_1, .int .i64 c3_2, .int .i64 c3_3, .int .i64 c3_4, .int .i64 c3_5, .sl .rect c3_6, .sl .rect c3_7])) (cond (Nat.beq u 5) (some (.cells [.int .i64 c5_0, .int .i64 c5_1, .int .i64 c5_2, .int .i64 c5_3])) (none))))⟩
def st_za_1 (t1 : List Seg) (t9 t11 t12 : Int) (c3_0 c3_1 : ByteArray) (c3_2 c3_3 c3_4 c3_5 : Int) (c3_6 c3_7 : List Rect) (c5_0 c5_1 c5_2 c5_3 : Int) (l131 : List (List Rect)) (l132 : List Rect) : ASt UU := ⟨fun u => cond (Nat.beq u 1) (.sl .seg t1) (cond (Nat.beq u 3) (.ptr 3 0) (cond (Nat.beq u 5) (.ptr 5 0) (cond (Nat.beq u 7) (.osl 131 0) (cond (Nat.beq u 9) (.int .i64 t9) (cond (Nat.beq u 10) (.osl 132 0) (cond (Nat.beq u 11) (.int .i64 t11) (cond (Nat.beq u 12) (.int .i64 t12) (.any)))))))), fun u => cond (Nat.beq u 131) (some (.deep .rects 0 0 l131)) (cond (Nat.beq u 132) (some (.row .rect 0 l132)) (cond (Nat.beq u 3) (some (.cells [.str c3_0, .str c3_1, .int .i64 c3_2, .int .i64 c3_3, .int .i64 c3_4, .int .i64 c3_5, .sl .rect c3_6, .sl .rect c3_7])) (cond (Nat.beq u 5) (some (.cells [.int .i64 c5_0, .int .i64 c5_1, .int .i64 c5_2, .int .i64 c5_3])) (none))))⟩
def st_za_2 (t1 : List Seg) (t9 t13 : Int) (c3_0 c3_1 : ByteArray) (c3_2 c3_3 c3_4 c3_5 : Int) (c3_6 c3_7 : List Rect) (c5_0 c5_1 c5_2 c5_3 : Int) (l131 : List (List Rect)) (l132 : List Rect) : ASt UU := ⟨fun u => cond (Nat.beq u 1) (.sl .seg t1) (cond (Nat.beq u 3) (.ptr 3 0) (cond (Nat.beq u 5) (.ptr 5 0) (cond (Nat.beq u 6) (.any) (cond (Nat.beq u 7) (.osl 131 0) (cond (Nat.beq u 9) (.int .i64 t9) (cond (Nat.beq u 10) (.osl 132 0) (cond (Nat.beq u 13) (.int .i64 t13) (.any)))))))), fun u => cond (Nat.beq u 131) (some (.deep .rects 0 0 l131)) (cond (Nat.beq u 132) (some (.row .rect 0 l132)) (cond (Nat.beq u 3) (some (.cells [.str c3_0, .str c3_1, .int .i64 c3_2, .int .i64 c3_3, .int .i64 c3_4, .int .i64 c3_5, .sl .rect c3_6, .sl .rect c3_7])) (cond (Nat.beq u 5) (some (.cells [.int .i64 c5_0, .int .i64 c5_1, .int .i64 c5_2, .int .i64 c5_3])) (none))))⟩
def st_za_2_1 (t1 : List Seg) (t6 : Bool) (t9 t13 : Int) (c3_0 c3_1 : ByteArray) (c3_2 c3_3 c3_4 c3_5 : Int) (c3_6 c3_7 : List Rect) (c5_0 c5_1 c5_2 c5_3 : Int) (l131 : List (List Rect)) (l132 : List Rect) : ASt UU := ⟨fun u => cond (Nat.beq u 1) (.sl .seg t1) (cond (Nat.beq u 3) (.ptr 3 0) (cond (Nat.beq u 5) (.ptr 5 0) (cond (Nat.beq u 6) (.bool t6) (cond (Nat.beq u 7) (.osl 131 0) (cond (Nat.beq u 9) (.int .i64 t9) (cond (Nat.beq u 10) (.osl 132 0) (cond (Nat.beq u 13) (.int .i64 t13) (.any)))))))), fun u => cond (Nat.beq u 131) (some (.deep .rects 0 0 l131)) (cond (Nat.beq u 132) (some (.row .rect 0 l132)) (cond (Nat.beq u 3) (some (.cells [.str c3_0, .str c3_1, .int .i64 c3_2, .int .i64 c3_3, .int .i64 c3_4, .int .i64 c3_5, .sl .rect c3_6, .sl .rect c3_7])) (cond (Nat.beq u 5) (some (.cells [.int .i64 c5_0, .int .i64 c5_1, .int .i64 c5_2, .int .i64 c5_3])) (none))))⟩
def st_za_3 (t1 : List Seg) (t9 t13 t14 : Int) (c3_0 c3_1 : ByteArray) (c3_2 c3_3 c3_4 c3_5 : Int) (c3_6 c3_7 : List Rect) (c5_0 c5_1 c5_2 c5_3 : Int) (l131 : List (List Rect)) (l132 : List Rect) : ASt UU := ⟨fun u => cond (Nat.beq u 1) (.sl .seg t1) (cond (Nat.beq u 3) (.ptr 3 0) (cond (Nat.beq u 5) (.ptr 5 0) (cond (Nat.beq u 6) (.any) (cond (Nat.beq u 7) (.osl 131 0) (cond (Nat.beq u 9) (.int .i64 t9) (cond (Nat.beq u 10) (.osl 132 0) (cond (Nat.beq u 13) (.int .i64 t13) (cond (Nat.beq u 14) (.int .i64 t14) (.any))))))))), fun u => cond (Nat.beq u 131) (some (.deep .rects 0 0 l131)) (cond (Nat.beq u 132) (some (.row .rect 0 l132)) (cond (Nat.beq u 3) (some (.cells [.str c3_0, .str c3_1, .int .i64 c3_2, .int .i64 c3_3, .int .i64 c3_4, .int .i64 c3_5, .sl .rect c3_6, .sl .rect c3_7])) (cond (Nat.beq u 5) (some (.cells [.int .i64 c5_0, .int .i64 c5_1, .int .i64 c5_2, .int .i64 c5_3])) (none))))⟩
def st_za_3_0 (t1 : List Seg) (t6 : Bool) (t9 t13 t14 : Int) (c3_0 c3_1 : ByteArray) (c3_2 c3_3 c3_4 c3_5 : Int) (c3_6 c3_7 : List Rect) (c5_0 c5_1 c5_2 c5_3 : Int) (l131 : List (List Rect)) (l132 : List Rect) : ASt UU := ⟨fun u => cond (Nat.beq u 1) (.sl .seg t1) (cond (Nat.beq u 3) (.ptr 3 0) (cond (Nat.beq u 5) (.ptr 5 0) (cond (Nat.beq u 6) (.bool t6) (cond (Nat.beq u 7) (.osl 131 0) (cond (Nat.beq u 9) (.int .i64 t9) (cond (Nat.beq u 10) (.osl 132 0) (cond (Nat.beq u 13) (.int .i64 t13) (cond (Nat.beq u 14) (.int .i64 t14) (.any))))))))), fun u => cond (Nat.beq u 131) (some (.deep .rects 0 0 l131)) (cond (Nat.beq u 132) (some (.row .rect 0 l132)) (cond (Nat.beq u 3) (some (.cells [.str c3_0, .str c3_1, .int .i64 c3_2, .int .i64 c3_3, .int .i64 c3_4, .int .i64 c3_5, .sl .rect c3_6, .sl .rect c3_7])) (cond (Nat.beq u 5) (some (.cells [.int .i64 c5_0, .int .i64 c5_1, .int .i64 c5_2, .int .i64 c5_3])) (none))))⟩
def g_za_e (qe qf : ByteArray) (qg qh qa qb : Int) (qc qd : List Rect) (a1 : List Seg) (qs qt qu qv : Int) (Q : Bool → Prop) (i0 : List Seg → Int → Int → ByteArray → ByteArray → Int → Int → Int → Int → List Rect → List Rect → Int → Int → Int → Int → List (List Rect) → List Rect → Prop) : Prop := cond (decide (20 < (a1.length : Int))) (Q sp_zag) ((let r0 := (sp_zh qe qf qg qh qa qb qc qd a1); ((pre_zh qe qf qg qh qa qb qc qd a1) ∧ cond (r0.2 != 0) (Q sp_zag) (i0 a1 0 0 qe qf qg qh qa qb qc qd qs qt qu qv r0.1 ([])))))
def g_za_s0 (rec : List Seg → Int → Int → ByteArray → ByteArray → Int → Int → Int → Int → List Rect → List Rect → Int → Int → Int → Int → List (List Rect) → List Rect → Prop) (x0 : List Seg → Int → Int → ByteArray → ByteArray → Int → Int → Int → Int → List Rect → List Rect → Int → Int → Int → Int → List (List Rect) → List Rect → Prop) (t1 : List Seg) (t9 t11 : Int) (c3_0 c3_1 : ByteArray) (c3_2 c3_3 c3_4 c3_5 : Int) (c3_6 c3_7 : List Rect) (c5_0 c5_1 c5_2 c5_3 : Int) (l131 : List (List Rect)) (l132 : List Rect) (i1 : List Seg → Int → Int → Int → ByteArray → ByteArray → Int → Int → Int → Int → List Rect → List Rect → Int → Int → Int → Int → List (List Rect) → List Rect → Prop) : Prop := cond (decide (t11 < (l131.length : Int))) (i1 t1 t9 t11 0 c3_0 c3_1 c3_2 c3_3 c3_4 c3_5 c3_6 c3_7 c5_0 c5_1 c5_2 c5_3 l131 l132) (x0 t1 t9 t11 c3_0 c3_1 c3_2 c3_3 c3_4 c3_5 c3_6 c3_7 c5_0 c5_1 c5_2 c5_3 l131 l132)
def g_za_c0_0 (Q : Bool → Prop) (t1 : List Seg) (t9 t11 : Int) (c3_0 c3_1 : ByteArray) (c3_2 c3_3 c3_4 c3_5 : Int) (c3_6 c3_7 : List Rect) (c5_0 c5_1 c5_2 c5_3 : Int) (l131 : List (List Rect)) (l132 : List Rect) (i2 : List Seg → Int → Int → ByteArray → ByteArray → Int → Int → Int → Int → List Rect → List Rect → Int → Int → Int → Int → List (List Rect) → List Rect → Prop) : Prop := i2 t1 t9 0 c3_0 c3_1 c3_2 c3_3 c3_4 c3_5 c3_6 c3_7 c5_0 c5_1 c5_2 c5_3 l131 l132
def g_za_s1 (rec : List Seg → Int → Int → Int → ByteArray → ByteArray → Int → Int → Int → Int → List Rect → List Rect → Int → Int → Int → Int → List (List Rect) → List Rect → Prop) (x0 : List Seg → Int → Int → Int → ByteArray → ByteArray → Int → Int → Int → Int → List Rect → List Rect → Int → Int → Int → Int → List (List Rect) → List Rect → Prop) (t1 : List Seg) (t9 t11 t12 : Int) (c3_0 c3_1 : ByteArray) (c3_2 c3_3 c3_4 c3_5 : Int) (c3_6 c3_7 : List Rect) (c5_0 c5_1 c5_2 c5_3 : Int) (l131 : List (List Rect)) (l132 : List Rect) : Prop := ((0 ≤ t11 ∧ t11 < l131.length) ∧ cond (decide (t12 < ((l131.getD t11.toNat default).length : Int))) (((0 ≤ t11 ∧ t11 < l131.length) ∧ ((0 ≤ t12 ∧ t12 < (l131.getD t11.toNat default).length) ∧ (let v0 := ((l131.getD t11.toNat default).getD t12.toNat default).W; ((0 ≤ t11 ∧ t11 < l131.length) ∧ ((0 ≤ t12 ∧ t12 < (l131.getD t11.toNat default).length) ∧ (let v1 := ((l131.getD t11.toNat default).getD t12.toNat default).H; (((0 ≤ t11 ∧ t11 < l131.length) ∧ ((0 ≤ t12 ∧ t12 < (l131.getD t11.toNat default).length) ∧ ((l132.length + ([((l131.getD t11.toNat default).getD t12.toNat default)]).length) * 32 ≤ 140737488355328))) ∧ rec t1 (w64 (t9 + (w64 (v0 * v1)))) t11 (w64 (t12 + 1)) c3_0 c3_1 c3_2 c3_3 c3_4 c3_5 c3_6 c3_7 c5_0 c5_1 c5_2 c5_3 l131 (l132 ++ ([((l131.getD t11.toNat default).getD t12.toNat default)])))))))))) (x0 t1 t9 t11 t12 c3_0 c3_1 c3_2 c3_3 c3_4 c3_5 c3_6 c3_7 c5_0 c5_1 c5_2 c5_3 l131 l132))
def g_za_c1_0 (rec : List Seg → Int → Int → ByteArray → ByteArray → Int → Int → Int → Int → List Rect → List Rect → Int → Int → Int → Int → List (List Rect) → List Rect → Prop) (x0 : List Seg → Int → Int → ByteArray → ByteArray → Int → Int → Int → Int → List Rect → List Rect → Int → Int → Int → Int → List (List Rect) → List Rect → Prop) (t1 : List Seg) (t9 t11 t12 : Int) (c3_0 c3_1 : ByteArray) (c3_2 c3_3 c3_4 c3_5 : Int) (c3_6 c3_7 : List Rect) (c5_0 c5_1 c5_2 c5_3 : Int) (l131 : List (List Rect)) (l132 : List Rect) : Prop := rec t1 t9 (w64 (t11 + 1)) c3_0 c3_1 c3_2 c3_3 c3_4 c3_5 c3_6 c3_7 c5_0 c5_1 c5_2 c5_3 l131 l132
def g_za_s2 (rec : List Seg → Int → Int → ByteArray → ByteArray → Int → Int → Int → Int → List Rect → List Rect → Int → Int → Int → Int → List (List Rect) → List Rect → Prop) (x0 : List Seg → Int → Int → ByteArray → ByteArray → Int → Int → Int → Int → List Rect → List Rect → Int → Int → Int → Int → List (List Rect) → List Rect → Prop) (x1 : List Seg → Bool → Int → Int → ByteArray → ByteArray → Int → Int → Int → Int → List Rect → List Rect → Int → Int → Int → Int → List (List Rect) → List Rect → Prop) (t1 : List Seg) (t9 t13 : Int) (c3_0 c3_1 : ByteArray) (c3_2 c3_3 c3_4 c3_5 : Int) (c3_6 c3_7 : List Rect) (c5_0 c5_1 c5_2 c5_3 : Int) (l131 : List (List Rect)) (l132 : List Rect) (i3 : List Seg → Int → Int → Int → ByteArray → ByteArray → Int → Int → Int → Int → List Rect → List Rect → Int → Int → Int → Int → List (List Rect) → List Rect → Prop) : Prop := cond ((decide (t13 < (l132.length : Int))) && (decide ((l132.length : Int) ≤ 120))) (i3 t1 t9 t13 0 c3_0 c3_1 c3_2 c3_3 c3_4 c3_5 c3_6 c3_7 c5_0 c5_1 c5_2 c5_3 l131 l132) (x0 t1 t9 t13 c3_0 c3_1 c3_2 c3_3 c3_4 c3_5 c3_6 c3_7 c5_0 c5_1 c5_2 c5_3 l131 l132)
def g_za_c2_0 (Q : Bool → Prop) (t1 : List Seg) (t9 t13 : Int) (c3_0 c3_1 : ByteArray) (c3_2 c3_3 c3_4 c3_5 : Int) (c3_6 c3_7 : List Rect) (c5_0 c5_1 c5_2 c5_3 : Int) (l131 : List (List Rect)) (l132 : List Rect) : Prop := (((([] : List Seg).length + t1.length) * 32 ≤ 140737488355328) ∧ ((((([] : List Seg) ++ t1).length + ([(Seg.mk c5_0 c5_1 c5_2 c5_3)]).length) * 32 ≤ 140737488355328) ∧ (let r0 := (sp_zh c3_0 c3_1 c3_2 c3_3 c3_4 c3_5 c3_6 c3_7 ((([] : List Seg) ++ t1) ++ ([(Seg.mk c5_0 c5_1 c5_2 c5_3)]))); ((pre_zh c3_0 c3_1 c3_2 c3_3 c3_4 c3_5 c3_6 c3_7 ((([] : List Seg) ++ t1) ++ ([(Seg.mk c5_0 c5_1 c5_2 c5_3)]))) ∧ Q (((t9 == (w64 (c3_4 * c3_5))) && ((r0.2 != 0) || (decide ((l131.length : Int) ≤ (r0.1.length : Int))))) && sp_zag)))))
def g_za_c2_1 (Q : Bool → Prop) (t1 : List Seg) (t6 : Bool) (t9 t13 : Int) (c3_0 c3_1 : ByteArray) (c3_2 c3_3 c3_4 c3_5 : Int) (c3_6 c3_7 : List Rect) (c5_0 c5_1 c5_2 c5_3 : Int) (l131 : List (List Rect)) (l132 : List Rect) : Prop := Q t6
def g_za_s3 (rec : List Seg → Int → Int → Int → ByteArray → ByteArray → Int → Int → Int → Int → List Rect → List Rect → Int → Int → Int → Int → List (List Rect) → List Rect → Prop) (x0 : List Seg → Bool → Int → Int → Int → ByteArray → ByteArray → Int → Int → Int → Int → List Rect → List Rect → Int → Int → Int → Int → List (List Rect) → List Rect → Prop) (x1 : List Seg → Int → Int → Int → ByteArray → ByteArray → Int → Int → Int → Int → List Rect → List Rect → Int → Int → Int → Int → List (List Rect) → List Rect → Prop) (t1 : List Seg) (t9 t13 t14 : Int) (c3_0 c3_1 : ByteArray) (c3_2 c3_3 c3_4 c3_5 : Int) (c3_6 c3_7 : List Rect) (c5_0 c5_1 c5_2 c5_3 : Int) (l131 : List (List Rect)) (l132 : List Rect) : Prop := cond (decide (t14 < t13)) (((0 ≤ t13 ∧ t13 < l132.length) ∧ ((0 ≤ t14 ∧ t14 < l132.length) ∧ (let r0 := (sp_zw ((l132.getD t13.toNat default).X) ((l132.getD t13.toNat default).Y) ((l132.getD t13.toNat default).W) ((l132.getD t13.toNat default).H) ((l132.getD t14.toNat default).X) ((l132.getD t14.toNat default).Y) ((l132.getD t14.toNat default).W) ((l132.getD t14.toNat default).H)); cond r0 (x0 t1 false t9 t13 t14 c3_0 c3_1 c3_2 c3_3 c3_4 c3_5 c3_6 c3_7 c5_0 c5_1 c5_2 c5_3 l131 l132) (rec t1 t9 t13 (w64 (t14 + 1)) c3_0 c3_1 c3_2 c3_3 c3_4 c3_5 c3_6 c3_7 c5_0 c5_1 c5_2 c5_3 l131 l132))))) (x1 t1 t9 t13 t14 c3_0 c3_1 c3_2 c3_3 c3_4 c3_5 c3_6 c3_7 c5_0 c5_1 c5_2 c5_3 l131 l132)
def g_za_c3_0 (rec : List Seg → Int → Int → ByteArray → ByteArray → Int → Int → Int → Int → List Rect → List Rect → Int → Int → Int → Int → List (List Rect) → List Rect → Prop) (x0 : List Seg → Int → Int → ByteArray → ByteArray → Int → Int → Int → Int → List Rect → List Rect → Int → Int → Int → Int → List (List Rect) → List Rect → Prop) (x1 : List Seg → Bool → Int → Int → ByteArray → ByteArray → Int → Int → Int → Int → List Rect → List Rect → Int → Int → Int → Int → List (List Rect) → List Rect → Prop) (t1 : List Seg) (t6 : Bool) (t9 t13 t14 : Int) (c3_0 c3_1 : ByteArray) (c3_2 c3_3 c3_4 c3_5 : Int) (c3_6 c3_7 : List Rect) (c5_0 c5_1 c5_2 c5_3 : Int) (l131 : List (List Rect)) (l132 : List Rect) : Prop := x1 t1 t6 t9 t13 c3_0 c3_1 c3_2 c3_3 c3_4 c3_5 c3_6 c3_7 c5_0 c5_1 c5_2 c5_3 l131 l132
def g_za_c3_1 (rec : List Seg → Int → Int → ByteArray → ByteArray → Int → Int → Int → Int → List Rect → List Rect → Int → Int → Int → Int → List (List Rect) → List Rect → Prop) (x0 : List Seg → Int → Int → ByteArray → ByteArray → Int → Int → Int → Int → List Rect → List Rect → Int → Int → Int → Int → List (List Rect) → List Rect → Prop) (x1 : List Seg → Bool → Int → Int → ByteArray → ByteArray → Int → Int → Int → Int → List Rect → List Rect → Int → Int → Int → Int → List (List Rect) → List Rect → Prop) (t1 : List Seg) (t9 t13 t14 : Int) (c3_0 c3_1 : ByteArray) (c3_2 c3_3 c3_4 c3_5 : Int) (c3_6 c3_7 : List Rect) (c5_0 c5_1 c5_2 c5_3 : Int) (l131 : List (List Rect)) (l132 : List Rect) : Prop := rec t1 t9 (w64 (t13 + 1)) c3_0 c3_1 c3_2 c3_3 c3_4 c3_5 c3_6 c3_7 c5_0 c5_1 c5_2 c5_3 l131 l132
def w_za_1 (F : Nat) (x0 : List Seg → Int → Int → Int → ByteArray → ByteArray → Int → Int → Int → Int → List Rect → List Rect → Int → Int → Int → Int → List (List Rect) → List Rect → Prop) : Nat → List Seg → Int → Int → Int → ByteArray → ByteArray → Int → Int → Int → Int → List Rect → List Rect → Int → Int → Int → Int → List (List Rect) → List Rect → Prop
 | 0, _, _, _, _, _, _, _, _, _, _, _, _, _, _, _, _, _, _ => False
 | n + 1, t1, t9, t11, t12, c3_0, c3_1, c3_2, c3_3, c3_4, c3_5, c3_6, c3_7, c5_0, c5_1, c5_2, c5_3, l131, l132 => g_za_s1 (w_za_1 F x0 n) x0 t1 t9 t11 t12 c3_0 c3_1 c3_2 c3_3 c3_4 c3_5 c3_6 c3_7 c5_0 c5_1 c5_2 c5_3 l131 l132
def n_za_1 (F : Nat) (rec : List Seg → Int → Int → ByteArray → ByteArray → Int → Int → Int → Int → List Rect → List Rect → Int → Int → Int → Int → List (List Rect) → List Rect → Prop) (x0 : List Seg → Int → Int → ByteArray → ByteArray → Int → Int → Int → Int → List Rect → List Rect → Int → Int → Int → Int → List (List Rect) → List Rect → Prop) (t1 : List Seg) (t9 t11 t12 : Int) (c3_0 c3_1 : ByteArray) (c3_2 c3_3 c3_4 c3_5 : Int) (c3_6 c3_7 : List Rect) (c5_0 c5_1 c5_2 c5_3 : Int) (l131 : List (List Rect)) (l132 : List Rect) : Prop := w_za_1 F (fun t1 t9 t11 t12 c3_0 c3_1 c3_2 c3_3 c3_4 c3_5 c3_6 c3_7 c5_0 c5_1 c5_2 c5_3 l131 l132 => g_za_c1_0 rec x0 t1 t9 t11 t12 c3_0 c3_1 c3_2 c3_3 c3_4 c3_5 c3_6 c3_7 c5_0 c5_1 c5_2 c5_3 l131 l132) F t1 t9 t11 t12 c3_0 c3_1 c3_2 c3_3 c3_4 c3_5 c3_6 c3_7 c5_0 c5_1 c5_2 c5_3 l131 l132
def w_za_3 (F : Nat) (x0 : List Seg → Bool → Int → Int → Int → ByteArray → ByteArray → Int → Int → Int → Int → List Rect → List Rect → Int → Int → Int → Int → List (List Rect) → List Rect → Prop) (x1 : List Seg → Int → Int → Int → ByteArray → ByteArray → Int → Int → Int → Int → List Rect → List Rect → Int → Int → Int → Int → List (List Rect) → List Rect → Prop) : Nat → List Seg → Int → Int → Int → ByteArray → ByteArray → Int → Int → Int → Int → List Rect → List Rect → Int → Int → Int → Int → List (List Rect) → List Rect → Prop
 | 0, _, _, _, _, _, _, _, _, _, _, _, _, _, _, _, _, _, _ => False
 | n + 1, t1, t9, t13, t14, c3_0, c3_1, c3_2, c3_3, c3_4, c3_5, c3_6, c3_7, c5_0, c5_1, c5_2, c5_3, l131, l132 => g_za_s3 (w_za_3 F x0 x1 n) x0 x1 t1 t9 t13 t14 c3_0 c3_1 c3_2 c3_3 c3_4 c3_5 c3_6 c3_7 c5_0 c5_1 c5_2 c5_3 l131 l132
def n_za_3 (F : Nat) (rec : List Seg → Int → Int → ByteArray → ByteArray → Int → Int → Int → Int → List Rect → List Rect → Int → Int → Int → Int → List (List Rect) → List Rect → Prop) (x0 : List Seg → Int → Int → ByteArray → ByteArray → Int → Int → Int → Int → List Rect → List Rect → Int → Int → Int → Int → List (List Rect) → List Rect → Prop) (x1 : List Seg → Bool → Int → Int → ByteArray → ByteArray → Int → Int → Int → Int → List Rect → List Rect → Int → Int → Int → Int → List (List Rect) → List Rect → Prop) (t1 : List Seg) (t9 t13 t14 : Int) (c3_0 c3_1 : ByteArray) (c3_2 c3_3 c3_4 c3_5 : Int) (c3_6 c3_7 : List Rect) (c5_0 c5_1 c5_2 c5_3 : Int) (l131 : List (List Rect)) (l132 : List Rect) : Prop := w_za_3 F (fun t1 t6 t9 t13 t14 c3_0 c3_1 c3_2 c3_3 c3_4 c3_5 c3_6 c3_7 c5_0 c5_1 c5_2 c5_3 l131 l132 => g_za_c3_0 rec x0 x1 t1 t6 t9 t13 t14 c3_0 c3_1 c3_2 c3_3 c3_4 c3_5 c3_6 c3_7 c5_0 c5_1 c5_2 c5_3 l131 l132) (fun t1 t9 t13 t14 c3_0 c3_1 c3_2 c3_3 c3_4 c3_5 c3_6 c3_7 c5_0 c5_1 c5_2 c5_3 l131 l132 => g_za_c3_1 rec x0 x1 t1 t9 t13 t14 c3_0 c3_1 c3_2 c3_3 c3_4 c3_5 c3_6 c3_7 c5_0 c5_1 c5_2 c5_3 l131 l132) F t1 t9 t13 t14 c3_0 c3_1 c3_2 c3_3 c3_4 c3_5 c3_6 c3_7 c5_0 c5_1 c5_2 c5_3 l131 l132
def w_za_2 (F : Nat) (x0 : List Seg → Int → Int → ByteArray → ByteArray → Int → Int → Int → Int → List Rect → List Rect → Int → Int → Int → Int → List (List Rect) → List Rect → Prop) (x1 : List Seg → Bool → Int → Int → ByteArray → ByteArray → Int → Int → Int → Int → List Rect → List Rect → Int → Int → Int → Int → List (List Rect) → List Rect → Prop) : Nat → List Seg → Int → Int → ByteArray → ByteArray → Int → Int → Int → Int → List Rect → List Rect → Int → Int → Int → Int → List (List Rect) → List Rect → Prop
 | 0, _, _, _, _, _, _, _, _, _, _, _, _, _, _, _, _, _ => False
 | n + 1, t1, t9, t13, c3_0, c3_1, c3_2, c3_3, c3_4, c3_5, c3_6, c3_7, c5_0, c5_1, c5_2, c5_3, l131, l132 => g_za_s2 (w_za_2 F x0 x1 n) x0 x1 t1 t9 t13 c3_0 c3_1 c3_2 c3_3 c3_4 c3_5 c3_6 c3_7 c5_0 c5_1 c5_2 c5_3 l131 l132 (n_za_3 F (w_za_2 F x0 x1 n) x0 x1)
def n_za_2 (F : Nat) (Q : Bool → Prop) (t1 : List Seg) (t9 t13 : Int) (c3_0 c3_1 : ByteArray) (c3_2 c3_3 c3_4 c3_5 : Int) (c3_6 c3_7 : List Rect) (c5_0 c5_1 c5_2 c5_3 : Int) (l131 : List (List Rect)) (l132 : List Rect) : Prop := w_za_2 F (fun t1 t9 t13 c3_0 c3_1 c3_2 c3_3 c3_4 c3_5 c3_6 c3_7 c5_0 c5_1 c5_2 c5_3 l131 l132 => g_za_c2_0 Q t1 t9 t13 c3_0 c3_1 c3_2 c3_3 c3_4 c3_5 c3_6 c3_7 c5_0 c5_1 c5_2 c5_3 l131 l132) (fun t1 t6 t9 t13 c3_0 c3_1 c3_2 c3_3 c3_4 c3_5 c3_6 c3_7 c5_0 c5_1 c5_2 c5_3 l131 l132 => g_za_c2_1 Q t1 t6 t9 t13 c3_0 c3_1 c3_2 c3_3 c3_4 c3_5 c3_6 c3_7 c5_0 c5_1 c5_2 c5_3 l131 l132) F t1 t9 t13 c3_0 c3_1 c3_2 c3_3 c3_4 c3_5 c3_6 c3_7 c5_0 c5_1 c5_2 c5_3 l131 l132
def w_za_0 (F : Nat) (x0 : List Seg → Int → Int → ByteArray → ByteArray → Int → Int → Int → Int → List Rect → List Rect → Int → Int → Int → Int → List (List Rect) → List Rect → Prop) : Nat → List Seg → Int → Int → ByteArray → ByteArray → Int → Int → Int → Int → List Rect → List Rect → Int → Int → Int → Int → List (List Rect) → List Rect → Prop
 | 0, _, _, _, _, _, _, _, _, _, _, _, _, _, _, _, _, _ => False
 | n + 1, t1, t9, t11, c3_0, c3_1, c3_2, c3_3, c3_4, c3_5, c3_6, c3_7, c5_0, c5_1, c5_2, c5_3, l131, l132 => g_za_s0 (w_za_0 F x0 n) x0 t1 t9 t11 c3_0 c3_1 c3_2 c3_3 c3_4 c3_5 c3_6 c3_7 c5_0 c5_1 c5_2 c5_3 l131 l132 (n_za_1 F (w_za_0 F x0 n) x0)
def n_za_0 (F : Nat) (Q : Bool → Prop) (t1 : List Seg) (t9 t11 : Int) (c3_0 c3_1 : ByteArray) (c3_2 c3_3 c3_4 c3_5 : Int) (c3_6 c3_7 : List Rect) (c5_0 c5_1 c5_2 c5_3 : Int) (l131 : List (List Rect)) (l132 : List Rect) : Prop := w_za_0 F (fun t1 t9 t11 c3_0 c3_1 c3_2 c3_3 c3_4 c3_5 c3_6 c3_7 c5_0 c5_1 c5_2 c5_3 l131 l132 => g_za_c0_0 Q t1 t9 t11 c3_0 c3_1 c3_2 c3_3 c3_4 c3_5 c3_6 c3_7 c5_0 c5_1 c5_2 c5_3 l131 l132 (n_za_2 F Q)) F t1 t9 t11 c3_0 c3_1 c3_2 c3_3 c3_4 c3_5 c3_6 c3_7 c5_0 c5_1 c5_2 c5_3 l131 l132
def w_za (F : Nat) (qe qf : ByteArray) (qg qh qa qb : Int) (qc qd : List Rect) (a1 : List Seg) (qs qt qu qv : Int) (Q : Bool → Prop) : Prop := g_za_e qe qf qg qh qa qb qc qd a1 qs qt qu qv Q (n_za_0 F Q)
end
end Go.Proofs.YteffpgliiilnjaaGreatDoor
namespace Go.Proofs.YteffpgliiilnjaaGreatDoor
open Go.Vm Go.RowKit
set_option linter.unusedVariables false
noncomputable section
def cIdx (xs : List Int) (x : Int) : Nat := below_ xs (x + 1) - 1
structure Fin1 (xs xs' : List Int) (w w' : Nat) : Prop where
 ax : asc xs
 ax' : asc xs'
 sub : ∀ x ∈ xs, x ∈ xs'
 len : xs.length = w + 1
 len' : xs'.length = w' + 1
 lo : xs.getD 0 default = xs'.getD 0 default
 hi : xs.getD w default = xs'.getD w' default
theorem asc.mono {l : List Int} (h : asc l) {i j : Nat} (hij : i ≤ j) (hj : j < l.length) : l.getD i default ≤ l.getD j default := by
 rcases Nat.lt_or_eq_of_le hij with q | q
 ·exact Int.le_of_lt (h.get q hj)
 ·rw [q]; exact Int.le_refl _
theorem asc.inj_lt {l : List Int} (h : asc l) {i j : Nat} (hi : i < l.length) (hlt : l.getD i default < l.getD j default) (hj : j < l.length) : i < j := by
 rcases Nat.lt_or_ge i j with q | q
 ·exact q
 ·have := h.mono q hi
  omega
theorem asc.at_below {l : List Int} (h : asc l) {i : Nat} (hi : i < l.length) : below_ l (l.getD i default) = i := by
 obtain ⟨h1, h2⟩ := below_mem h (getD_mem1 hi)
 rcases Nat.lt_trichotomy (below_ l (l.getD i default)) i with q | q | q
 ·have := h.get q hi
  omega
 ·exact q
 ·have := h.get q h1
  omega
where
 getD_mem1 {l : List Int} {j : Nat} (h : j < l.length) : l.getD j default ∈ l := by
  rw [List.getD_eq_getElem?_getD, List.getElem?_eq_getElem h, Option.getD_some]
  exact List.getElem_mem _
theorem mem_getD {l : List Int} {x : Int} (h : x ∈ l) : ∃ j, j < l.length ∧ l.getD j default = x := by
 obtain ⟨i, hi, rfl⟩ := List.getElem_of_mem h
 exact ⟨i, hi, by simp [List.getD_eq_getElem?_getD, hi]⟩
theorem getD_mem1 {l : List Int} {j : Nat} (h : j < l.length) : l.getD j default ∈ l := by
 rw [List.getD_eq_getElem?_getD, List.getElem?_eq_getElem h, Option.getD_some]
 exact List.getElem_mem _
theorem cIdx_of {xs : List Int} (h : asc xs) {x : Int} {i : Nat} (hi : i < xs.length) (h1 : xs.getD i default ≤ x) (h2 : i + 1 < xs.length → x < xs.getD (i + 1) default) : cIdx xs x = i := by
 unfold cIdx
 have a := below_lt xs (x + 1) h.le i hi
 have a1 := a.1 (by omega)
 have c := below_le xs (x + 1)
 by_cases q : i + 1 < xs.length
 ·have b := below_lt xs (x + 1) h.le (i + 1) q
  have h3 := h2 q
  have : ¬ i + 1 < below_ xs (x + 1) := fun z => by
   have := b.2 z
   omega
  omega
 ·omega
theorem Fin1.at {xs xs' : List Int} {w w' : Nat} (F : Fin1 xs xs' w w') {i : Nat} (hi : i < w') :
  cIdx xs (xs'.getD i default) < w ∧ xs.getD (cIdx xs (xs'.getD i default)) default ≤ xs'.getD i default ∧ xs'.getD i default < xs.getD (cIdx xs (xs'.getD i default) + 1) default := by
 have hl := F.len
 have hl' := F.len'
 have e0 : xs.getD 0 default ≤ xs'.getD i default := by
  rw [F.lo]
  exact F.ax'.mono (Nat.zero_le i) (by omega)
 have e1 : xs'.getD i default < xs.getD w default := by
  rw [F.hi]
  exact F.ax'.get hi (by omega)
 generalize xs'.getD i default = x at e0 e1
 have b0 := below_lt xs (x + 1) F.ax.le 0 (by omega)
 have b1 := below_lt xs (x + 1) F.ax.le w (by omega)
 have b0' := b0.1 (by omega)
 have b1' : ¬ w < below_ xs (x + 1) := fun z => by
  have := b1.2 z
  omega
 unfold cIdx
 have b2 := below_lt xs (x + 1) F.ax.le (below_ xs (x + 1) - 1) (by omega)
 have b2' := b2.2 (by omega)
 have b3 := below_lt xs (x + 1) F.ax.le (below_ xs (x + 1) - 1 + 1) (by omega)
 have b3' : ¬ xs.getD (below_ xs (x + 1) - 1 + 1) default < x + 1 := fun z => by
  have := b3.1 z
  omega
 exact ⟨by omega, by omega, by omega⟩
theorem Fin1.step {xs xs' : List Int} {w w' : Nat} (F : Fin1 xs xs' w w') {i : Nat} (hi : i + 1 < w') :
  cIdx xs (xs'.getD (i + 1) default) = cIdx xs (xs'.getD i default) ∨
  (cIdx xs (xs'.getD (i + 1) default) = cIdx xs (xs'.getD i default) + 1 ∧ xs.getD (cIdx xs (xs'.getD i default) + 1) default = xs'.getD (i + 1) default) := by
 have hl := F.len
 have hl' := F.len'
 obtain ⟨a1, a2, a3⟩ := F.at (show i < w' by omega)
 obtain ⟨b1, b2, b3⟩ := F.at hi
 have hlt := F.ax'.get (show i < i + 1 by omega) (show i + 1 < xs'.length by omega)
 generalize cIdx xs (xs'.getD i default) = a at *
 generalize cIdx xs (xs'.getD (i + 1) default) = b at *
 have hab : a ≤ b := by
  rcases Nat.lt_or_ge b a with q | q
  ·have := F.ax.mono (show b + 1 ≤ a by omega) (by omega)
   omega
  ·exact q
 rcases Nat.lt_or_eq_of_le hab with q | q
 ·refine .inr ?_
  have h1 := F.ax.mono (show a + 1 ≤ b by omega) (by omega)
  obtain ⟨j, hj, hje⟩ := mem_getD (F.sub _ (getD_mem1 (show a + 1 < xs.length by omega)))
  have j1 : i < j := F.ax'.inj_lt (by omega) (by omega) hj
  have j2 : ¬ i + 1 < j := fun z => by
   have := F.ax'.get z hj
   omega
  have je : j = i + 1 := by omega
  subst je
  refine ⟨?_, hje.symm⟩
  rcases Nat.lt_or_ge (a + 1) b with z | z
  ·have := F.ax.get z (by omega)
   omega
  ·omega
 ·exact .inl q.symm
theorem Fin1.sur {xs xs' : List Int} {w w' : Nat} (F : Fin1 xs xs' w w') {i : Nat} (hi : i < w) : ∃ i', i' < w' ∧ cIdx xs (xs'.getD i' default) = i := by
 have hl := F.len
 have hl' := F.len'
 obtain ⟨j, hj, hje⟩ := mem_getD (F.sub _ (getD_mem1 (show i < xs.length by omega)))
 refine ⟨j, ?_, cIdx_of F.ax (by omega) (by omega) (fun q => by
  rw [hje]
  exact F.ax.get (by omega) q)⟩
 refine F.ax'.inj_lt hj ?_ (show w' < xs'.length by omega)
 rw [hje, ← F.hi]
 exact F.ax.get hi (by omega)
theorem nbs_cases {w h : Nat} {lf bl : Nat → Nat → Bool} {d e : Pl} (he : e ∈ nbs w h lf bl d) (R : Pl → Pl → Prop) (hs : ∀ x y, R x y → R y x)
  (h1 : ∀ i k, i + 1 < w → k < h → lf (i + 1) k = false → R (i, k) (i + 1, k)) (h2 : ∀ i k, i < w → k + 1 < h → bl i (k + 1) = false → R (i, k) (i, k + 1)) : R d e := by
 have hd := nbs_in he
 obtain ⟨i, k⟩ := d
 unfold nbs at he
 rw [if_pos hd] at he
 replace hd : i < w ∧ k < h := hd
 simp only [List.mem_append] at he
 rcases he with ((he | he) | he) | he
 ·split at he
  ·rename_i hq
   obtain rfl := List.mem_singleton.1 he
   have e1 : i - 1 + 1 = i := by omega
   have := h1 (i - 1) k (by omega) hd.2 (by rw [e1]; exact hq.2)
   rw [e1] at this
   exact hs _ _ this
  ·cases he
 ·split at he
  ·rename_i hq
   obtain rfl := List.mem_singleton.1 he
   exact h1 i k hq.1 hd.2 hq.2
  ·cases he
 ·split at he
  ·rename_i hq
   obtain rfl := List.mem_singleton.1 he
   have e1 : k - 1 + 1 = k := by omega
   have := h2 i (k - 1) hd.1 (by omega) (by rw [e1]; exact hq.2)
   rw [e1] at this
   exact hs _ _ this
  ·cases he
 ·split at he
  ·rename_i hq
   obtain rfl := List.mem_singleton.1 he
   exact h2 i k hd.1 hq.1 hq.2
  ·cases he
theorem nbs_right {w h : Nat} {lf bl : Nat → Nat → Bool} {i k : Nat} (h1 : i + 1 < w) (h2 : k < h) (h3 : lf (i + 1) k = false) : (i + 1, k) ∈ nbs w h lf bl (i, k) := by
 unfold nbs
 rw [if_pos ⟨by simp only; omega, h2⟩]
 simp only [List.mem_append]
 refine .inl (.inl (.inr ?_))
 rw [if_pos ⟨h1, h3⟩]
 simp
theorem nbs_up {w h : Nat} {lf bl : Nat → Nat → Bool} {i k : Nat} (h1 : i < w) (h2 : k + 1 < h) (h3 : bl i (k + 1) = false) : (i, k + 1) ∈ nbs w h lf bl (i, k) := by
 unfold nbs
 rw [if_pos ⟨h1, by simp only; omega⟩]
 simp only [List.mem_append]
 refine .inr ?_
 rw [if_pos ⟨h2, h3⟩]
 simp
theorem lf_fine {xs xs' ys ys' : List Int} {w w' h h' : Nat} (FX : Fin1 xs xs' w w') (FY : Fin1 ys ys' h h') {ls ls' : List Seg} (hsub : ∀ s ∈ ls, s ∈ ls') (hm : ∀ s ∈ ls, s.X1 ∈ xs ∧ s.X2 ∈ xs ∧ s.Y1 ∈ ys ∧ s.Y2 ∈ ys) {a i k : Nat} (hi : i < w') (hk : k < h')
  (ha : a < w) (he : xs.getD a default = xs'.getD i default) (hn : lfG xs' ys' ls' i k = false) : lfG xs ys ls a (cIdx ys (ys'.getD k default)) = false := by
 cases hc : lfG xs ys ls a (cIdx ys (ys'.getD k default)) with
 | false => rfl
 | true =>
  unfold lfG at hc hn
  obtain ⟨s, hs, hq⟩ := List.any_eq_true.1 hc
  obtain ⟨q1, q2, q3⟩ := of_decide_eq_true hq
  obtain ⟨m1, m2, m3, m4⟩ := hm s hs
  obtain ⟨c1, c2, c3⟩ := FY.at hk
  have hlx := FX.len
  have hlx' := FX.len'
  have hly := FY.len
  have hly' := FY.len'
  obtain ⟨v1, v2⟩ := below_mem FX.ax m1
  obtain ⟨v3, v4⟩ := below_mem FY.ax m3
  obtain ⟨v5, v6⟩ := below_mem FY.ax m4
  have hf := List.any_eq_false.1 hn s (hsub s hs)
  rw [decide_eq_true_eq] at hf
  refine absurd ⟨?_, ?_, ?_⟩ hf
  ·have : s.X1 = xs'.getD i default := by rw [← he, q1, v2]
   rw [this]
   exact (FX.ax'.at_below (by omega)).symm
  ·have b := below_lt ys' s.Y1 FY.ax'.le k (by omega)
   have := FY.ax.mono q2 (by omega)
   rcases Nat.lt_or_ge k (below_ ys' s.Y1) with z | z
   ·have := b.2 z
    omega
   ·exact z
  ·have b := below_lt ys' s.Y2 FY.ax'.le k (by omega)
   have := FY.ax.mono (show cIdx ys (ys'.getD k default) + 1 ≤ below_ ys s.Y2 by omega) (by omega)
   exact b.1 (by omega)
theorem bl_fine {xs xs' ys ys' : List Int} {w w' h h' : Nat} (FX : Fin1 xs xs' w w') (FY : Fin1 ys ys' h h') {ls ls' : List Seg} (hsub : ∀ s ∈ ls, s ∈ ls') (hm : ∀ s ∈ ls, s.X1 ∈ xs ∧ s.X2 ∈ xs ∧ s.Y1 ∈ ys ∧ s.Y2 ∈ ys) {b i k : Nat} (hi : i < w') (hk : k < h')
  (hb : b < h) (he : ys.getD b default = ys'.getD k default) (hn : blG xs' ys' ls' i k = false) : blG xs ys ls (cIdx xs (xs'.getD i default)) b = false := by
 cases hc : blG xs ys ls (cIdx xs (xs'.getD i default)) b with
 | false => rfl
 | true =>
  unfold blG at hc hn
  obtain ⟨s, hs, hq⟩ := List.any_eq_true.1 hc
  obtain ⟨q1, q2, q3⟩ := of_decide_eq_true hq
  obtain ⟨m1, m2, m3, m4⟩ := hm s hs
  obtain ⟨c1, c2, c3⟩ := FX.at hi
  have hlx := FX.len
  have hlx' := FX.len'
  have hly := FY.len
  have hly' := FY.len'
  obtain ⟨v1, v2⟩ := below_mem FY.ax m3
  obtain ⟨v3, v4⟩ := below_mem FX.ax m1
  obtain ⟨v5, v6⟩ := below_mem FX.ax m2
  have hf := List.any_eq_false.1 hn s (hsub s hs)
  rw [decide_eq_true_eq] at hf
  refine absurd ⟨?_, ?_, ?_⟩ hf
  ·have b := below_lt xs' s.X1 FX.ax'.le i (by omega)
   have := FX.ax.mono q1 (by omega)
   rcases Nat.lt_or_ge i (below_ xs' s.X1) with z | z
   ·have := b.2 z
    omega
   ·exact z
  ·have b := below_lt xs' s.X2 FX.ax'.le i (by omega)
   have := FX.ax.mono (show cIdx xs (xs'.getD i default) + 1 ≤ below_ xs s.X2 by omega) (by omega)
   exact b.1 (by omega)
  ·have : s.Y1 = ys'.getD k default := by rw [← he, q3, v2]
   rw [this]
   exact (FY.ax'.at_below (by omega)).symm
theorem parts_finer {xs xs' ys ys' : List Int} {w w' h h' : Nat} (FX : Fin1 xs xs' w w') (FY : Fin1 ys ys' h h') {ls ls' : List Seg} (hsub : ∀ s ∈ ls, s ∈ ls') (hm : ∀ s ∈ ls, s.X1 ∈ xs ∧ s.X2 ∈ xs ∧ s.Y1 ∈ ys ∧ s.Y2 ∈ ys) :
  (sepA (nbs w h (lfG xs ys ls) (blG xs ys ls)) (rectG xs ys) (cellsOf w h)).length ≤ (sepA (nbs w' h' (lfG xs' ys' ls') (blG xs' ys' ls')) (rectG xs' ys') (cellsOf w' h')).length := by
 obtain ⟨LA, hA⟩ := sepA_inv (nb := nbs w h (lfG xs ys ls) (blG xs ys ls)) nbs_sym (rectG xs ys) (cellsOf w h)
 obtain ⟨LB, hB⟩ := sepA_inv (nb := nbs w' h' (lfG xs' ys' ls') (blG xs' ys' ls')) nbs_sym (rectG xs' ys') (cellsOf w' h')
 refine hA.finer hB nbs_sym (fun c => (cIdx xs (xs'.getD c.1 default), cIdx ys (ys'.getD c.2 default))) (fun d e he => ?_) (fun c hc => ?_)
 ·refine nbs_cases he (fun d e => ((cIdx xs (xs'.getD e.1 default), cIdx ys (ys'.getD e.2 default)) : Pl) = (cIdx xs (xs'.getD d.1 default), cIdx ys (ys'.getD d.2 default)) ∨
   ((cIdx xs (xs'.getD e.1 default), cIdx ys (ys'.getD e.2 default)) : Pl) ∈ nbs w h (lfG xs ys ls) (blG xs ys ls) (cIdx xs (xs'.getD d.1 default), cIdx ys (ys'.getD d.2 default))) (fun x y q => ?_) (fun i k q1 q2 q3 => ?_) (fun i k q1 q2 q3 => ?_)
  ·rcases q with q | q
   ·exact .inl q.symm
   ·exact .inr (nbs_sym _ _ q)
  ·simp only
   rcases FX.step q1 with z | ⟨z1, z2⟩
   ·rw [z]
    exact .inl rfl
   ·rw [z1]
    obtain ⟨u1, _, _⟩ := FX.at q1
    rw [z1] at u1
    exact .inr (nbs_right u1 (FY.at q2).1 (lf_fine FX FY hsub hm q1 q2 u1 z2 q3))
  ·simp only
   rcases FY.step q2 with z | ⟨z1, z2⟩
   ·rw [z]
    exact .inl rfl
   ·rw [z1]
    obtain ⟨u1, _, _⟩ := FY.at q2
    rw [z1] at u1
    exact .inr (nbs_up (FX.at q1).1 u1 (bl_fine FX FY hsub hm q1 q2 u1 z2 q3))
 ·obtain ⟨i, k⟩ := c
  obtain ⟨h1, h2⟩ := mem_cellsOf.1 hc
  obtain ⟨i', hi', ei⟩ := FX.sur h1
  obtain ⟨k', hk', ek⟩ := FY.sur h2
  exact ⟨(i', k'), mem_cellsOf.2 ⟨hi', hk'⟩, by simp only [ei, ek]⟩
def areaS (l : List Rect) : Int := (l.map fun r => r.W * r.H).sum
theorem areaS_cons (r : Rect) (l : List Rect) : areaS (r :: l) = r.W * r.H + areaS l := rfl
theorem areaS_append (a b : List Rect) : areaS (a ++ b) = areaS a + areaS b := by
 unfold areaS
 rw [List.map_append, List.sum_append]
theorem areaS_perm {a b : List Rect} (h : a.Perm b) : areaS a = areaS b := by
 induction h with
 | nil => rfl
 | cons x _ ih => rw [areaS_cons, areaS_cons, ih]
 | swap x y l =>
  rw [areaS_cons, areaS_cons, areaS_cons, areaS_cons]
  omega
 | trans _ _ ih1 ih2 => rw [ih1, ih2]
theorem area_row (xs ys : List Int) (k : Nat) : ∀ n, areaS ((List.range n).map fun i => rectG xs ys (i, k)) = (xs.getD n default - xs.getD 0 default) * (ys.getD (k + 1) default - ys.getD k default)
 | 0 => by simp [areaS]
 | n + 1 => by
  rw [List.range_succ, List.map_append, areaS_append, area_row xs ys k n]
  show _ + ((xs.getD (n + 1) default - xs.getD n default) * (ys.getD (k + 1) default - ys.getD k default) + 0) = _
  rw [Int.add_zero, ← Int.add_mul]
  congr 1
  omega
theorem area_cells (xs ys : List Int) (w : Nat) : ∀ n, areaS ((cellsOf w n).map (rectG xs ys)) = (xs.getD w default - xs.getD 0 default) * (ys.getD n default - ys.getD 0 default)
 | 0 => by simp [areaS, cellsOf]
 | n + 1 => by
  have e : cellsOf w (n + 1) = cellsOf w n ++ (List.range w).map fun i => (i, n) := by
   unfold cellsOf
   rw [List.range_succ, List.flatMap_append]
   simp
  rw [e, List.map_append, areaS_append, area_cells xs ys w n, List.map_map]
  have := area_row xs ys n w
  unfold Function.comp
  rw [this, ← Int.mul_add]
  congr 1
  omega
theorem area_nonneg : ∀ (l : List Rect), (∀ r ∈ l, 0 ≤ r.W ∧ 0 ≤ r.H) → 0 ≤ areaS l
 | [], _ => Int.le_refl _
 | r :: l, h => by
  rw [areaS_cons]
  have h1 := h r (List.mem_cons_self ..)
  have := Int.mul_nonneg h1.1 h1.2
  have := area_nonneg l fun x hx => h x (List.mem_cons_of_mem _ hx)
  omega
def apart (a b : Rect) : Prop := a.X + a.W ≤ b.X ∨ b.X + b.W ≤ a.X ∨ a.Y + a.H ≤ b.Y ∨ b.Y + b.H ≤ a.Y
theorem apart.symm {a b : Rect} (h : apart a b) : apart b a := by
 unfold apart at *
 omega
theorem rects_apart {xs ys : List Int} {w h : Nat} (hx : asc xs) (hy : asc ys) (lx : xs.length = w + 1) (ly : ys.length = h + 1) : ((cellsOf w h).map (rectG xs ys)).Pairwise apart := by
 rw [List.pairwise_map]
 unfold cellsOf
 rw [List.pairwise_flatMap]
 refine ⟨fun k hk => ?_, ?_⟩
 ·rw [List.pairwise_map]
  refine List.Pairwise.imp_of_mem (R := fun a b => a < b) (fun {a b} ha hb hab => ?_) List.pairwise_lt_range
  have hb' := List.mem_range.1 hb
  have := hx.mono (show a + 1 ≤ b by omega) (by omega)
  unfold apart rectG
  simp only
  omega
 ·refine List.Pairwise.imp_of_mem (R := fun a b => a < b) (fun {a b} ha hb hab => ?_) List.pairwise_lt_range
  intro x hx' y hy'
  obtain ⟨i, hi, rfl⟩ := List.mem_map.1 hx'
  obtain ⟨j, hj, rfl⟩ := List.mem_map.1 hy'
  have hb' := List.mem_range.1 hb
  have := hy.mono (show a + 1 ≤ b by omega) (by omega)
  unfold apart rectG
  simp only
  omega
end
end Go.Proofs.YteffpgliiilnjaaGreatDoor
namespace Go.Proofs.YteffpgliiilnjaaGreatDoor
open Go.Vm Go.RowKit
set_option linter.unusedVariables false
noncomputable section
abbrev DT := ByteArray → ByteArray → Int → Int → Int → Int → List Rect → List Rect → Int → Int → Int → Int → List (List Rect) → List Rect → Prop
abbrev D0 := List Seg → Int → Int → DT
abbrev D1 := List Seg → Int → Int → Int → DT
abbrev D2 := List Seg → Bool → Int → Int → DT
abbrev D3 := List Seg → Bool → Int → Int → Int → DT
def smallR (r : Rect) : Prop := (0 ≤ r.X ∧ r.X ≤ 1048576) ∧ (0 ≤ r.Y ∧ r.Y ≤ 1048576) ∧ (0 ≤ r.W ∧ r.W ≤ 1048576) ∧ (0 ≤ r.H ∧ r.H ≤ 1048576)
theorem small_area {r : Rect} (h : smallR r) : 0 ≤ r.W * r.H ∧ r.W * r.H ≤ 1048576 * 1048576 :=
 ⟨Int.mul_nonneg h.2.2.1.1 h.2.2.2.1, Int.mul_le_mul h.2.2.1.2 h.2.2.2.2 h.2.2.2.1 (by omega)⟩
theorem small_sum {l : List Rect} (h : ∀ r ∈ l, smallR r) : 0 ≤ areaS l := area_nonneg l fun r hr => ⟨(h r hr).2.2.1.1, (h r hr).2.2.2.1⟩
theorem ovl_apart {a b : Rect} (ha : smallR a) (hb : smallR b) (h : apart a b) : sp_zw a.X a.Y a.W a.H b.X b.Y b.W b.H = false := by
 unfold smallR at ha hb
 unfold apart at h
 unfold sp_zw
 rw [w64_of (by omega) (by omega), w64_of (by omega) (by omega), w64_of (by omega) (by omega), w64_of (by omega) (by omega), Bool.eq_false_iff]
 intro q
 simp only [Bool.and_eq_true, decide_eq_true_eq] at q
 omega
theorem getD_memA {α : Type} [Inhabited α] {l : List α} {k : Nat} (h : k < l.length) : l.getD k default ∈ l := by
 rw [List.getD_eq_getElem?_getD, List.getElem?_eq_getElem h, Option.getD_some]
 exact List.getElem_mem _
theorem ld1 (F : Nat) (x0 : D1) (ls : List Seg) (nm mt : ByteArray) (g gr w h : Int) (cl us : List Rect) (a b c d : Int) (ps : List (List Rect)) (i : Nat) (hi : i < ps.length) (hs : ∀ r ∈ ps.getD i default, smallR r) (hlen : (ps.getD i default).length ≤ 1000000) :
  ∀ (n k : Nat) (sum : Int) (acc : List Rect), k ≤ (ps.getD i default).length → (ps.getD i default).length < n + k → 0 ≤ sum → sum + areaS ((ps.getD i default).drop k) ≤ 1000000000000000000 → acc.length + ((ps.getD i default).drop k).length ≤ 1000000 →
  x0 ls (sum + areaS ((ps.getD i default).drop k)) i (ps.getD i default).length nm mt g gr w h cl us a b c d ps (acc ++ (ps.getD i default).drop k) → w_za_1 F x0 n ls sum i k nm mt g gr w h cl us a b c d ps acc := by
 intro n
 induction n with
 | zero => intro k sum acc h1 h2; omega
 | succ n ih =>
  intro k sum acc h1 h2 h3 h4 h5 hx
  show g_za_s1 _ _ _ _ _ _ _ _ _ _ _ _ _ _ _ _ _ _ _ _
  unfold g_za_s1
  simp only [Int.toNat_natCast]
  refine ⟨⟨by omega, by omega⟩, ?_⟩
  by_cases hk : k < (ps.getD i default).length
  ·rw [dec_t (show (k : Int) < ((ps.getD i default).length : Int) by omega), cond_true]
   have hdr := drop_getD (ps.getD i default) k hk
   have hr : smallR ((ps.getD i default).getD k default) := hs _ (getD_memA hk)
   have hrest : 0 ≤ areaS ((ps.getD i default).drop (k + 1)) := small_sum fun r hr => hs r (List.mem_of_mem_drop hr)
   rw [hdr, areaS_cons] at h4 hx
   rw [hdr, List.length_cons] at h5
   obtain ⟨p1, p2⟩ := small_area hr
   rw [w64_of (n := ((ps.getD i default).getD k default).W * ((ps.getD i default).getD k default).H) (by omega) (by omega), w64_of (n := sum + _) (by omega) (by omega), w64_succ hk (by omega)]
   refine ⟨⟨by omega, by omega⟩, ⟨by omega, by omega⟩, ⟨by omega, by omega⟩, ⟨by omega, by omega⟩, ⟨⟨by omega, by omega⟩, ⟨by omega, by omega⟩, by simp only [List.length_singleton]; omega⟩, ?_⟩
   refine ih (k + 1) _ _ (by omega) (by omega) (by omega) (by omega) (by simp only [List.length_append, List.length_singleton]; omega) ?_
   rw [List.append_assoc, List.singleton_append, Int.add_assoc]
   exact hx
  ·have e : k = (ps.getD i default).length := by omega
   subst e
   rw [dec_f (by omega), cond_false]
   rw [List.drop_length] at hx
   simpa [areaS] using hx
theorem ld0 (F : Nat) (x0 : D0) (ls : List Seg) (nm mt : ByteArray) (g gr w h : Int) (cl us : List Rect) (a b c d : Int) (ps : List (List Rect)) (hF : 1000001 < F) (hpl : ps.length ≤ 1000000) (hs : ∀ r ∈ ps.flatten, smallR r) :
  ∀ (n i : Nat) (sum : Int) (acc : List Rect), i ≤ ps.length → ps.length < n + i → 0 ≤ sum → sum + areaS (ps.drop i).flatten ≤ 1000000000000000000 → acc.length + (ps.drop i).flatten.length ≤ 1000000 →
  x0 ls (sum + areaS (ps.drop i).flatten) ps.length nm mt g gr w h cl us a b c d ps (acc ++ (ps.drop i).flatten) → w_za_0 F x0 n ls sum i nm mt g gr w h cl us a b c d ps acc := by
 intro n
 induction n with
 | zero => intro i sum acc h1 h2; omega
 | succ n ih =>
  intro i sum acc h1 h2 h3 h4 h5 hx
  show g_za_s0 _ _ _ _ _ _ _ _ _ _ _ _ _ _ _ _ _ _ _ _
  unfold g_za_s0
  by_cases hi : i < ps.length
  ·rw [dec_t (show (i : Int) < (ps.length : Int) by omega), cond_true]
   have hdr := drop_getD ps i hi
   rw [hdr, List.flatten_cons, areaS_append] at h4 hx
   rw [hdr, List.flatten_cons, List.length_append] at h5
   have hmem : ∀ r ∈ ps.getD i default, smallR r := fun r hr => hs r (List.mem_flatten.2 ⟨_, by
    rw [List.getD_eq_getElem?_getD, List.getElem?_eq_getElem hi, Option.getD_some]
    exact List.getElem_mem _, hr⟩)
   have hrest : 0 ≤ areaS (ps.drop (i + 1)).flatten := small_sum fun r hr => by
    obtain ⟨l, hl, hr⟩ := List.mem_flatten.1 hr
    exact hs r (List.mem_flatten.2 ⟨l, List.mem_of_mem_drop hl, hr⟩)
   have hown := small_sum hmem
   show w_za_1 F (fun t1 t9 t11 t12 c3_0 c3_1 c3_2 c3_3 c3_4 c3_5 c3_6 c3_7 c5_0 c5_1 c5_2 c5_3 l131 l132 => g_za_c1_0 (w_za_0 F x0 n) x0 t1 t9 t11 t12 c3_0 c3_1 c3_2 c3_3 c3_4 c3_5 c3_6 c3_7 c5_0 c5_1 c5_2 c5_3 l131 l132) F ls sum i (0 : Nat) nm mt g gr w h cl us a b c d ps acc
   refine ld1 F _ ls nm mt g gr w h cl us a b c d ps i hi hmem (by omega) F 0 sum acc (by omega) (by omega) h3 (by rw [List.drop_zero]; omega) (by rw [List.drop_zero]; omega) ?_
   rw [List.drop_zero]
   show w_za_0 F x0 n ls (sum + areaS (ps.getD i default)) (w64 ((i : Int) + 1)) nm mt g gr w h cl us a b c d ps (acc ++ ps.getD i default)
   rw [w64_succ hi (by omega)]
   refine ih (i + 1) _ _ (by omega) (by omega) (by omega) (by omega) (by rw [List.length_append]; omega) ?_
   rw [List.append_assoc, Int.add_assoc]
   exact hx
  ·have e : i = ps.length := by omega
   subst e
   rw [dec_f (by omega), cond_false]
   rw [List.drop_length] at hx
   simpa [areaS] using hx
theorem ld3 (F : Nat) (x0 : D3) (x1 : D1) (ls : List Seg) (sum : Int) (nm mt : ByteArray) (g gr w h : Int) (cl us : List Rect) (a b c d : Int) (ps : List (List Rect)) (l : List Rect) (hl : l.length ≤ 1000000) (hs : ∀ r ∈ l, smallR r) (hp : l.Pairwise apart) (i : Nat) (hi : i < l.length)
  (hx : x1 ls sum i i nm mt g gr w h cl us a b c d ps l) : ∀ (n k : Nat), k ≤ i → i < n + k → w_za_3 F x0 x1 n ls sum i k nm mt g gr w h cl us a b c d ps l := by
 intro n
 induction n with
 | zero => intro k h1 h2; omega
 | succ n ih =>
  intro k h1 h2
  show g_za_s3 _ _ _ _ _ _ _ _ _ _ _ _ _ _ _ _ _ _ _ _ _
  unfold g_za_s3
  by_cases hk : k < i
  ·rw [dec_t (show (k : Int) < (i : Int) by omega), cond_true]
   simp only [Int.toNat_natCast]
   refine ⟨⟨by omega, by omega⟩, ⟨by omega, by omega⟩, ?_⟩
   have e1 : l.getD i default = l[i] := by rw [List.getD_eq_getElem?_getD, List.getElem?_eq_getElem hi, Option.getD_some]
   have e2 : l.getD k default = l[k] := by rw [List.getD_eq_getElem?_getD, List.getElem?_eq_getElem (show k < l.length by omega), Option.getD_some]
   have hap : apart l[k] l[i] := List.pairwise_iff_getElem.1 hp k i (by omega) hi hk
   rw [e1, e2, ovl_apart (hs _ (List.getElem_mem _)) (hs _ (List.getElem_mem _)) hap.symm, cond_false, w64_succ hk (by omega)]
   exact ih (k + 1) (by omega) (by omega)
  ·have e : k = i := by omega
   subst e
   rw [dec_f (by omega), cond_false]
   exact hx
theorem ld2 (F : Nat) (x0 : D0) (x1 : D2) (ls : List Seg) (sum : Int) (nm mt : ByteArray) (g gr w h : Int) (cl us : List Rect) (a b c d : Int) (ps : List (List Rect)) (l : List Rect) (hl : l.length ≤ 1000000) (hs : ∀ r ∈ l, smallR r) (hp : l.Pairwise apart) (hF : 1000001 < F)
  (hx : ∀ i, x0 ls sum i nm mt g gr w h cl us a b c d ps l) : ∀ (n i : Nat), i ≤ l.length → l.length < n + i → w_za_2 F x0 x1 n ls sum i nm mt g gr w h cl us a b c d ps l := by
 intro n
 induction n with
 | zero => intro i h1 h2; omega
 | succ n ih =>
  intro i h1 h2
  show g_za_s2 _ _ _ _ _ _ _ _ _ _ _ _ _ _ _ _ _ _ _ _ _
  unfold g_za_s2
  by_cases hk : i < l.length ∧ l.length ≤ 120
  ·rw [dec_t (show (i : Int) < (l.length : Int) by omega), dec_t (show (l.length : Int) ≤ 120 by omega), Bool.and_self, cond_true]
   show w_za_3 F (fun t1 t6 t9 t13 t14 c3_0 c3_1 c3_2 c3_3 c3_4 c3_5 c3_6 c3_7 c5_0 c5_1 c5_2 c5_3 l131 l132 => g_za_c3_0 (w_za_2 F x0 x1 n) x0 x1 t1 t6 t9 t13 t14 c3_0 c3_1 c3_2 c3_3 c3_4 c3_5 c3_6 c3_7 c5_0 c5_1 c5_2 c5_3 l131 l132) (fun t1 t9 t13 t14 c3_0 c3_1 c3_2 c3_3 c3_4 c3_5 c3_6 c3_7 c5_0 c5_1 c5_2 c5_3 l131 l132 => g_za_c3_1 (w_za_2 F x0 x1 n) x0 x1 t1 t9 t13 t14 c3_0 c3_1 c3_2 c3_3 c3_4 c3_5 c3_6 c3_7 c5_0 c5_1 c5_2 c5_3 l131 l132) F ls sum i (0 : Nat) nm mt g gr w h cl us a b c d ps l
   refine ld3 F _ _ ls sum nm mt g gr w h cl us a b c d ps l hl hs hp i hk.1 ?_ F 0 (by omega) (by omega)
   show w_za_2 F x0 x1 n ls sum (w64 ((i : Int) + 1)) nm mt g gr w h cl us a b c d ps l
   rw [w64_succ hk.1 (by omega)]
   exact ih (i + 1) (by omega) (by omega)
  ·have : (decide ((i : Int) < (l.length : Int)) && decide ((l.length : Int) ≤ 120)) = false := by
    rw [Bool.eq_false_iff]
    intro q
    simp only [Bool.and_eq_true, decide_eq_true_eq] at q
    omega
   rw [this, cond_false]
   exact hx i
theorem asc_ends {l : List Int} (h : asc l) {a b : Int} (ha : a ∈ l) (hb : b ∈ l) (hl : ∀ x ∈ l, a ≤ x ∧ x ≤ b) : l.getD 0 default = a ∧ l.getD (l.length - 1) default = b := by
 obtain ⟨i, hi, hia⟩ := mem_getD ha
 obtain ⟨j, hj, hjb⟩ := mem_getD hb
 have m1 := h.mono (Nat.zero_le i) hi
 have m2 := h.mono (show j ≤ l.length - 1 by omega) (by omega)
 have m3 := hl _ (getD_mem1 (show 0 < l.length by omega))
 have m4 := hl _ (getD_mem1 (show l.length - 1 < l.length by omega))
 omega
theorem sep_ok {nm mt : ByteArray} {g gr w h : Int} {cl us : List Rect} {ls : List Seg} (hq : (sp_zh nm mt g gr w h cl us ls).2 = 0) :
  (sp_zh nm mt g gr w h cl us ls).1 = partsG w h ls ∧ (1 ≤ w ∧ w ≤ 1048576 ∧ 1 ≤ h ∧ h ≤ 1048576) ∧ (∀ s ∈ ls, segOK w h s) ∧ ls.length ≤ 200 := by
 unfold sp_zh at hq ⊢
 cases h1 : (sp_zc nm mt g gr w h cl us != 0) with
 | true =>
  rw [h1] at hq
  simp only [cond_true] at hq
  rw [hq] at h1
  cases h1
 | false =>
  have hz := sheet_size h1
  rw [h1] at hq
  simp only [cond_false] at hq ⊢
  by_cases h2 : 200 < (ls.length : Int)
  ·rw [dec_t h2] at hq
   cases hq
  rw [dec_f h2] at hq ⊢
  simp only [cond_false] at hq ⊢
  cases h3 : ls.all (linB nm mt g gr w h cl us) with
  | false =>
   rw [h3] at hq
   cases hq
  | true =>
   rw [h3] at hq
   simp only [Bool.not_true, cond_false] at hq ⊢
   by_cases h4 : 6000 < (((gxs w ls).length : Int) - 1) * (((gys h ls).length : Int) - 1)
   ·rw [dec_t h4] at hq
    cases hq
   ·rw [dec_f h4]
    exact ⟨rfl, hz, fun s hs => linB_iff.1 (List.all_eq_true.1 h3 s hs), by omega⟩
theorem gxs_ends {w h : Int} {ls : List Seg} (hw : 1 ≤ w) (hok : ∀ s ∈ ls, segOK w h s) : (∀ x ∈ gxs w ls, 0 ≤ x ∧ x ≤ w) ∧ (gxs w ls).getD 0 default = 0 ∧ (gxs w ls).getD ((gxs w ls).length - 1) default = w := by
 have hb : ∀ x ∈ gxs w ls, 0 ≤ x ∧ x ≤ w := fun x hx => by
  rcases gxs_mem.1 hx with e | e | ⟨s, hs, e⟩
  ·omega
  ·omega
  ·have := (hok s hs).1
   omega
 exact ⟨hb, asc_ends (gxs_asc w ls) (gxs_mem.2 (.inl rfl)) (gxs_mem.2 (.inr (.inl rfl))) hb⟩
theorem gys_ends {w h : Int} {ls : List Seg} (hw : 1 ≤ h) (hok : ∀ s ∈ ls, segOK w h s) : (∀ x ∈ gys h ls, 0 ≤ x ∧ x ≤ h) ∧ (gys h ls).getD 0 default = 0 ∧ (gys h ls).getD ((gys h ls).length - 1) default = h := by
 have hb : ∀ x ∈ gys h ls, 0 ≤ x ∧ x ≤ h := fun x hx => by
  rcases gys_mem.1 hx with e | e | ⟨s, hs, e⟩
  ·omega
  ·omega
  ·have := (hok s hs).1
   omega
 exact ⟨hb, asc_ends (gys_asc h ls) (gys_mem.2 (.inl rfl)) (gys_mem.2 (.inr (.inl rfl))) hb⟩
theorem fin_x {w h : Int} {ls ls' : List Seg} (hw : 1 ≤ w) (hok : ∀ s ∈ ls, segOK w h s) (hok' : ∀ s ∈ ls', segOK w h s) (hsub : ∀ s ∈ ls, s ∈ ls') : Fin1 (gxs w ls) (gxs w ls') ((gxs w ls).length - 1) ((gxs w ls').length - 1) where
 ax := gxs_asc w ls
 ax' := gxs_asc w ls'
 sub x hx := by
  rcases gxs_mem.1 hx with e | e | ⟨s, hs, e⟩
  ·exact gxs_mem.2 (.inl e)
  ·exact gxs_mem.2 (.inr (.inl e))
  ·exact gxs_mem.2 (.inr (.inr ⟨s, hsub s hs, e⟩))
 len := by have := gxs_pos w ls; omega
 len' := by have := gxs_pos w ls'; omega
 lo := by rw [(gxs_ends hw hok).2.1, (gxs_ends hw hok').2.1]
 hi := by rw [(gxs_ends hw hok).2.2, (gxs_ends hw hok').2.2]
theorem fin_y {w h : Int} {ls ls' : List Seg} (hw : 1 ≤ h) (hok : ∀ s ∈ ls, segOK w h s) (hok' : ∀ s ∈ ls', segOK w h s) (hsub : ∀ s ∈ ls, s ∈ ls') : Fin1 (gys h ls) (gys h ls') ((gys h ls).length - 1) ((gys h ls').length - 1) where
 ax := gys_asc h ls
 ax' := gys_asc h ls'
 sub x hx := by
  rcases gys_mem.1 hx with e | e | ⟨s, hs, e⟩
  ·exact gys_mem.2 (.inl e)
  ·exact gys_mem.2 (.inr (.inl e))
  ·exact gys_mem.2 (.inr (.inr ⟨s, hsub s hs, e⟩))
 len := by have := gys_pos h ls; omega
 len' := by have := gys_pos h ls'; omega
 lo := by rw [(gys_ends hw hok).2.1, (gys_ends hw hok').2.1]
 hi := by rw [(gys_ends hw hok).2.2, (gys_ends hw hok').2.2]
theorem parts_more {w h : Int} {ls ls' : List Seg} (hw : 1 ≤ w) (hh : 1 ≤ h) (hok : ∀ s ∈ ls, segOK w h s) (hok' : ∀ s ∈ ls', segOK w h s) (hsub : ∀ s ∈ ls, s ∈ ls') : (partsG w h ls).length ≤ (partsG w h ls').length :=
 parts_finer (fin_x hw hok hok' hsub) (fin_y hh hok hok' hsub) hsub fun s hs =>
  ⟨gxs_mem.2 (.inr (.inr ⟨s, hs, .inl rfl⟩)), gxs_mem.2 (.inr (.inr ⟨s, hs, .inr rfl⟩)), gys_mem.2 (.inr (.inr ⟨s, hs, .inl rfl⟩)), gys_mem.2 (.inr (.inr ⟨s, hs, .inr rfl⟩))⟩
theorem parts_perm (w h : Int) (ls : List Seg) : (partsG w h ls).flatten.Perm ((cellsOf ((gxs w ls).length - 1) ((gys h ls).length - 1)).map (rectG (gxs w ls) (gys h ls))) := by
 obtain ⟨L, hi⟩ := sepA_inv (nb := nbG (gxs w ls) (gys h ls) ls) nbs_sym (rectG (gxs w ls) (gys h ls)) (cellsOf ((gxs w ls).length - 1) ((gys h ls).length - 1))
 exact hi.perm
theorem parts_area {w h : Int} {ls : List Seg} (hw : 1 ≤ w) (hh : 1 ≤ h) (hok : ∀ s ∈ ls, segOK w h s) : areaS (partsG w h ls).flatten = w * h := by
 rw [areaS_perm (parts_perm w h ls), area_cells, (gxs_ends hw hok).2.1, (gxs_ends hw hok).2.2, (gys_ends hh hok).2.1, (gys_ends hh hok).2.2, Int.sub_zero, Int.sub_zero]
theorem parts_small {w h : Int} {ls : List Seg} (hw : 1 ≤ w ∧ w ≤ 1048576) (hh : 1 ≤ h ∧ h ≤ 1048576) (hok : ∀ s ∈ ls, segOK w h s) : ∀ r ∈ (partsG w h ls).flatten, smallR r := fun r hr => by
 obtain ⟨c, hc, rfl⟩ := List.mem_map.1 ((parts_perm w h ls).mem_iff.1 hr)
 obtain ⟨h1, h2⟩ := mem_cellsOf.1 hc
 have bx := (gxs_ends hw.1 hok).1
 have by_ := (gys_ends hh.1 hok).1
 have m1 := bx _ (getD_mem1 (show c.1 < (gxs w ls).length by omega))
 have m2 := bx _ (getD_mem1 (show c.1 + 1 < (gxs w ls).length by omega))
 have m3 := by_ _ (getD_mem1 (show c.2 < (gys h ls).length by omega))
 have m4 := by_ _ (getD_mem1 (show c.2 + 1 < (gys h ls).length by omega))
 have m5 := (gxs_asc w ls).get (show c.1 < c.1 + 1 by omega) (by omega)
 have m6 := (gys_asc h ls).get (show c.2 < c.2 + 1 by omega) (by omega)
 unfold smallR rectG
 simp only
 omega
theorem parts_apart (w h : Int) (ls : List Seg) : (partsG w h ls).flatten.Pairwise apart := by
 refine ((parts_perm w h ls).pairwise_iff (fun {x y} q => q.symm)).2 ?_
 exact rects_apart (gxs_asc w ls) (gys_asc h ls) (by have := gxs_pos w ls; omega) (by have := gys_pos h ls; omega)
theorem parts_count {w h : Int} {ls : List Seg} (hl : ls.length ≤ 200) : (partsG w h ls).flatten.length ≤ 200000 ∧ (partsG w h ls).length ≤ 200000 := by
 have gx := gxs_len w ls
 have gy := gys_len h ls
 have hm : ((gys h ls).length - 1) * ((gxs w ls).length - 1) ≤ 401 * 401 := Nat.mul_le_mul (by omega) (by omega)
 refine ⟨?_, ?_⟩
 ·rw [(parts_perm w h ls).length_eq, List.length_map, cellsOf_len]
  omega
 ·have := sepRun_len (nbG (gxs w ls) (gys h ls) ls) (rectG (gxs w ls) (gys h ls)) (cellsOf ((gxs w ls).length - 1) ((gys h ls).length - 1)) (fun _ => none, [])
  have h2 : (partsG w h ls).length ≤ 0 + (cellsOf ((gxs w ls).length - 1) ((gys h ls).length - 1)).length := this
  rw [cellsOf_len] at h2
  omega
theorem law_divides (nm mt : ByteArray) (g gr w h : Int) (cl us : List Rect) (ls : List Seg) (a b c d : Int) : w_za 1000002 nm mt g gr w h cl us ls a b c d fun r => r = true := by
 generalize hFq : 1000002 = F
 have hF : 1000001 < F := by omega
 clear hFq
 unfold w_za g_za_e
 by_cases h1 : 20 < (ls.length : Int)
 ·rw [dec_t h1]
  rfl
 rw [dec_f h1]
 simp only [cond_false]
 refine ⟨trivial, ?_⟩
 by_cases h2 : (sp_zh nm mt g gr w h cl us ls).2 = 0
 ·rw [show ((sp_zh nm mt g gr w h cl us ls).2 != 0) = false by rw [bne_eq_false_iff_eq]; exact h2, cond_false]
  obtain ⟨e1, ⟨w1, w2, w3, w4⟩, hok, hl⟩ := sep_ok h2
  rw [e1]
  obtain ⟨c1, c2⟩ := parts_count (w := w) (h := h) hl
  have hsm := parts_small ⟨w1, w2⟩ ⟨w3, w4⟩ hok
  have har := parts_area w1 w3 hok
  have hap := parts_apart w h ls
  have hmul : w * h ≤ 1048576 * 1048576 := Int.mul_le_mul w2 w4 (by omega) (by omega)
  have hmul0 : 0 ≤ w * h := Int.mul_nonneg (by omega) (by omega)
  show w_za_0 F (fun t1 t9 t11 c3_0 c3_1 c3_2 c3_3 c3_4 c3_5 c3_6 c3_7 c5_0 c5_1 c5_2 c5_3 l131 l132 => g_za_c0_0 (fun r => r = true) t1 t9 t11 c3_0 c3_1 c3_2 c3_3 c3_4 c3_5 c3_6 c3_7 c5_0 c5_1 c5_2 c5_3 l131 l132 (n_za_2 F (fun r => r = true))) F ls 0 (0 : Nat) nm mt g gr w h cl us a b c d (partsG w h ls) []
  refine ld0 F _ ls nm mt g gr w h cl us a b c d (partsG w h ls) hF (by omega) hsm F 0 0 [] (by omega) (by omega) (by omega) (by rw [List.drop_zero, har]; omega) (by rw [List.drop_zero]; simp only [List.length_nil]; omega) ?_
  rw [List.drop_zero, List.nil_append, Int.zero_add, har]
  show w_za_2 F (fun t1 t9 t13 c3_0 c3_1 c3_2 c3_3 c3_4 c3_5 c3_6 c3_7 c5_0 c5_1 c5_2 c5_3 l131 l132 => g_za_c2_0 (fun r => r = true) t1 t9 t13 c3_0 c3_1 c3_2 c3_3 c3_4 c3_5 c3_6 c3_7 c5_0 c5_1 c5_2 c5_3 l131 l132) (fun t1 t6 t9 t13 c3_0 c3_1 c3_2 c3_3 c3_4 c3_5 c3_6 c3_7 c5_0 c5_1 c5_2 c5_3 l131 l132 => g_za_c2_1 (fun r => r = true) t1 t6 t9 t13 c3_0 c3_1 c3_2 c3_3 c3_4 c3_5 c3_6 c3_7 c5_0 c5_1 c5_2 c5_3 l131 l132) F ls (w * h) (0 : Nat) nm mt g gr w h cl us a b c d (partsG w h ls) (partsG w h ls).flatten
  refine ld2 F _ _ ls (w * h) nm mt g gr w h cl us a b c d (partsG w h ls) (partsG w h ls).flatten (by omega) hsm hap hF (fun i => ?_) F 0 (by omega) (by omega)
  show g_za_c2_0 _ _ _ _ _ _ _ _ _ _ _ _ _ _ _ _ _ _
  unfold g_za_c2_0
  refine ⟨by simp only [List.length_nil]; omega, by simp only [List.nil_append, List.length_singleton]; omega, trivial, ?_⟩
  rw [List.nil_append, w64_of (by omega) (by omega)]
  have hlast : ((((sp_zh nm mt g gr w h cl us (ls ++ [Seg.mk a b c d])).2 != 0)) || (decide (((partsG w h ls).length : Int) ≤ ((sp_zh nm mt g gr w h cl us (ls ++ [Seg.mk a b c d])).1.length : Int)))) = true := by
   by_cases h3 : (sp_zh nm mt g gr w h cl us (ls ++ [Seg.mk a b c d])).2 = 0
   ·obtain ⟨e2, _, hok', _⟩ := sep_ok h3
    rw [e2, Bool.or_eq_true]
    refine .inr (decide_eq_true ?_)
    have := parts_more w1 w3 hok hok' (fun s hs => List.mem_append_left _ hs)
    omega
   ·rw [Bool.or_eq_true]
    exact .inl (bne_iff_ne.2 h3)
  rw [hlast, beq_self_eq_true]
  rfl
 ·rw [show ((sp_zh nm mt g gr w h cl us ls).2 != 0) = true by rw [bne_iff_ne]; exact h2]
  rfl
end
end Go.Proofs.YteffpgliiilnjaaGreatDoor
namespace Go.Proofs.YteffpgliiilnjaaGreatDoor
open Go.Vm Go.RowKit
set_option linter.unusedVariables false
set_option maxRecDepth 100000
noncomputable section
theorem entry_zah (F : Nat) (Post : AVal UU → Prop) (a0 a1 : Int) : exec C_lib Tryz.f132.ntmps M_zah F 0 (bo Tryz.f132) (initSt [.int .i64 a0, .int .i64 a1]) (AEnds C_lib false Tryz.f132 Post) = g_zah_e a0 a1 (fun r0 => Post (.bool r0)) := by kernel_rfl
theorem exec_zah (F : Nat) (Post : AVal UU → Prop) (a0 a1 : Int) : exec C_lib Tryz.f132.ntmps M_zah F 0 (bo Tryz.f132) (initSt [.int .i64 a0, .int .i64 a1]) (AEnds C_lib false Tryz.f132 Post) = w_zah F a0 a1 (fun r0 => Post (.bool r0)) := by
 rw [entry_zah]
 rfl
def m_zah : Model UU
 | [.int .i64 a0, .int .i64 a1] => some ([], .bool (sp_zah a0 a1))
 | _ => none
def C_zah : Cfg UU := C_lib.add 132 m_zah
theorem s_zah : SumOK C_zah := by
 refine s_lib.addD mixed (fn := Tryz.f132) (c := bo Tryz.f132) Tryz.func132 (by kernel_rfl) (by kernel_rfl) ?_
 intro xs cs r h hc
 unfold m_zah at h
 split at h
 ·rename_i a0 a1
  cases h
  obtain ⟨F, hF⟩ := ok_zah a0 a1
  refine ⟨by kernel_rfl, M_zah, F, false, ⟨?_⟩⟩
  rw [exec_zah]
  refine hF _ ?_
  rfl
 ·cases h
theorem entry_zaj (F : Nat) (Post : AVal UU → Prop) (a0 : Int) : exec C_zah Tryz.f143.ntmps M_zaj F 0 (bo Tryz.f143) (initSt [.int .i64 a0]) (AEnds C_zah false Tryz.f143 Post) = g_zaj_e a0 (fun r0 => Post (.bool r0)) := by kernel_rfl
theorem exec_zaj (F : Nat) (Post : AVal UU → Prop) (a0 : Int) : exec C_zah Tryz.f143.ntmps M_zaj F 0 (bo Tryz.f143) (initSt [.int .i64 a0]) (AEnds C_zah false Tryz.f143 Post) = w_zaj F a0 (fun r0 => Post (.bool r0)) := by
 rw [entry_zaj]
 rfl
def m_zaj : Model UU
 | [.int .i64 a0] => some ([], .bool (sp_zaj a0))
 | _ => none
def C_zaj : Cfg UU := C_zah.add 143 m_zaj
theorem s_zaj : SumOK C_zaj := by
 refine s_zah.addD mixed (fn := Tryz.f143) (c := bo Tryz.f143) Tryz.func143 (by kernel_rfl) (by kernel_rfl) ?_
 intro xs cs r h hc
 unfold m_zaj at h
 split at h
 ·rename_i a0
  cases h
  obtain ⟨F, hF⟩ := ok_zaj a0
  refine ⟨by kernel_rfl, M_zaj, F, false, ⟨?_⟩⟩
  rw [exec_zaj]
  refine hF _ ?_
  rfl
 ·cases h
theorem entry_zan (F : Nat) (Post : AVal UU → Prop) (a0 a1 a2 : Int) : exec C_zaj Tryz.f78.ntmps M_zan F 0 (bo Tryz.f78) (initSt [.int .i64 a0, .int .i64 a1, .int .i64 a2]) (AEnds C_zaj false Tryz.f78 Post) = g_zan_e a0 a1 a2 (fun r0 => Post (.bool r0)) := by kernel_rfl
theorem exec_zan (F : Nat) (Post : AVal UU → Prop) (a0 a1 a2 : Int) : exec C_zaj Tryz.f78.ntmps M_zan F 0 (bo Tryz.f78) (initSt [.int .i64 a0, .int .i64 a1, .int .i64 a2]) (AEnds C_zaj false Tryz.f78 Post) = w_zan F a0 a1 a2 (fun r0 => Post (.bool r0)) := by
 rw [entry_zan]
 rfl
def m_zan : Model UU
 | [.int .i64 a0, .int .i64 a1, .int .i64 a2] => some ([], .bool (sp_zan a0 a1 a2))
 | _ => none
def C_zan : Cfg UU := C_zaj.add 78 m_zan
theorem s_zan : SumOK C_zan := by
 refine s_zaj.addD mixed (fn := Tryz.f78) (c := bo Tryz.f78) Tryz.func78 (by kernel_rfl) (by kernel_rfl) ?_
 intro xs cs r h hc
 unfold m_zan at h
 split at h
 ·rename_i a0 a1 a2
  cases h
  obtain ⟨F, hF⟩ := ok_zan a0 a1 a2
  refine ⟨by kernel_rfl, M_zan, F, false, ⟨?_⟩⟩
  rw [exec_zan]
  refine hF _ ?_
  rfl
 ·cases h
theorem entry_zm (F : Nat) (Post : AVal UU → Prop) (qe qf : ByteArray) (qg qh qa qb : Int) (qc qd : List Rect) (a1 a2 : Int) : exec C_zan Tryz.f81.ntmps M_zm F 0 (bo Tryz.f81) (initSt [.agg [.str qe, .str qf, .int .i64 qg, .int .i64 qh, .int .i64 qa, .int .i64 qb, .sl .rect qc, .sl .rect qd], .int .i64 a1, .int .i64 a2]) (AEnds C_zan false Tryz.f81 Post) = g_zm_e qe qf qg qh qa qb qc qd a1 a2 (fun r0 => Post (.bool r0)) := by kernel_rfl
theorem exec_zm (F : Nat) (Post : AVal UU → Prop) (qe qf : ByteArray) (qg qh qa qb : Int) (qc qd : List Rect) (a1 a2 : Int) : exec C_zan Tryz.f81.ntmps M_zm F 0 (bo Tryz.f81) (initSt [.agg [.str qe, .str qf, .int .i64 qg, .int .i64 qh, .int .i64 qa, .int .i64 qb, .sl .rect qc, .sl .rect qd], .int .i64 a1, .int .i64 a2]) (AEnds C_zan false Tryz.f81 Post) = w_zm F qe qf qg qh qa qb qc qd a1 a2 (fun r0 => Post (.bool r0)) := by
 rw [entry_zm]
 rfl
def m_zm : Model UU
 | [.agg [.str qe, .str qf, .int .i64 qg, .int .i64 qh, .int .i64 qa, .int .i64 qb, .sl .rect qc, .sl .rect qd], .int .i64 a1, .int .i64 a2] => some ([], .bool (sp_zm qe qf qg qh qa qb qc qd a1 a2))
 | _ => none
def C_zm : Cfg UU := C_zan.add 81 m_zm
theorem s_zm : SumOK C_zm := by
 refine s_zan.addD mixed (fn := Tryz.f81) (c := bo Tryz.f81) Tryz.func81 (by kernel_rfl) (by kernel_rfl) ?_
 intro xs cs r h hc
 unfold m_zm at h
 split at h
 ·rename_i qe qf qg qh qa qb qc qd a1 a2
  cases h
  obtain ⟨F, hF⟩ := ok_zm qe qf qg qh qa qb qc qd a1 a2
  refine ⟨by kernel_rfl, M_zm, F, false, ⟨?_⟩⟩
  rw [exec_zm]
  refine hF _ ?_
  rfl
 ·cases h
theorem entry_zy (F : Nat) (Post : AVal UU → Prop) (a0 a1 a2 a3 : Int) : exec C_zm Tryz.f82.ntmps M_zy F 0 (bo Tryz.f82) (initSt [.int .i64 a0, .int .i64 a1, .int .i64 a2, .int .i64 a3]) (AEnds C_zm false Tryz.f82 Post) = g_zy_e a0 a1 a2 a3 (fun r0_X1 r0_Y1 r0_X2 r0_Y2 => Post (.agg [.int .i64 r0_X1, .int .i64 r0_Y1, .int .i64 r0_X2, .int .i64 r0_Y2])) := by kernel_rfl
theorem exec_zy (F : Nat) (Post : AVal UU → Prop) (a0 a1 a2 a3 : Int) : exec C_zm Tryz.f82.ntmps M_zy F 0 (bo Tryz.f82) (initSt [.int .i64 a0, .int .i64 a1, .int .i64 a2, .int .i64 a3]) (AEnds C_zm false Tryz.f82 Post) = w_zy F a0 a1 a2 a3 (fun r0_X1 r0_Y1 r0_X2 r0_Y2 => Post (.agg [.int .i64 r0_X1, .int .i64 r0_Y1, .int .i64 r0_X2, .int .i64 r0_Y2])) := by
 rw [entry_zy]
 rfl
def m_zy : Model UU
 | [.int .i64 a0, .int .i64 a1, .int .i64 a2, .int .i64 a3] => some ([], .agg [.int .i64 ((sp_zy a0 a1 a2 a3).1), .int .i64 ((sp_zy a0 a1 a2 a3).2.1), .int .i64 ((sp_zy a0 a1 a2 a3).2.2.1), .int .i64 ((sp_zy a0 a1 a2 a3).2.2.2)])
 | _ => none
def C_zy : Cfg UU := C_zm.add 82 m_zy
theorem s_zy : SumOK C_zy := by
 refine s_zm.addD mixed (fn := Tryz.f82) (c := bo Tryz.f82) Tryz.func82 (by kernel_rfl) (by kernel_rfl) ?_
 intro xs cs r h hc
 unfold m_zy at h
 split at h
 ·rename_i a0 a1 a2 a3
  cases h
  obtain ⟨F, hF⟩ := ok_zy a0 a1 a2 a3
  refine ⟨by kernel_rfl, M_zy, F, false, ⟨?_⟩⟩
  rw [exec_zy]
  refine hF _ ?_
  rfl
 ·cases h
theorem entry_zj (F : Nat) (Post : AVal UU → Prop) (qn qj qr qm a1_X a1_Y a1_W a1_H : Int) : exec C_zy Tryz.f85.ntmps M_zj F 0 (bo Tryz.f85) (initSt [.agg [.int .i64 qn, .int .i64 qj, .int .i64 qr, .int .i64 qm], .agg [.int .i64 a1_X, .int .i64 a1_Y, .int .i64 a1_W, .int .i64 a1_H]]) (AEnds C_zy false Tryz.f85 Post) = g_zj_e qn qj qr qm a1_X a1_Y a1_W a1_H (fun r0 => Post (.bool r0)) := by kernel_rfl
theorem exec_zj (F : Nat) (Post : AVal UU → Prop) (qn qj qr qm a1_X a1_Y a1_W a1_H : Int) : exec C_zy Tryz.f85.ntmps M_zj F 0 (bo Tryz.f85) (initSt [.agg [.int .i64 qn, .int .i64 qj, .int .i64 qr, .int .i64 qm], .agg [.int .i64 a1_X, .int .i64 a1_Y, .int .i64 a1_W, .int .i64 a1_H]]) (AEnds C_zy false Tryz.f85 Post) = w_zj F qn qj qr qm a1_X a1_Y a1_W a1_H (fun r0 => Post (.bool r0)) := by
 rw [entry_zj]
 rfl
def m_zj : Model UU
 | [.agg [.int .i64 qn, .int .i64 qj, .int .i64 qr, .int .i64 qm], .agg [.int .i64 a1_X, .int .i64 a1_Y, .int .i64 a1_W, .int .i64 a1_H]] => some ([], .bool (sp_zj qn qj qr qm a1_X a1_Y a1_W a1_H))
 | _ => none
def C_zj : Cfg UU := C_zy.add 85 m_zj
theorem s_zj : SumOK C_zj := by
 refine s_zy.addD mixed (fn := Tryz.f85) (c := bo Tryz.f85) Tryz.func85 (by kernel_rfl) (by kernel_rfl) ?_
 intro xs cs r h hc
 unfold m_zj at h
 split at h
 ·rename_i qn qj qr qm a1_X a1_Y a1_W a1_H
  cases h
  obtain ⟨F, hF⟩ := ok_zj qn qj qr qm a1_X a1_Y a1_W a1_H
  refine ⟨by kernel_rfl, M_zj, F, false, ⟨?_⟩⟩
  rw [exec_zj]
  refine hF _ ?_
  rfl
 ·cases h
theorem entry_zai (F : Nat) (Post : AVal UU → Prop) (qn qj qr qm ql qk qq qo : Int) : exec C_zj Tryz.f94.ntmps M_zai F 0 (bo Tryz.f94) (initSt [.agg [.int .i64 qn, .int .i64 qj, .int .i64 qr, .int .i64 qm], .agg [.int .i64 ql, .int .i64 qk, .int .i64 qq, .int .i64 qo]]) (AEnds C_zj false Tryz.f94 Post) = g_zai_e qn qj qr qm ql qk qq qo (fun r0 => Post (.bool r0)) := by kernel_rfl
theorem exec_zai (F : Nat) (Post : AVal UU → Prop) (qn qj qr qm ql qk qq qo : Int) : exec C_zj Tryz.f94.ntmps M_zai F 0 (bo Tryz.f94) (initSt [.agg [.int .i64 qn, .int .i64 qj, .int .i64 qr, .int .i64 qm], .agg [.int .i64 ql, .int .i64 qk, .int .i64 qq, .int .i64 qo]]) (AEnds C_zj false Tryz.f94 Post) = w_zai F qn qj qr qm ql qk qq qo (fun r0 => Post (.bool r0)) := by
 rw [entry_zai]
 rfl
def m_zai : Model UU
 | [.agg [.int .i64 qn, .int .i64 qj, .int .i64 qr, .int .i64 qm], .agg [.int .i64 ql, .int .i64 qk, .int .i64 qq, .int .i64 qo]] => some ([], .bool (sp_zai qn qj qr qm ql qk qq qo))
 | _ => none
def C_zai : Cfg UU := C_zj.add 94 m_zai
theorem s_zai : SumOK C_zai := by
 refine s_zj.addD mixed (fn := Tryz.f94) (c := bo Tryz.f94) Tryz.func94 (by kernel_rfl) (by kernel_rfl) ?_
 intro xs cs r h hc
 unfold m_zai at h
 split at h
 ·rename_i qn qj qr qm ql qk qq qo
  cases h
  obtain ⟨F, hF⟩ := ok_zai qn qj qr qm ql qk qq qo
  refine ⟨by kernel_rfl, M_zai, F, false, ⟨?_⟩⟩
  rw [exec_zai]
  refine hF _ ?_
  rfl
 ·cases h
theorem entry_zad (F : Nat) (Post : AVal UU → Prop) (qn qj qr qm ql qk qq qo : Int) : exec C_zai Tryz.f95.ntmps M_zad F 0 (bo Tryz.f95) (initSt [.agg [.int .i64 qn, .int .i64 qj, .int .i64 qr, .int .i64 qm], .agg [.int .i64 ql, .int .i64 qk, .int .i64 qq, .int .i64 qo]]) (AEnds C_zai false Tryz.f95 Post) = g_zad_e qn qj qr qm ql qk qq qo (fun r0 => Post (.bool r0)) := by kernel_rfl
theorem exec_zad (F : Nat) (Post : AVal UU → Prop) (qn qj qr qm ql qk qq qo : Int) : exec C_zai Tryz.f95.ntmps M_zad F 0 (bo Tryz.f95) (initSt [.agg [.int .i64 qn, .int .i64 qj, .int .i64 qr, .int .i64 qm], .agg [.int .i64 ql, .int .i64 qk, .int .i64 qq, .int .i64 qo]]) (AEnds C_zai false Tryz.f95 Post) = w_zad F qn qj qr qm ql qk qq qo (fun r0 => Post (.bool r0)) := by
 rw [entry_zad]
 rfl
def m_zad : Model UU
 | [.agg [.int .i64 qn, .int .i64 qj, .int .i64 qr, .int .i64 qm], .agg [.int .i64 ql, .int .i64 qk, .int .i64 qq, .int .i64 qo]] => some ([], .bool (sp_zad qn qj qr qm ql qk qq qo))
 | _ => none
def C_zad : Cfg UU := C_zai.add 95 m_zad
theorem s_zad : SumOK C_zad := by
 refine s_zai.addD mixed (fn := Tryz.f95) (c := bo Tryz.f95) Tryz.func95 (by kernel_rfl) (by kernel_rfl) ?_
 intro xs cs r h hc
 unfold m_zad at h
 split at h
 ·rename_i qn qj qr qm ql qk qq qo
  cases h
  obtain ⟨F, hF⟩ := ok_zad qn qj qr qm ql qk qq qo
  refine ⟨by kernel_rfl, M_zad, F, false, ⟨?_⟩⟩
  rw [exec_zad]
  refine hF _ ?_
  rfl
 ·cases h
theorem entry_zs (F : Nat) (Post : AVal UU → Prop) (qi a0_X a0_Y a0_W a0_H a0_N a1_X a1_Y : Int) : exec C_zad Tryz.f56.ntmps M_zs F 0 (bo Tryz.f56) (initSt [.agg [.int .i64 qi, .int .i64 a0_X, .int .i64 a0_Y, .int .i64 a0_W, .int .i64 a0_H, .int .i64 a0_N], .agg [.int .i64 a1_X, .int .i64 a1_Y]]) (AEnds C_zad false Tryz.f56 Post) = g_zs_e qi a0_X a0_Y a0_W a0_H a0_N a1_X a1_Y (fun r0_X r0_Y => Post (.agg [.int .i64 r0_X, .int .i64 r0_Y])) := by kernel_rfl
theorem exec_zs (F : Nat) (Post : AVal UU → Prop) (qi a0_X a0_Y a0_W a0_H a0_N a1_X a1_Y : Int) : exec C_zad Tryz.f56.ntmps M_zs F 0 (bo Tryz.f56) (initSt [.agg [.int .i64 qi, .int .i64 a0_X, .int .i64 a0_Y, .int .i64 a0_W, .int .i64 a0_H, .int .i64 a0_N], .agg [.int .i64 a1_X, .int .i64 a1_Y]]) (AEnds C_zad false Tryz.f56 Post) = w_zs F qi a0_X a0_Y a0_W a0_H a0_N a1_X a1_Y (fun r0_X r0_Y => Post (.agg [.int .i64 r0_X, .int .i64 r0_Y])) := by
 rw [entry_zs]
 rfl
def m_zs : Model UU
 | [.agg [.int .i64 qi, .int .i64 a0_X, .int .i64 a0_Y, .int .i64 a0_W, .int .i64 a0_H, .int .i64 a0_N], .agg [.int .i64 a1_X, .int .i64 a1_Y]] => some ([], .agg [.int .i64 ((sp_zs qi a0_X a0_Y a0_W a0_H a0_N a1_X a1_Y).1), .int .i64 ((sp_zs qi a0_X a0_Y a0_W a0_H a0_N a1_X a1_Y).2)])
 | _ => none
def C_zs : Cfg UU := C_zad.add 56 m_zs
theorem s_zs : SumOK C_zs := by
 refine s_zad.addD mixed (fn := Tryz.f56) (c := bo Tryz.f56) Tryz.func56 (by kernel_rfl) (by kernel_rfl) ?_
 intro xs cs r h hc
 unfold m_zs at h
 split at h
 ·rename_i qi a0_X a0_Y a0_W a0_H a0_N a1_X a1_Y
  cases h
  obtain ⟨F, hF⟩ := ok_zs qi a0_X a0_Y a0_W a0_H a0_N a1_X a1_Y
  refine ⟨by kernel_rfl, M_zs, F, false, ⟨?_⟩⟩
  rw [exec_zs]
  refine hF _ ?_
  rfl
 ·cases h
theorem entry_zr (F : Nat) (Post : AVal UU → Prop) (qi a0_X a0_Y a0_W a0_H a0_N : Int) : exec C_zs Tryz.f52.ntmps M_zr F 0 (bo Tryz.f52) (initSt [.agg [.int .i64 qi, .int .i64 a0_X, .int .i64 a0_Y, .int .i64 a0_W, .int .i64 a0_H, .int .i64 a0_N]]) (AEnds C_zs false Tryz.f52 Post) = g_zr_e qi a0_X a0_Y a0_W a0_H a0_N (fun r0 => Post (.bool r0)) := by kernel_rfl
theorem exec_zr (F : Nat) (Post : AVal UU → Prop) (qi a0_X a0_Y a0_W a0_H a0_N : Int) : exec C_zs Tryz.f52.ntmps M_zr F 0 (bo Tryz.f52) (initSt [.agg [.int .i64 qi, .int .i64 a0_X, .int .i64 a0_Y, .int .i64 a0_W, .int .i64 a0_H, .int .i64 a0_N]]) (AEnds C_zs false Tryz.f52 Post) = w_zr F qi a0_X a0_Y a0_W a0_H a0_N (fun r0 => Post (.bool r0)) := by
 rw [entry_zr]
 rfl
def m_zr : Model UU
 | [.agg [.int .i64 qi, .int .i64 a0_X, .int .i64 a0_Y, .int .i64 a0_W, .int .i64 a0_H, .int .i64 a0_N]] => some ([], .bool (sp_zr qi a0_X a0_Y a0_W a0_H a0_N))
 | _ => none
def C_zr : Cfg UU := C_zs.add 52 m_zr
theorem s_zr : SumOK C_zr := by
 refine s_zs.addD mixed (fn := Tryz.f52) (c := bo Tryz.f52) Tryz.func52 (by kernel_rfl) (by kernel_rfl) ?_
 intro xs cs r h hc
 unfold m_zr at h
 split at h
 ·rename_i qi a0_X a0_Y a0_W a0_H a0_N
  cases h
  obtain ⟨F, hF⟩ := ok_zr qi a0_X a0_Y a0_W a0_H a0_N
  refine ⟨by kernel_rfl, M_zr, F, false, ⟨?_⟩⟩
  rw [exec_zr]
  refine hF _ ?_
  rfl
 ·cases h
theorem entry_zg (F : Nat) (Post : AVal UU → Prop) (a0 a1 : Int) : exec C_zr Tryz.f131.ntmps M_zg F 0 (bo Tryz.f131) (initSt [.int .i64 a0, .int .i64 a1]) (AEnds C_zr false Tryz.f131 Post) = g_zg_e a0 a1 (fun r0 => Post (.bool r0)) := by kernel_rfl
theorem exec_zg (F : Nat) (Post : AVal UU → Prop) (a0 a1 : Int) : exec C_zr Tryz.f131.ntmps M_zg F 0 (bo Tryz.f131) (initSt [.int .i64 a0, .int .i64 a1]) (AEnds C_zr false Tryz.f131 Post) = w_zg F a0 a1 (fun r0 => Post (.bool r0)) := by
 rw [entry_zg]
 rfl
def m_zg : Model UU
 | [.int .i64 a0, .int .i64 a1] => some ([], .bool (sp_zg a0 a1))
 | _ => none
def C_zg : Cfg UU := C_zr.add 131 m_zg
theorem s_zg : SumOK C_zg := by
 refine s_zr.addD mixed (fn := Tryz.f131) (c := bo Tryz.f131) Tryz.func131 (by kernel_rfl) (by kernel_rfl) ?_
 intro xs cs r h hc
 unfold m_zg at h
 split at h
 ·rename_i a0 a1
  cases h
  obtain ⟨F, hF⟩ := ok_zg a0 a1
  refine ⟨by kernel_rfl, M_zg, F, false, ⟨?_⟩⟩
  rw [exec_zg]
  refine hF _ ?_
  rfl
 ·cases h
theorem entry_zq (F : Nat) (Post : AVal UU → Prop) (a0_X a0_Y a0_W a0_H : Int) : exec C_zg Tryz.f75.ntmps M_zq F 0 (bo Tryz.f75) (initSt [.agg [.int .i64 a0_X, .int .i64 a0_Y, .int .i64 a0_W, .int .i64 a0_H]]) (AEnds C_zg false Tryz.f75 Post) = g_zq_e a0_X a0_Y a0_W a0_H (fun r0 => Post (.bool r0)) := by kernel_rfl
theorem exec_zq (F : Nat) (Post : AVal UU → Prop) (a0_X a0_Y a0_W a0_H : Int) : exec C_zg Tryz.f75.ntmps M_zq F 0 (bo Tryz.f75) (initSt [.agg [.int .i64 a0_X, .int .i64 a0_Y, .int .i64 a0_W, .int .i64 a0_H]]) (AEnds C_zg false Tryz.f75 Post) = w_zq F a0_X a0_Y a0_W a0_H (fun r0 => Post (.bool r0)) := by
 rw [entry_zq]
 rfl
def m_zq : Model UU
 | [.agg [.int .i64 a0_X, .int .i64 a0_Y, .int .i64 a0_W, .int .i64 a0_H]] => some ([], .bool (sp_zq a0_X a0_Y a0_W a0_H))
 | _ => none
def C_zq : Cfg UU := C_zg.add 75 m_zq
theorem s_zq : SumOK C_zq := by
 refine s_zg.addD mixed (fn := Tryz.f75) (c := bo Tryz.f75) Tryz.func75 (by kernel_rfl) (by kernel_rfl) ?_
 intro xs cs r h hc
 unfold m_zq at h
 split at h
 ·rename_i a0_X a0_Y a0_W a0_H
  cases h
  obtain ⟨F, hF⟩ := ok_zq a0_X a0_Y a0_W a0_H
  refine ⟨by kernel_rfl, M_zq, F, false, ⟨?_⟩⟩
  rw [exec_zq]
  refine hF _ ?_
  rfl
 ·cases h
theorem entry_zac (F : Nat) (Post : AVal UU → Prop) (a0_X a0_Y a0_W a0_H a1_X a1_Y a1_W a1_H : Int) : exec C_zq Tryz.f46.ntmps M_zac F 0 (bo Tryz.f46) (initSt [.agg [.int .i64 a0_X, .int .i64 a0_Y, .int .i64 a0_W, .int .i64 a0_H], .agg [.int .i64 a1_X, .int .i64 a1_Y, .int .i64 a1_W, .int .i64 a1_H]]) (AEnds C_zq false Tryz.f46 Post) = g_zac_e a0_X a0_Y a0_W a0_H a1_X a1_Y a1_W a1_H (fun r0 => Post (.bool r0)) := by kernel_rfl
theorem exec_zac (F : Nat) (Post : AVal UU → Prop) (a0_X a0_Y a0_W a0_H a1_X a1_Y a1_W a1_H : Int) : exec C_zq Tryz.f46.ntmps M_zac F 0 (bo Tryz.f46) (initSt [.agg [.int .i64 a0_X, .int .i64 a0_Y, .int .i64 a0_W, .int .i64 a0_H], .agg [.int .i64 a1_X, .int .i64 a1_Y, .int .i64 a1_W, .int .i64 a1_H]]) (AEnds C_zq false Tryz.f46 Post) = w_zac F a0_X a0_Y a0_W a0_H a1_X a1_Y a1_W a1_H (fun r0 => Post (.bool r0)) := by
 rw [entry_zac]
 rfl
def m_zac : Model UU
 | [.agg [.int .i64 a0_X, .int .i64 a0_Y, .int .i64 a0_W, .int .i64 a0_H], .agg [.int .i64 a1_X, .int .i64 a1_Y, .int .i64 a1_W, .int .i64 a1_H]] => some ([], .bool (sp_zac a0_X a0_Y a0_W a0_H a1_X a1_Y a1_W a1_H))
 | _ => none
def C_zac : Cfg UU := C_zq.add 46 m_zac
theorem s_zac : SumOK C_zac := by
 refine s_zq.addD mixed (fn := Tryz.f46) (c := bo Tryz.f46) Tryz.func46 (by kernel_rfl) (by kernel_rfl) ?_
 intro xs cs r h hc
 unfold m_zac at h
 split at h
 ·rename_i a0_X a0_Y a0_W a0_H a1_X a1_Y a1_W a1_H
  cases h
  obtain ⟨F, hF⟩ := ok_zac a0_X a0_Y a0_W a0_H a1_X a1_Y a1_W a1_H
  refine ⟨by kernel_rfl, M_zac, F, false, ⟨?_⟩⟩
  rw [exec_zac]
  refine hF _ ?_
  rfl
 ·cases h
theorem entry_zal (F : Nat) (Post : AVal UU → Prop) (a0 a1 : Int) : exec C_zac Tryz.f77.ntmps M_zal F 0 (bo Tryz.f77) (initSt [.int .i64 a0, .int .i64 a1]) (AEnds C_zac false Tryz.f77 Post) = g_zal_e a0 a1 (fun r0 => Post (.bool r0)) := by kernel_rfl
theorem exec_zal (F : Nat) (Post : AVal UU → Prop) (a0 a1 : Int) : exec C_zac Tryz.f77.ntmps M_zal F 0 (bo Tryz.f77) (initSt [.int .i64 a0, .int .i64 a1]) (AEnds C_zac false Tryz.f77 Post) = w_zal F a0 a1 (fun r0 => Post (.bool r0)) := by
 rw [entry_zal]
 rfl
def m_zal : Model UU
 | [.int .i64 a0, .int .i64 a1] => some ([], .bool (sp_zal a0 a1))
 | _ => none
def C_zal : Cfg UU := C_zac.add 77 m_zal
theorem s_zal : SumOK C_zal := by
 refine s_zac.addD mixed (fn := Tryz.f77) (c := bo Tryz.f77) Tryz.func77 (by kernel_rfl) (by kernel_rfl) ?_
 intro xs cs r h hc
 unfold m_zal at h
 split at h
 ·rename_i a0 a1
  cases h
  obtain ⟨F, hF⟩ := ok_zal a0 a1
  refine ⟨by kernel_rfl, M_zal, F, false, ⟨?_⟩⟩
  rw [exec_zal]
  refine hF _ ?_
  rfl
 ·cases h
theorem entry_zam (F : Nat) (Post : AVal UU → Prop) (qe qf : ByteArray) (qg qh qa qb : Int) (qc qd : List Rect) (a1 : Int) : exec C_zal Tryz.f80.ntmps M_zam F 0 (bo Tryz.f80) (initSt [.agg [.str qe, .str qf, .int .i64 qg, .int .i64 qh, .int .i64 qa, .int .i64 qb, .sl .rect qc, .sl .rect qd], .int .i64 a1]) (AEnds C_zal false Tryz.f80 Post) = g_zam_e qe qf qg qh qa qb qc qd a1 (fun r0_X r0_Y r0_W r0_H r1 => Post (.tup [.agg [.int .i64 r0_X, .int .i64 r0_Y, .int .i64 r0_W, .int .i64 r0_H], .bool r1])) := by kernel_rfl
theorem exec_zam (F : Nat) (Post : AVal UU → Prop) (qe qf : ByteArray) (qg qh qa qb : Int) (qc qd : List Rect) (a1 : Int) : exec C_zal Tryz.f80.ntmps M_zam F 0 (bo Tryz.f80) (initSt [.agg [.str qe, .str qf, .int .i64 qg, .int .i64 qh, .int .i64 qa, .int .i64 qb, .sl .rect qc, .sl .rect qd], .int .i64 a1]) (AEnds C_zal false Tryz.f80 Post) = w_zam F qe qf qg qh qa qb qc qd a1 (fun r0_X r0_Y r0_W r0_H r1 => Post (.tup [.agg [.int .i64 r0_X, .int .i64 r0_Y, .int .i64 r0_W, .int .i64 r0_H], .bool r1])) := by
 rw [entry_zam]
 rfl
def m_zam : Model UU
 | [.agg [.str qe, .str qf, .int .i64 qg, .int .i64 qh, .int .i64 qa, .int .i64 qb, .sl .rect qc, .sl .rect qd], .int .i64 a1] => some ([], .tup [.agg [.int .i64 ((sp_zam qe qf qg qh qa qb qc qd a1).1), .int .i64 ((sp_zam qe qf qg qh qa qb qc qd a1).2.1), .int .i64 ((sp_zam qe qf qg qh qa qb qc qd a1).2.2.1), .int .i64 ((sp_zam qe qf qg qh qa qb qc qd a1).2.2.2.1)], .bool ((sp_zam qe qf qg qh qa qb qc qd a1).2.2.2.2)])
 | _ => none
def C_zam : Cfg UU := C_zal.add 80 m_zam
theorem s_zam : SumOK C_zam := by
 refine s_zal.addD mixed (fn := Tryz.f80) (c := bo Tryz.f80) Tryz.func80 (by kernel_rfl) (by kernel_rfl) ?_
 intro xs cs r h hc
 unfold m_zam at h
 split at h
 ·rename_i qe qf qg qh qa qb qc qd a1
  cases h
  obtain ⟨F, hF⟩ := ok_zam qe qf qg qh qa qb qc qd a1
  refine ⟨by kernel_rfl, M_zam, F, false, ⟨?_⟩⟩
  rw [exec_zam]
  refine hF _ ?_
  rfl
 ·cases h
theorem entry_zae (F : Nat) (Post : AVal UU → Prop) (a0_X a0_Y a0_W a0_H : Int) : exec C_zam Tryz.f93.ntmps M_zae F 0 (bo Tryz.f93) (initSt [.agg [.int .i64 a0_X, .int .i64 a0_Y, .int .i64 a0_W, .int .i64 a0_H]]) (AEnds C_zam false Tryz.f93 Post) = g_zae_e a0_X a0_Y a0_W a0_H (fun r0 => Post (.bool r0)) := by kernel_rfl
theorem exec_zae (F : Nat) (Post : AVal UU → Prop) (a0_X a0_Y a0_W a0_H : Int) : exec C_zam Tryz.f93.ntmps M_zae F 0 (bo Tryz.f93) (initSt [.agg [.int .i64 a0_X, .int .i64 a0_Y, .int .i64 a0_W, .int .i64 a0_H]]) (AEnds C_zam false Tryz.f93 Post) = w_zae F a0_X a0_Y a0_W a0_H (fun r0 => Post (.bool r0)) := by
 rw [entry_zae]
 rfl
def m_zae : Model UU
 | [.agg [.int .i64 a0_X, .int .i64 a0_Y, .int .i64 a0_W, .int .i64 a0_H]] => some ([], .bool (sp_zae a0_X a0_Y a0_W a0_H))
 | _ => none
def C_zae : Cfg UU := C_zam.add 93 m_zae
theorem s_zae : SumOK C_zae := by
 refine s_zam.addD mixed (fn := Tryz.f93) (c := bo Tryz.f93) Tryz.func93 (by kernel_rfl) (by kernel_rfl) ?_
 intro xs cs r h hc
 unfold m_zae at h
 split at h
 ·rename_i a0_X a0_Y a0_W a0_H
  cases h
  obtain ⟨F, hF⟩ := ok_zae a0_X a0_Y a0_W a0_H
  refine ⟨by kernel_rfl, M_zae, F, false, ⟨?_⟩⟩
  rw [exec_zae]
  refine hF _ ?_
  rfl
 ·cases h
theorem entry_zaa (F : Nat) (Post : AVal UU → Prop) (a0_X a0_Y a0_W a0_H a1_X a1_Y a1_W a1_H : Int) : exec C_zae Tryz.f35.ntmps M_zaa F 0 (bo Tryz.f35) (initSt [.agg [.int .i64 a0_X, .int .i64 a0_Y, .int .i64 a0_W, .int .i64 a0_H], .agg [.int .i64 a1_X, .int .i64 a1_Y, .int .i64 a1_W, .int .i64 a1_H]]) (AEnds C_zae false Tryz.f35 Post) = g_zaa_e a0_X a0_Y a0_W a0_H a1_X a1_Y a1_W a1_H (fun r0 => Post (.bool r0)) := by kernel_rfl
theorem exec_zaa (F : Nat) (Post : AVal UU → Prop) (a0_X a0_Y a0_W a0_H a1_X a1_Y a1_W a1_H : Int) : exec C_zae Tryz.f35.ntmps M_zaa F 0 (bo Tryz.f35) (initSt [.agg [.int .i64 a0_X, .int .i64 a0_Y, .int .i64 a0_W, .int .i64 a0_H], .agg [.int .i64 a1_X, .int .i64 a1_Y, .int .i64 a1_W, .int .i64 a1_H]]) (AEnds C_zae false Tryz.f35 Post) = w_zaa F a0_X a0_Y a0_W a0_H a1_X a1_Y a1_W a1_H (fun r0 => Post (.bool r0)) := by
 rw [entry_zaa]
 rfl
def m_zaa : Model UU
 | [.agg [.int .i64 a0_X, .int .i64 a0_Y, .int .i64 a0_W, .int .i64 a0_H], .agg [.int .i64 a1_X, .int .i64 a1_Y, .int .i64 a1_W, .int .i64 a1_H]] => some ([], .bool (sp_zaa a0_X a0_Y a0_W a0_H a1_X a1_Y a1_W a1_H))
 | _ => none
def C_zaa : Cfg UU := C_zae.add 35 m_zaa
theorem s_zaa : SumOK C_zaa := by
 refine s_zae.addD mixed (fn := Tryz.f35) (c := bo Tryz.f35) Tryz.func35 (by kernel_rfl) (by kernel_rfl) ?_
 intro xs cs r h hc
 unfold m_zaa at h
 split at h
 ·rename_i a0_X a0_Y a0_W a0_H a1_X a1_Y a1_W a1_H
  cases h
  obtain ⟨F, hF⟩ := ok_zaa a0_X a0_Y a0_W a0_H a1_X a1_Y a1_W a1_H
  refine ⟨by kernel_rfl, M_zaa, F, false, ⟨?_⟩⟩
  rw [exec_zaa]
  refine hF _ ?_
  rfl
 ·cases h
end
end Go.Proofs.YteffpgliiilnjaaGreatDoor
namespace Go.Proofs.YteffpgliiilnjaaGreatDoor
open Go.Vm Go.RowKit
set_option linter.unusedVariables false
set_option maxRecDepth 100000
noncomputable section
def b_zak_0 (F n r : Nat) (S : ASt UU) (K : AEx → ASt UU → Prop) : Prop := iter (execG (inliner M_zak F 0 C_zaa) C_zaa Tryz.f79.ntmps M_zak F 0 (cL (cB (cS (cF (cS (bo Tryz.f79))))))) (M_zak 0 0) n r S K
def k_zak_0 (F : Nat) (Post : AVal UU → Prop) : AEx → ASt UU → Prop := kBlock 0 (kSeq (inliner M_zak F 0 C_zaa) C_zaa Tryz.f79.ntmps M_zak F 0 (cS (cS (bo Tryz.f79))) (AEnds C_zaa false Tryz.f79 Post))
theorem step_zak_0 (F n r : Nat) (K : AEx → ASt UU → Prop) (t2 : Bool) (t5 : List Rect) (t6 t7 : Int) : b_zak_0 F (n + 1) r (st_zak_0 t2 t5 t6 t7) K = g_zak_s0 (fun t2 t5 t6 t7 => b_zak_0 F n (r + 1) (st_zak_0 t2 t5 t6 t7) K) (fun t2 t5 t6 t7 => K .ret (st_zak_0 t2 t5 t6 t7)) (fun t2 t5 t6 t7 => K (.exit 0) (st_zak_0 t2 t5 t6 t7)) t2 t5 t6 t7 := by kernel_rfl
theorem cont_zak_0_0 (F : Nat) (Post : AVal UU → Prop) (t2 : Bool) (t5 : List Rect) (t6 t7 : Int) : k_zak_0 F Post .ret (st_zak_0 t2 t5 t6 t7) = g_zak_c0_0 (fun r0 => Post (.bool r0)) t2 t5 t6 t7 := by kernel_rfl
theorem cont_zak_0_1 (F : Nat) (Post : AVal UU → Prop) (t2 : Bool) (t5 : List Rect) (t6 t7 : Int) : k_zak_0 F Post (.exit 0) (st_zak_0 t2 t5 t6 t7) = g_zak_c0_1 (fun r0 => Post (.bool r0)) t2 t5 t6 t7 := by kernel_rfl
theorem entry_zak (F : Nat) (Post : AVal UU → Prop) (a0 : List Rect) : exec C_zaa Tryz.f79.ntmps M_zak F 0 (bo Tryz.f79) (initSt [.sl .rect a0]) (AEnds C_zaa false Tryz.f79 Post) = g_zak_e a0 (fun r0 => Post (.bool r0)) (fun t2 t5 t6 t7 => b_zak_0 F F 0 (st_zak_0 t2 t5 t6 t7) (k_zak_0 F Post)) := by kernel_rfl
theorem loop_zak_0 (F : Nat) (K : AEx → ASt UU → Prop) : ∀ (n r : Nat) (t2 : Bool) (t5 : List Rect) (t6 t7 : Int), b_zak_0 F n r (st_zak_0 t2 t5 t6 t7) K = w_zak_0 F  (fun t2 t5 t6 t7 => K .ret (st_zak_0 t2 t5 t6 t7)) (fun t2 t5 t6 t7 => K (.exit 0) (st_zak_0 t2 t5 t6 t7)) n t2 t5 t6 t7 := by
 intro n
 induction n with
 | zero => intros; rfl
 | succ n ih =>
  intro r t2 t5 t6 t7
  have e : (fun t2 t5 t6 t7 => b_zak_0 F n (r + 1) (st_zak_0 t2 t5 t6 t7) K) = w_zak_0 F  (fun t2 t5 t6 t7 => K .ret (st_zak_0 t2 t5 t6 t7)) (fun t2 t5 t6 t7 => K (.exit 0) (st_zak_0 t2 t5 t6 t7)) n := by
   funext t2 t5 t6 t7
   exact ih (r + 1) t2 t5 t6 t7
  rw [step_zak_0, e]
  rfl
theorem nl_zak_0 (F : Nat) (Post : AVal UU → Prop) (t2 : Bool) (t5 : List Rect) (t6 t7 : Int) : b_zak_0 F F 0 (st_zak_0 t2 t5 t6 t7) (k_zak_0 F Post) = n_zak_0 F (fun r0 => Post (.bool r0)) t2 t5 t6 t7 := by
 rw [loop_zak_0]
 have h0 : (fun t2 t5 t6 t7 => k_zak_0 F Post .ret (st_zak_0 t2 t5 t6 t7)) = (fun t2 t5 t6 t7 => g_zak_c0_0 (fun r0 => Post (.bool r0)) t2 t5 t6 t7) := by
  funext t2 t5 t6 t7
  rw [cont_zak_0_0]
 have h1 : (fun t2 t5 t6 t7 => k_zak_0 F Post (.exit 0) (st_zak_0 t2 t5 t6 t7)) = (fun t2 t5 t6 t7 => g_zak_c0_1 (fun r0 => Post (.bool r0)) t2 t5 t6 t7) := by
  funext t2 t5 t6 t7
  rw [cont_zak_0_1]
 rw [h0, h1]
 rfl
theorem exec_zak (F : Nat) (Post : AVal UU → Prop) (a0 : List Rect) : exec C_zaa Tryz.f79.ntmps M_zak F 0 (bo Tryz.f79) (initSt [.sl .rect a0]) (AEnds C_zaa false Tryz.f79 Post) = w_zak F a0 (fun r0 => Post (.bool r0)) := by
 rw [entry_zak]
 have e0 : (fun t2 t5 t6 t7 => b_zak_0 F F 0 (st_zak_0 t2 t5 t6 t7) (k_zak_0 F Post)) = (n_zak_0 F (fun r0 => Post (.bool r0))) := by
  funext t2 t5 t6 t7
  exact nl_zak_0 F Post t2 t5 t6 t7
 rw [e0]
 rfl
def m_zak : Model UU
 | [.sl .rect a0] => some ([pre_zak a0], .bool (sp_zak a0))
 | _ => none
def C_zak : Cfg UU := C_zaa.add 79 m_zak
theorem s_zak : SumOK C_zak := by
 refine s_zaa.addD mixed (fn := Tryz.f79) (c := bo Tryz.f79) Tryz.func79 (by kernel_rfl) (by kernel_rfl) ?_
 intro xs cs r h hc
 unfold m_zak at h
 split at h
 ·rename_i a0
  cases h
  obtain ⟨F, hF⟩ := ok_zak a0 hc
  refine ⟨by kernel_rfl, M_zak, F, false, ⟨?_⟩⟩
  rw [exec_zak]
  refine hF _ ?_
  rfl
 ·cases h
end
end Go.Proofs.YteffpgliiilnjaaGreatDoor
namespace Go.Proofs.YteffpgliiilnjaaGreatDoor
open Go.Vm Go.RowKit
set_option linter.unusedVariables false
set_option maxRecDepth 100000
noncomputable section
def b_zc_0 (F n r : Nat) (S : ASt UU) (K : AEx → ASt UU → Prop) : Prop := iter (execG (inliner M_zc F 0 C_zak) C_zak Tryz.f29.ntmps M_zc F 1 (cL (cB (cS (cF (cS (cS (cS (bo Tryz.f29))))))))) (M_zc 0 1) n r S K
def b_zc_1 (F n r : Nat) (S : ASt UU) (K : AEx → ASt UU → Prop) : Prop := iter (execG (inliner M_zc F 0 C_zak) C_zak Tryz.f29.ntmps M_zc F 3 (cL (cB (cS (cS (cB (cF (cS (cS (cL (cB (cS (cF (cS (cS (cS (bo Tryz.f29))))))))))))))))) (M_zc 0 3) n r S K
def k_zc_0 (F : Nat) (Post : AVal UU → Prop) : AEx → ASt UU → Prop := kBlock 1 (kSeq (inliner M_zc F 0 C_zak) C_zak Tryz.f29.ntmps M_zc F 0 (cS (cS (cS (cS (bo Tryz.f29))))) (AEnds C_zak false Tryz.f29 Post))
def k_zc_1 (F n r : Nat) (K : AEx → ASt UU → Prop) : AEx → ASt UU → Prop := kBlock 3 (kBlock 2 (kSeq (inliner M_zc F 0 C_zak) C_zak Tryz.f29.ntmps M_zc F 1 (cS (cS (cS (cL (cB (cS (cF (cS (cS (cS (bo Tryz.f29))))))))))) (kIter (execG (inliner M_zc F 0 C_zak) C_zak Tryz.f29.ntmps M_zc F 1 (cL (cB (cS (cF (cS (cS (cS (bo Tryz.f29))))))))) (M_zc 0 1) n r K)))
theorem step_zc_0 (F n r : Nat) (K : AEx → ASt UU → Prop) (t2 : Int) (t70 : List (List Rect)) (t71 t72 c3_0 c3_1 c3_2 c3_3 : Int) : b_zc_0 F (n + 1) r (st_zc_0 t2 t70 t71 t72 c3_0 c3_1 c3_2 c3_3) K = g_zc_s0 (fun t2 t70 t71 t72 c3_0 c3_1 c3_2 c3_3 => b_zc_0 F n (r + 1) (st_zc_0 t2 t70 t71 t72 c3_0 c3_1 c3_2 c3_3) K) (fun t2 t70 t71 t72 c3_0 c3_1 c3_2 c3_3 => K (.exit 1) (st_zc_0 t2 t70 t71 t72 c3_0 c3_1 c3_2 c3_3)) (fun t2 t70 t71 t72 c3_0 c3_1 c3_2 c3_3 => K .ret (st_zc_0 t2 t70 t71 t72 c3_0 c3_1 c3_2 c3_3)) t2 t70 t71 t72 c3_0 c3_1 c3_2 c3_3 (fun t2 t70 t71 t72 t76 t77 t78 c3_0 c3_1 c3_2 c3_3 => b_zc_1 F F 0 (st_zc_1 t2 t70 t71 t72 t76 t77 t78 c3_0 c3_1 c3_2 c3_3) (k_zc_1 F n r K)) := by kernel_rfl
theorem cont_zc_0_0 (F : Nat) (Post : AVal UU → Prop) (t2 : Int) (t70 : List (List Rect)) (t71 t72 c3_0 c3_1 c3_2 c3_3 : Int) : k_zc_0 F Post (.exit 1) (st_zc_0 t2 t70 t71 t72 c3_0 c3_1 c3_2 c3_3) = g_zc_c0_0 (fun r0 => Post (.int .i64 r0)) t2 t70 t71 t72 c3_0 c3_1 c3_2 c3_3 := by kernel_rfl
theorem cont_zc_0_1 (F : Nat) (Post : AVal UU → Prop) (t2 : Int) (t70 : List (List Rect)) (t71 t72 c3_0 c3_1 c3_2 c3_3 : Int) : k_zc_0 F Post .ret (st_zc_0 t2 t70 t71 t72 c3_0 c3_1 c3_2 c3_3) = g_zc_c0_1 (fun r0 => Post (.int .i64 r0)) t2 t70 t71 t72 c3_0 c3_1 c3_2 c3_3 := by kernel_rfl
theorem step_zc_1 (F n r : Nat) (K : AEx → ASt UU → Prop) (t2 : Int) (t70 : List (List Rect)) (t71 t72 : Int) (t76 : List Rect) (t77 t78 c3_0 c3_1 c3_2 c3_3 : Int) : b_zc_1 F (n + 1) r (st_zc_1 t2 t70 t71 t72 t76 t77 t78 c3_0 c3_1 c3_2 c3_3) K = g_zc_s1 (fun t2 t70 t71 t72 t76 t77 t78 c3_0 c3_1 c3_2 c3_3 => b_zc_1 F n (r + 1) (st_zc_1 t2 t70 t71 t72 t76 t77 t78 c3_0 c3_1 c3_2 c3_3) K) (fun t2 t70 t71 t72 t76 t77 t78 c3_0 c3_1 c3_2 c3_3 => K .ret (st_zc_1 t2 t70 t71 t72 t76 t77 t78 c3_0 c3_1 c3_2 c3_3)) (fun t2 t70 t71 t72 t76 t77 t78 c3_0 c3_1 c3_2 c3_3 => K (.exit 3) (st_zc_1 t2 t70 t71 t72 t76 t77 t78 c3_0 c3_1 c3_2 c3_3)) t2 t70 t71 t72 t76 t77 t78 c3_0 c3_1 c3_2 c3_3 := by kernel_rfl
theorem cont_zc_1_0 (F n r : Nat) (K : AEx → ASt UU → Prop) (t2 : Int) (t70 : List (List Rect)) (t71 t72 : Int) (t76 : List Rect) (t77 t78 c3_0 c3_1 c3_2 c3_3 : Int) : k_zc_1 F n r K .ret (st_zc_1 t2 t70 t71 t72 t76 t77 t78 c3_0 c3_1 c3_2 c3_3) = g_zc_c1_0 (fun t2 t70 t71 t72 c3_0 c3_1 c3_2 c3_3 => b_zc_0 F n (r + 1) (st_zc_0 t2 t70 t71 t72 c3_0 c3_1 c3_2 c3_3) K) (fun t2 t70 t71 t72 c3_0 c3_1 c3_2 c3_3 => K (.exit 1) (st_zc_0 t2 t70 t71 t72 c3_0 c3_1 c3_2 c3_3)) (fun t2 t70 t71 t72 c3_0 c3_1 c3_2 c3_3 => K .ret (st_zc_0 t2 t70 t71 t72 c3_0 c3_1 c3_2 c3_3)) t2 t70 t71 t72 t76 t77 t78 c3_0 c3_1 c3_2 c3_3 := by kernel_rfl
theorem cont_zc_1_1 (F n r : Nat) (K : AEx → ASt UU → Prop) (t2 : Int) (t70 : List (List Rect)) (t71 t72 : Int) (t76 : List Rect) (t77 t78 c3_0 c3_1 c3_2 c3_3 : Int) : k_zc_1 F n r K (.exit 3) (st_zc_1 t2 t70 t71 t72 t76 t77 t78 c3_0 c3_1 c3_2 c3_3) = g_zc_c1_1 (fun t2 t70 t71 t72 c3_0 c3_1 c3_2 c3_3 => b_zc_0 F n (r + 1) (st_zc_0 t2 t70 t71 t72 c3_0 c3_1 c3_2 c3_3) K) (fun t2 t70 t71 t72 c3_0 c3_1 c3_2 c3_3 => K (.exit 1) (st_zc_0 t2 t70 t71 t72 c3_0 c3_1 c3_2 c3_3)) (fun t2 t70 t71 t72 c3_0 c3_1 c3_2 c3_3 => K .ret (st_zc_0 t2 t70 t71 t72 c3_0 c3_1 c3_2 c3_3)) t2 t70 t71 t72 t76 t77 t78 c3_0 c3_1 c3_2 c3_3 := by kernel_rfl
theorem entry_zc (F : Nat) (Post : AVal UU → Prop) (qe qf : ByteArray) (qg qh qa qb : Int) (qc qd : List Rect) : exec C_zak Tryz.f29.ntmps M_zc F 0 (bo Tryz.f29) (initSt [.agg [.str qe, .str qf, .int .i64 qg, .int .i64 qh, .int .i64 qa, .int .i64 qb, .sl .rect qc, .sl .rect qd]]) (AEnds C_zak false Tryz.f29 Post) = g_zc_e qe qf qg qh qa qb qc qd (fun r0 => Post (.int .i64 r0)) (fun t2 t70 t71 t72 c3_0 c3_1 c3_2 c3_3 => b_zc_0 F F 0 (st_zc_0 t2 t70 t71 t72 c3_0 c3_1 c3_2 c3_3) (k_zc_0 F Post)) := by kernel_rfl
theorem loop_zc_1 (F : Nat) (K : AEx → ASt UU → Prop) : ∀ (n r : Nat) (t2 : Int) (t70 : List (List Rect)) (t71 t72 : Int) (t76 : List Rect) (t77 t78 c3_0 c3_1 c3_2 c3_3 : Int), b_zc_1 F n r (st_zc_1 t2 t70 t71 t72 t76 t77 t78 c3_0 c3_1 c3_2 c3_3) K = w_zc_1 F  (fun t2 t70 t71 t72 t76 t77 t78 c3_0 c3_1 c3_2 c3_3 => K .ret (st_zc_1 t2 t70 t71 t72 t76 t77 t78 c3_0 c3_1 c3_2 c3_3)) (fun t2 t70 t71 t72 t76 t77 t78 c3_0 c3_1 c3_2 c3_3 => K (.exit 3) (st_zc_1 t2 t70 t71 t72 t76 t77 t78 c3_0 c3_1 c3_2 c3_3)) n t2 t70 t71 t72 t76 t77 t78 c3_0 c3_1 c3_2 c3_3 := by
 intro n
 induction n with
 | zero => intros; rfl
 | succ n ih =>
  intro r t2 t70 t71 t72 t76 t77 t78 c3_0 c3_1 c3_2 c3_3
  have e : (fun t2 t70 t71 t72 t76 t77 t78 c3_0 c3_1 c3_2 c3_3 => b_zc_1 F n (r + 1) (st_zc_1 t2 t70 t71 t72 t76 t77 t78 c3_0 c3_1 c3_2 c3_3) K) = w_zc_1 F  (fun t2 t70 t71 t72 t76 t77 t78 c3_0 c3_1 c3_2 c3_3 => K .ret (st_zc_1 t2 t70 t71 t72 t76 t77 t78 c3_0 c3_1 c3_2 c3_3)) (fun t2 t70 t71 t72 t76 t77 t78 c3_0 c3_1 c3_2 c3_3 => K (.exit 3) (st_zc_1 t2 t70 t71 t72 t76 t77 t78 c3_0 c3_1 c3_2 c3_3)) n := by
   funext t2 t70 t71 t72 t76 t77 t78 c3_0 c3_1 c3_2 c3_3
   exact ih (r + 1) t2 t70 t71 t72 t76 t77 t78 c3_0 c3_1 c3_2 c3_3
  rw [step_zc_1, e]
  rfl
theorem nl_zc_1 (F n r : Nat) (K : AEx → ASt UU → Prop) (t2 : Int) (t70 : List (List Rect)) (t71 t72 : Int) (t76 : List Rect) (t77 t78 c3_0 c3_1 c3_2 c3_3 : Int) : b_zc_1 F F 0 (st_zc_1 t2 t70 t71 t72 t76 t77 t78 c3_0 c3_1 c3_2 c3_3) (k_zc_1 F n r K) = n_zc_1 F (fun t2 t70 t71 t72 c3_0 c3_1 c3_2 c3_3 => b_zc_0 F n (r + 1) (st_zc_0 t2 t70 t71 t72 c3_0 c3_1 c3_2 c3_3) K) (fun t2 t70 t71 t72 c3_0 c3_1 c3_2 c3_3 => K (.exit 1) (st_zc_0 t2 t70 t71 t72 c3_0 c3_1 c3_2 c3_3)) (fun t2 t70 t71 t72 c3_0 c3_1 c3_2 c3_3 => K .ret (st_zc_0 t2 t70 t71 t72 c3_0 c3_1 c3_2 c3_3)) t2 t70 t71 t72 t76 t77 t78 c3_0 c3_1 c3_2 c3_3 := by
 rw [loop_zc_1]
 have h0 : (fun t2 t70 t71 t72 t76 t77 t78 c3_0 c3_1 c3_2 c3_3 => k_zc_1 F n r K .ret (st_zc_1 t2 t70 t71 t72 t76 t77 t78 c3_0 c3_1 c3_2 c3_3)) = (fun t2 t70 t71 t72 t76 t77 t78 c3_0 c3_1 c3_2 c3_3 => g_zc_c1_0 (fun t2 t70 t71 t72 c3_0 c3_1 c3_2 c3_3 => b_zc_0 F n (r + 1) (st_zc_0 t2 t70 t71 t72 c3_0 c3_1 c3_2 c3_3) K) (fun t2 t70 t71 t72 c3_0 c3_1 c3_2 c3_3 => K (.exit 1) (st_zc_0 t2 t70 t71 t72 c3_0 c3_1 c3_2 c3_3)) (fun t2 t70 t71 t72 c3_0 c3_1 c3_2 c3_3 => K .ret (st_zc_0 t2 t70 t71 t72 c3_0 c3_1 c3_2 c3_3)) t2 t70 t71 t72 t76 t77 t78 c3_0 c3_1 c3_2 c3_3) := by
  funext t2 t70 t71 t72 t76 t77 t78 c3_0 c3_1 c3_2 c3_3
  rw [cont_zc_1_0]
 have h1 : (fun t2 t70 t71 t72 t76 t77 t78 c3_0 c3_1 c3_2 c3_3 => k_zc_1 F n r K (.exit 3) (st_zc_1 t2 t70 t71 t72 t76 t77 t78 c3_0 c3_1 c3_2 c3_3)) = (fun t2 t70 t71 t72 t76 t77 t78 c3_0 c3_1 c3_2 c3_3 => g_zc_c1_1 (fun t2 t70 t71 t72 c3_0 c3_1 c3_2 c3_3 => b_zc_0 F n (r + 1) (st_zc_0 t2 t70 t71 t72 c3_0 c3_1 c3_2 c3_3) K) (fun t2 t70 t71 t72 c3_0 c3_1 c3_2 c3_3 => K (.exit 1) (st_zc_0 t2 t70 t71 t72 c3_0 c3_1 c3_2 c3_3)) (fun t2 t70 t71 t72 c3_0 c3_1 c3_2 c3_3 => K .ret (st_zc_0 t2 t70 t71 t72 c3_0 c3_1 c3_2 c3_3)) t2 t70 t71 t72 t76 t77 t78 c3_0 c3_1 c3_2 c3_3) := by
  funext t2 t70 t71 t72 t76 t77 t78 c3_0 c3_1 c3_2 c3_3
  rw [cont_zc_1_1]
 rw [h0, h1]
 rfl
theorem loop_zc_0 (F : Nat) (K : AEx → ASt UU → Prop) : ∀ (n r : Nat) (t2 : Int) (t70 : List (List Rect)) (t71 t72 c3_0 c3_1 c3_2 c3_3 : Int), b_zc_0 F n r (st_zc_0 t2 t70 t71 t72 c3_0 c3_1 c3_2 c3_3) K = w_zc_0 F  (fun t2 t70 t71 t72 c3_0 c3_1 c3_2 c3_3 => K (.exit 1) (st_zc_0 t2 t70 t71 t72 c3_0 c3_1 c3_2 c3_3)) (fun t2 t70 t71 t72 c3_0 c3_1 c3_2 c3_3 => K .ret (st_zc_0 t2 t70 t71 t72 c3_0 c3_1 c3_2 c3_3)) n t2 t70 t71 t72 c3_0 c3_1 c3_2 c3_3 := by
 intro n
 induction n with
 | zero => intros; rfl
 | succ n ih =>
  intro r t2 t70 t71 t72 c3_0 c3_1 c3_2 c3_3
  have e : (fun t2 t70 t71 t72 c3_0 c3_1 c3_2 c3_3 => b_zc_0 F n (r + 1) (st_zc_0 t2 t70 t71 t72 c3_0 c3_1 c3_2 c3_3) K) = w_zc_0 F  (fun t2 t70 t71 t72 c3_0 c3_1 c3_2 c3_3 => K (.exit 1) (st_zc_0 t2 t70 t71 t72 c3_0 c3_1 c3_2 c3_3)) (fun t2 t70 t71 t72 c3_0 c3_1 c3_2 c3_3 => K .ret (st_zc_0 t2 t70 t71 t72 c3_0 c3_1 c3_2 c3_3)) n := by
   funext t2 t70 t71 t72 c3_0 c3_1 c3_2 c3_3
   exact ih (r + 1) t2 t70 t71 t72 c3_0 c3_1 c3_2 c3_3
  have e1 : (fun t2 t70 t71 t72 t76 t77 t78 c3_0 c3_1 c3_2 c3_3 => b_zc_1 F F 0 (st_zc_1 t2 t70 t71 t72 t76 t77 t78 c3_0 c3_1 c3_2 c3_3) (k_zc_1 F n r K)) = (n_zc_1 F (fun t2 t70 t71 t72 c3_0 c3_1 c3_2 c3_3 => b_zc_0 F n (r + 1) (st_zc_0 t2 t70 t71 t72 c3_0 c3_1 c3_2 c3_3) K) (fun t2 t70 t71 t72 c3_0 c3_1 c3_2 c3_3 => K (.exit 1) (st_zc_0 t2 t70 t71 t72 c3_0 c3_1 c3_2 c3_3)) (fun t2 t70 t71 t72 c3_0 c3_1 c3_2 c3_3 => K .ret (st_zc_0 t2 t70 t71 t72 c3_0 c3_1 c3_2 c3_3))) := by
   funext t2 t70 t71 t72 t76 t77 t78 c3_0 c3_1 c3_2 c3_3
   exact nl_zc_1 F n r K t2 t70 t71 t72 t76 t77 t78 c3_0 c3_1 c3_2 c3_3
  rw [step_zc_0, e1, e]
  rfl
theorem nl_zc_0 (F : Nat) (Post : AVal UU → Prop) (t2 : Int) (t70 : List (List Rect)) (t71 t72 c3_0 c3_1 c3_2 c3_3 : Int) : b_zc_0 F F 0 (st_zc_0 t2 t70 t71 t72 c3_0 c3_1 c3_2 c3_3) (k_zc_0 F Post) = n_zc_0 F (fun r0 => Post (.int .i64 r0)) t2 t70 t71 t72 c3_0 c3_1 c3_2 c3_3 := by
 rw [loop_zc_0]
 have h0 : (fun t2 t70 t71 t72 c3_0 c3_1 c3_2 c3_3 => k_zc_0 F Post (.exit 1) (st_zc_0 t2 t70 t71 t72 c3_0 c3_1 c3_2 c3_3)) = (fun t2 t70 t71 t72 c3_0 c3_1 c3_2 c3_3 => g_zc_c0_0 (fun r0 => Post (.int .i64 r0)) t2 t70 t71 t72 c3_0 c3_1 c3_2 c3_3) := by
  funext t2 t70 t71 t72 c3_0 c3_1 c3_2 c3_3
  rw [cont_zc_0_0]
 have h1 : (fun t2 t70 t71 t72 c3_0 c3_1 c3_2 c3_3 => k_zc_0 F Post .ret (st_zc_0 t2 t70 t71 t72 c3_0 c3_1 c3_2 c3_3)) = (fun t2 t70 t71 t72 c3_0 c3_1 c3_2 c3_3 => g_zc_c0_1 (fun r0 => Post (.int .i64 r0)) t2 t70 t71 t72 c3_0 c3_1 c3_2 c3_3) := by
  funext t2 t70 t71 t72 c3_0 c3_1 c3_2 c3_3
  rw [cont_zc_0_1]
 rw [h0, h1]
 rfl
theorem exec_zc (F : Nat) (Post : AVal UU → Prop) (qe qf : ByteArray) (qg qh qa qb : Int) (qc qd : List Rect) : exec C_zak Tryz.f29.ntmps M_zc F 0 (bo Tryz.f29) (initSt [.agg [.str qe, .str qf, .int .i64 qg, .int .i64 qh, .int .i64 qa, .int .i64 qb, .sl .rect qc, .sl .rect qd]]) (AEnds C_zak false Tryz.f29 Post) = w_zc F qe qf qg qh qa qb qc qd (fun r0 => Post (.int .i64 r0)) := by
 rw [entry_zc]
 have e0 : (fun t2 t70 t71 t72 c3_0 c3_1 c3_2 c3_3 => b_zc_0 F F 0 (st_zc_0 t2 t70 t71 t72 c3_0 c3_1 c3_2 c3_3) (k_zc_0 F Post)) = (n_zc_0 F (fun r0 => Post (.int .i64 r0))) := by
  funext t2 t70 t71 t72 c3_0 c3_1 c3_2 c3_3
  exact nl_zc_0 F Post t2 t70 t71 t72 c3_0 c3_1 c3_2 c3_3
 rw [e0]
 rfl
def m_zc : Model UU
 | [.agg [.str qe, .str qf, .int .i64 qg, .int .i64 qh, .int .i64 qa, .int .i64 qb, .sl .rect qc, .sl .rect qd]] => some ([], .int .i64 (sp_zc qe qf qg qh qa qb qc qd))
 | _ => none
def C_zc : Cfg UU := C_zak.add 29 m_zc
theorem s_zc : SumOK C_zc := by
 refine s_zak.addD mixed (fn := Tryz.f29) (c := bo Tryz.f29) Tryz.func29 (by kernel_rfl) (by kernel_rfl) ?_
 intro xs cs r h hc
 unfold m_zc at h
 split at h
 ·rename_i qe qf qg qh qa qb qc qd
  cases h
  obtain ⟨F, hF⟩ := ok_zc qe qf qg qh qa qb qc qd
  refine ⟨by kernel_rfl, M_zc, F, false, ⟨?_⟩⟩
  rw [exec_zc]
  refine hF _ ?_
  rfl
 ·cases h
end
end Go.Proofs.YteffpgliiilnjaaGreatDoor
namespace Go.Proofs.YteffpgliiilnjaaGreatDoor
open Go.Vm Go.RowKit
set_option linter.unusedVariables false
set_option maxRecDepth 100000
noncomputable section
def b_zk_0 (F n r : Nat) (S : ASt UU) (K : AEx → ASt UU → Prop) : Prop := iter (execG (inliner M_zk F 0 C_zc) C_zc Tryz.f53.ntmps M_zk F 0 (cL (cB (cS (cF (cS (bo Tryz.f53))))))) (M_zk 0 0) n r S K
def k_zk_0 (F : Nat) (Post : AVal UU → Prop) : AEx → ASt UU → Prop := kBlock 0 (kSeq (inliner M_zk F 0 C_zc) C_zc Tryz.f53.ntmps M_zk F 0 (cS (cS (bo Tryz.f53))) (AEnds C_zc false Tryz.f53 Post))
theorem step_zk_0 (F n r : Nat) (K : AEx → ASt UU → Prop) (t2 : Bool) (t16 t17 : Int) (l28 : List Int) : b_zk_0 F (n + 1) r (st_zk_0 t2 t16 t17 l28) K = g_zk_s0 (fun t2 t16 t17 l28 => b_zk_0 F n (r + 1) (st_zk_0 t2 t16 t17 l28) K) (fun t2 t16 t17 l28 => K .ret (st_zk_0 t2 t16 t17 l28)) (fun t2 t16 t17 l28 => K (.exit 0) (st_zk_0 t2 t16 t17 l28)) t2 t16 t17 l28 := by kernel_rfl
theorem cont_zk_0_0 (F : Nat) (Post : AVal UU → Prop) (t2 : Bool) (t16 t17 : Int) (l28 : List Int) : k_zk_0 F Post .ret (st_zk_0 t2 t16 t17 l28) = g_zk_c0_0 (fun r0 => Post (.bool r0)) t2 t16 t17 l28 := by kernel_rfl
theorem cont_zk_0_1 (F : Nat) (Post : AVal UU → Prop) (t2 : Bool) (t16 t17 : Int) (l28 : List Int) : k_zk_0 F Post (.exit 0) (st_zk_0 t2 t16 t17 l28) = g_zk_c0_1 (fun r0 => Post (.bool r0)) t2 t16 t17 l28 := by kernel_rfl
theorem entry_zk (F : Nat) (Post : AVal UU → Prop) (qi a0_X a0_Y a0_W a0_H a0_N : Int) : exec C_zc Tryz.f53.ntmps M_zk F 0 (bo Tryz.f53) (initSt [.agg [.int .i64 qi, .int .i64 a0_X, .int .i64 a0_Y, .int .i64 a0_W, .int .i64 a0_H, .int .i64 a0_N]]) (AEnds C_zc false Tryz.f53 Post) = g_zk_e qi a0_X a0_Y a0_W a0_H a0_N (fun r0 => Post (.bool r0)) (fun t2 t16 t17 l28 => b_zk_0 F F 0 (st_zk_0 t2 t16 t17 l28) (k_zk_0 F Post)) := by kernel_rfl
theorem loop_zk_0 (F : Nat) (K : AEx → ASt UU → Prop) : ∀ (n r : Nat) (t2 : Bool) (t16 t17 : Int) (l28 : List Int), b_zk_0 F n r (st_zk_0 t2 t16 t17 l28) K = w_zk_0 F  (fun t2 t16 t17 l28 => K .ret (st_zk_0 t2 t16 t17 l28)) (fun t2 t16 t17 l28 => K (.exit 0) (st_zk_0 t2 t16 t17 l28)) n t2 t16 t17 l28 := by
 intro n
 induction n with
 | zero => intros; rfl
 | succ n ih =>
  intro r t2 t16 t17 l28
  have e : (fun t2 t16 t17 l28 => b_zk_0 F n (r + 1) (st_zk_0 t2 t16 t17 l28) K) = w_zk_0 F  (fun t2 t16 t17 l28 => K .ret (st_zk_0 t2 t16 t17 l28)) (fun t2 t16 t17 l28 => K (.exit 0) (st_zk_0 t2 t16 t17 l28)) n := by
   funext t2 t16 t17 l28
   exact ih (r + 1) t2 t16 t17 l28
  rw [step_zk_0, e]
  rfl
theorem nl_zk_0 (F : Nat) (Post : AVal UU → Prop) (t2 : Bool) (t16 t17 : Int) (l28 : List Int) : b_zk_0 F F 0 (st_zk_0 t2 t16 t17 l28) (k_zk_0 F Post) = n_zk_0 F (fun r0 => Post (.bool r0)) t2 t16 t17 l28 := by
 rw [loop_zk_0]
 have h0 : (fun t2 t16 t17 l28 => k_zk_0 F Post .ret (st_zk_0 t2 t16 t17 l28)) = (fun t2 t16 t17 l28 => g_zk_c0_0 (fun r0 => Post (.bool r0)) t2 t16 t17 l28) := by
  funext t2 t16 t17 l28
  rw [cont_zk_0_0]
 have h1 : (fun t2 t16 t17 l28 => k_zk_0 F Post (.exit 0) (st_zk_0 t2 t16 t17 l28)) = (fun t2 t16 t17 l28 => g_zk_c0_1 (fun r0 => Post (.bool r0)) t2 t16 t17 l28) := by
  funext t2 t16 t17 l28
  rw [cont_zk_0_1]
 rw [h0, h1]
 rfl
theorem exec_zk (F : Nat) (Post : AVal UU → Prop) (qi a0_X a0_Y a0_W a0_H a0_N : Int) : exec C_zc Tryz.f53.ntmps M_zk F 0 (bo Tryz.f53) (initSt [.agg [.int .i64 qi, .int .i64 a0_X, .int .i64 a0_Y, .int .i64 a0_W, .int .i64 a0_H, .int .i64 a0_N]]) (AEnds C_zc false Tryz.f53 Post) = w_zk F qi a0_X a0_Y a0_W a0_H a0_N (fun r0 => Post (.bool r0)) := by
 rw [entry_zk]
 have e0 : (fun t2 t16 t17 l28 => b_zk_0 F F 0 (st_zk_0 t2 t16 t17 l28) (k_zk_0 F Post)) = (n_zk_0 F (fun r0 => Post (.bool r0))) := by
  funext t2 t16 t17 l28
  exact nl_zk_0 F Post t2 t16 t17 l28
 rw [e0]
 rfl
def m_zk : Model UU
 | [.agg [.int .i64 qi, .int .i64 a0_X, .int .i64 a0_Y, .int .i64 a0_W, .int .i64 a0_H, .int .i64 a0_N]] => some ([], .bool (sp_zk qi a0_X a0_Y a0_W a0_H a0_N))
 | _ => none
def C_zk : Cfg UU := C_zc.add 53 m_zk
theorem s_zk : SumOK C_zk := by
 refine s_zc.addD mixed (fn := Tryz.f53) (c := bo Tryz.f53) Tryz.func53 (by kernel_rfl) (by kernel_rfl) ?_
 intro xs cs r h hc
 unfold m_zk at h
 split at h
 ·rename_i qi a0_X a0_Y a0_W a0_H a0_N
  cases h
  obtain ⟨F, hF⟩ := ok_zk qi a0_X a0_Y a0_W a0_H a0_N
  refine ⟨by kernel_rfl, M_zk, F, false, ⟨?_⟩⟩
  rw [exec_zk]
  refine hF _ ?_
  rfl
 ·cases h
end
end Go.Proofs.YteffpgliiilnjaaGreatDoor
namespace Go.Proofs.YteffpgliiilnjaaGreatDoor
open Go.Vm Go.RowKit
set_option linter.unusedVariables false
set_option maxRecDepth 100000
noncomputable section
theorem entry_do1 (F : Nat) (Post : AVal UU → Prop) (a_0 a_1 a_2 a_3 c_0 c_1 c_2 c_3 : Int) : exec C_zk Tryz.f84.ntmps M_do1 F 0 (bo Tryz.f84) (initSt [.agg [.int .i64 a_0, .int .i64 a_1, .int .i64 a_2, .int .i64 a_3], .ref [.int .i64 c_0, .int .i64 c_1, .int .i64 c_2, .int .i64 c_3] 0]) (AEnds C_zk false Tryz.f84 Post) = g_do1_e a_0 a_1 a_2 a_3 c_0 c_1 c_2 c_3 (fun r0 => Post (.bool r0)) := by kernel_rfl
theorem exec_do1 (F : Nat) (Post : AVal UU → Prop) (a_0 a_1 a_2 a_3 c_0 c_1 c_2 c_3 : Int) : exec C_zk Tryz.f84.ntmps M_do1 F 0 (bo Tryz.f84) (initSt [.agg [.int .i64 a_0, .int .i64 a_1, .int .i64 a_2, .int .i64 a_3], .ref [.int .i64 c_0, .int .i64 c_1, .int .i64 c_2, .int .i64 c_3] 0]) (AEnds C_zk false Tryz.f84 Post) = w_do1 F a_0 a_1 a_2 a_3 c_0 c_1 c_2 c_3 (fun r0 => Post (.bool r0)) := by
 rw [entry_do1]
 rfl
def m_do1 : Model UU
 | [.agg [.int .i64 a_0, .int .i64 a_1, .int .i64 a_2, .int .i64 a_3], .ref [.int .i64 c_0, .int .i64 c_1, .int .i64 c_2, .int .i64 c_3] 0] => some ([], .bool (sp_do1 a_0 a_1 a_2 a_3 c_0 c_1 c_2 c_3))
 | _ => none
def C_do1 : Cfg UU := C_zk.add 84 m_do1
theorem s_do1 : SumOK C_do1 := by
 refine s_zk.addD mixed (fn := Tryz.f84) (c := bo Tryz.f84) Tryz.func84 (by kernel_rfl) (by kernel_rfl) ?_
 intro xs cs r h hc
 unfold m_do1 at h
 split at h
 ·rename_i a_0 a_1 a_2 a_3 c_0 c_1 c_2 c_3
  cases h
  obtain ⟨F, hF⟩ := ok_do1 a_0 a_1 a_2 a_3 c_0 c_1 c_2 c_3
  refine ⟨by kernel_rfl, M_do1, F, false, ⟨?_⟩⟩
  rw [exec_do1]
  refine hF _ ?_
  rfl
 ·cases h
def b_ixf1_0 (F n r : Nat) (S : ASt UU) (K : AEx → ASt UU → Prop) : Prop := iter (execG (inliner M_ixf1 F 0 C_do1) C_do1 Tryz.f44.ntmps M_ixf1 F 0 (cL (cB (cS (cF (cS (bo Tryz.f44))))))) (M_ixf1 0 0) n r S K
def k_ixf1_0 (F : Nat) (Post : AVal UU → Prop) : AEx → ASt UU → Prop := kBlock 0 (kSeq (inliner M_ixf1 F 0 C_do1) C_do1 Tryz.f44.ntmps M_ixf1 F 0 (cS (cS (bo Tryz.f44))) (AEnds C_do1 false Tryz.f44 Post))
theorem step_ixf1_0 (F n r : Nat) (K : AEx → ASt UU → Prop) (t0 : List Rect) (t1_0_0 t1_0_1 t1_0_2 t1_0_3 t4 t7 t8 : Int) : b_ixf1_0 F (n + 1) r (st_ixf1_0 t0 t1_0_0 t1_0_1 t1_0_2 t1_0_3 t4 t7 t8) K = g_ixf1_s0 (fun t0 t1_0_0 t1_0_1 t1_0_2 t1_0_3 t4 t7 t8 => b_ixf1_0 F n (r + 1) (st_ixf1_0 t0 t1_0_0 t1_0_1 t1_0_2 t1_0_3 t4 t7 t8) K) (fun t0 t1_0_0 t1_0_1 t1_0_2 t1_0_3 t4 t7 t8 => K .ret (st_ixf1_0 t0 t1_0_0 t1_0_1 t1_0_2 t1_0_3 t4 t7 t8)) (fun t0 t1_0_0 t1_0_1 t1_0_2 t1_0_3 t4 t7 t8 => K (.exit 0) (st_ixf1_0 t0 t1_0_0 t1_0_1 t1_0_2 t1_0_3 t4 t7 t8)) t0 t1_0_0 t1_0_1 t1_0_2 t1_0_3 t4 t7 t8 := by kernel_rfl
theorem cont_ixf1_0_0 (F : Nat) (Post : AVal UU → Prop) (t0 : List Rect) (t1_0_0 t1_0_1 t1_0_2 t1_0_3 t4 t7 t8 : Int) : k_ixf1_0 F Post .ret (st_ixf1_0 t0 t1_0_0 t1_0_1 t1_0_2 t1_0_3 t4 t7 t8) = g_ixf1_c0_0 (fun r0 => Post (.int .i64 r0)) t0 t1_0_0 t1_0_1 t1_0_2 t1_0_3 t4 t7 t8 := by kernel_rfl
theorem cont_ixf1_0_1 (F : Nat) (Post : AVal UU → Prop) (t0 : List Rect) (t1_0_0 t1_0_1 t1_0_2 t1_0_3 t4 t7 t8 : Int) : k_ixf1_0 F Post (.exit 0) (st_ixf1_0 t0 t1_0_0 t1_0_1 t1_0_2 t1_0_3 t4 t7 t8) = g_ixf1_c0_1 (fun r0 => Post (.int .i64 r0)) t0 t1_0_0 t1_0_1 t1_0_2 t1_0_3 t4 t7 t8 := by kernel_rfl
theorem entry_ixf1 (F : Nat) (Post : AVal UU → Prop) (l : List Rect) (c_0 c_1 c_2 c_3 : Int) : exec C_do1 Tryz.f44.ntmps M_ixf1 F 0 (bo Tryz.f44) (initSt [.sl .rect l, .fn 84 [.ref [.int .i64 c_0, .int .i64 c_1, .int .i64 c_2, .int .i64 c_3] 0]]) (AEnds C_do1 false Tryz.f44 Post) = g_ixf1_e l c_0 c_1 c_2 c_3 (fun r0 => Post (.int .i64 r0)) (fun t0 t1_0_0 t1_0_1 t1_0_2 t1_0_3 t4 t7 t8 => b_ixf1_0 F F 0 (st_ixf1_0 t0 t1_0_0 t1_0_1 t1_0_2 t1_0_3 t4 t7 t8) (k_ixf1_0 F Post)) := by kernel_rfl
theorem loop_ixf1_0 (F : Nat) (K : AEx → ASt UU → Prop) : ∀ (n r : Nat) (t0 : List Rect) (t1_0_0 t1_0_1 t1_0_2 t1_0_3 t4 t7 t8 : Int), b_ixf1_0 F n r (st_ixf1_0 t0 t1_0_0 t1_0_1 t1_0_2 t1_0_3 t4 t7 t8) K = w_ixf1_0 F  (fun t0 t1_0_0 t1_0_1 t1_0_2 t1_0_3 t4 t7 t8 => K .ret (st_ixf1_0 t0 t1_0_0 t1_0_1 t1_0_2 t1_0_3 t4 t7 t8)) (fun t0 t1_0_0 t1_0_1 t1_0_2 t1_0_3 t4 t7 t8 => K (.exit 0) (st_ixf1_0 t0 t1_0_0 t1_0_1 t1_0_2 t1_0_3 t4 t7 t8)) n t0 t1_0_0 t1_0_1 t1_0_2 t1_0_3 t4 t7 t8 := by
 intro n
 induction n with
 | zero => intros; rfl
 | succ n ih =>
  intro r t0 t1_0_0 t1_0_1 t1_0_2 t1_0_3 t4 t7 t8
  have e : (fun t0 t1_0_0 t1_0_1 t1_0_2 t1_0_3 t4 t7 t8 => b_ixf1_0 F n (r + 1) (st_ixf1_0 t0 t1_0_0 t1_0_1 t1_0_2 t1_0_3 t4 t7 t8) K) = w_ixf1_0 F  (fun t0 t1_0_0 t1_0_1 t1_0_2 t1_0_3 t4 t7 t8 => K .ret (st_ixf1_0 t0 t1_0_0 t1_0_1 t1_0_2 t1_0_3 t4 t7 t8)) (fun t0 t1_0_0 t1_0_1 t1_0_2 t1_0_3 t4 t7 t8 => K (.exit 0) (st_ixf1_0 t0 t1_0_0 t1_0_1 t1_0_2 t1_0_3 t4 t7 t8)) n := by
   funext t0 t1_0_0 t1_0_1 t1_0_2 t1_0_3 t4 t7 t8
   exact ih (r + 1) t0 t1_0_0 t1_0_1 t1_0_2 t1_0_3 t4 t7 t8
  rw [step_ixf1_0, e]
  rfl
theorem nl_ixf1_0 (F : Nat) (Post : AVal UU → Prop) (t0 : List Rect) (t1_0_0 t1_0_1 t1_0_2 t1_0_3 t4 t7 t8 : Int) : b_ixf1_0 F F 0 (st_ixf1_0 t0 t1_0_0 t1_0_1 t1_0_2 t1_0_3 t4 t7 t8) (k_ixf1_0 F Post) = n_ixf1_0 F (fun r0 => Post (.int .i64 r0)) t0 t1_0_0 t1_0_1 t1_0_2 t1_0_3 t4 t7 t8 := by
 rw [loop_ixf1_0]
 have h0 : (fun t0 t1_0_0 t1_0_1 t1_0_2 t1_0_3 t4 t7 t8 => k_ixf1_0 F Post .ret (st_ixf1_0 t0 t1_0_0 t1_0_1 t1_0_2 t1_0_3 t4 t7 t8)) = (fun t0 t1_0_0 t1_0_1 t1_0_2 t1_0_3 t4 t7 t8 => g_ixf1_c0_0 (fun r0 => Post (.int .i64 r0)) t0 t1_0_0 t1_0_1 t1_0_2 t1_0_3 t4 t7 t8) := by
  funext t0 t1_0_0 t1_0_1 t1_0_2 t1_0_3 t4 t7 t8
  rw [cont_ixf1_0_0]
 have h1 : (fun t0 t1_0_0 t1_0_1 t1_0_2 t1_0_3 t4 t7 t8 => k_ixf1_0 F Post (.exit 0) (st_ixf1_0 t0 t1_0_0 t1_0_1 t1_0_2 t1_0_3 t4 t7 t8)) = (fun t0 t1_0_0 t1_0_1 t1_0_2 t1_0_3 t4 t7 t8 => g_ixf1_c0_1 (fun r0 => Post (.int .i64 r0)) t0 t1_0_0 t1_0_1 t1_0_2 t1_0_3 t4 t7 t8) := by
  funext t0 t1_0_0 t1_0_1 t1_0_2 t1_0_3 t4 t7 t8
  rw [cont_ixf1_0_1]
 rw [h0, h1]
 rfl
theorem exec_ixf1 (F : Nat) (Post : AVal UU → Prop) (l : List Rect) (c_0 c_1 c_2 c_3 : Int) : exec C_do1 Tryz.f44.ntmps M_ixf1 F 0 (bo Tryz.f44) (initSt [.sl .rect l, .fn 84 [.ref [.int .i64 c_0, .int .i64 c_1, .int .i64 c_2, .int .i64 c_3] 0]]) (AEnds C_do1 false Tryz.f44 Post) = w_ixf1 F l c_0 c_1 c_2 c_3 (fun r0 => Post (.int .i64 r0)) := by
 rw [entry_ixf1]
 have e0 : (fun t0 t1_0_0 t1_0_1 t1_0_2 t1_0_3 t4 t7 t8 => b_ixf1_0 F F 0 (st_ixf1_0 t0 t1_0_0 t1_0_1 t1_0_2 t1_0_3 t4 t7 t8) (k_ixf1_0 F Post)) = (n_ixf1_0 F (fun r0 => Post (.int .i64 r0))) := by
  funext t0 t1_0_0 t1_0_1 t1_0_2 t1_0_3 t4 t7 t8
  exact nl_ixf1_0 F Post t0 t1_0_0 t1_0_1 t1_0_2 t1_0_3 t4 t7 t8
 rw [e0]
 rfl
def m_ixf1 : Model UU
 | [.sl .rect l, .fn 84 [.ref [.int .i64 c_0, .int .i64 c_1, .int .i64 c_2, .int .i64 c_3] 0]] => some ([pre_ixf1 l c_0 c_1 c_2 c_3], .int .i64 (sp_ixf1 l c_0 c_1 c_2 c_3))
 | _ => none
def C_ixf1 : Cfg UU := C_do1.add 44 m_ixf1
theorem s_ixf1 : SumOK C_ixf1 := by
 refine s_do1.addD mixed (fn := Tryz.f44) (c := bo Tryz.f44) Tryz.func44 (by kernel_rfl) (by kernel_rfl) ?_
 intro xs cs r h hc
 unfold m_ixf1 at h
 split at h
 ·rename_i l c_0 c_1 c_2 c_3
  cases h
  obtain ⟨F, hF⟩ := ok_ixf1 l c_0 c_1 c_2 c_3 hc
  refine ⟨by kernel_rfl, M_ixf1, F, false, ⟨?_⟩⟩
  rw [exec_ixf1]
  refine hF _ ?_
  rfl
 ·cases h
end
end Go.Proofs.YteffpgliiilnjaaGreatDoor
namespace Go.Proofs.YteffpgliiilnjaaGreatDoor
open Go.Vm Go.RowKit
set_option linter.unusedVariables false
set_option maxRecDepth 100000
noncomputable section
theorem entry_cof1 (F : Nat) (Post : AVal UU → Prop) (l : List Rect) (c_0 c_1 c_2 c_3 : Int) : exec C_ixf1 Tryz.f83.ntmps M_cof1 F 0 (bo Tryz.f83) (initSt [.sl .rect l, .fn 84 [.ref [.int .i64 c_0, .int .i64 c_1, .int .i64 c_2, .int .i64 c_3] 0]]) (AEnds C_ixf1 false Tryz.f83 Post) = g_cof1_e l c_0 c_1 c_2 c_3 (fun r0 => Post (.bool r0)) := by kernel_rfl
theorem exec_cof1 (F : Nat) (Post : AVal UU → Prop) (l : List Rect) (c_0 c_1 c_2 c_3 : Int) : exec C_ixf1 Tryz.f83.ntmps M_cof1 F 0 (bo Tryz.f83) (initSt [.sl .rect l, .fn 84 [.ref [.int .i64 c_0, .int .i64 c_1, .int .i64 c_2, .int .i64 c_3] 0]]) (AEnds C_ixf1 false Tryz.f83 Post) = w_cof1 F l c_0 c_1 c_2 c_3 (fun r0 => Post (.bool r0)) := by
 rw [entry_cof1]
 rfl
def m_cof1 : Model UU
 | [.sl .rect l, .fn 84 [.ref [.int .i64 c_0, .int .i64 c_1, .int .i64 c_2, .int .i64 c_3] 0]] => some ([pre_cof1 l c_0 c_1 c_2 c_3], .bool (sp_cof1 l c_0 c_1 c_2 c_3))
 | _ => none
def C_cof1 : Cfg UU := C_ixf1.add 83 m_cof1
theorem s_cof1 : SumOK C_cof1 := by
 refine s_ixf1.addD mixed (fn := Tryz.f83) (c := bo Tryz.f83) Tryz.func83 (by kernel_rfl) (by kernel_rfl) ?_
 intro xs cs r h hc
 unfold m_cof1 at h
 split at h
 ·rename_i l c_0 c_1 c_2 c_3
  cases h
  obtain ⟨F, hF⟩ := ok_cof1 l c_0 c_1 c_2 c_3 hc
  refine ⟨by kernel_rfl, M_cof1, F, false, ⟨?_⟩⟩
  rw [exec_cof1]
  refine hF _ ?_
  rfl
 ·cases h
end
end Go.Proofs.YteffpgliiilnjaaGreatDoor
namespace Go.Proofs.YteffpgliiilnjaaGreatDoor
open Go.Vm Go.RowKit Go.Lib
set_option linter.unusedVariables false
noncomputable section
theorem fresh_new {w0 w : World} {N : Nat → Prop} {τ : Knd} {xs : List (UU.T τ)} {v : Value} {cs : List Value} (hb : Below w0.heap.size w0 w)
  (ho : w.ownsRow w0.heap.size (UU.ety τ) (UU.size τ) v xs.length cs) (hp : ∀ a, v ≠ .pointer a)
  (hr : ∀ i (h : i < xs.length) k (hk : k < (EE.enc τ xs[i]).length), Rel EE w0 noOwn (Out' N w0) (EE.enc τ xs[i])[k] (cs.getD (i * UU.size τ + k) undef)) : Fresh EE w0.heap.size N w (.new τ xs) v := by
 have hblk : ∀ b, blk v = some b → w0.heap.size ≤ b ∧ b < w.heap.size := (ownsRow_oneCell ho hp).2
 refine ⟨fun k => if k = .ob 0 then some (0, v) else none, .osl 0 0 _ (by simp) hp, fun k x hk => ?_, fun k g u hk => ?_, fun i j g g' u u' b hi hj hne => ?_⟩
 ·cases k with
  | zero =>
   have : (⟨false, τ, xs⟩ : NewRow UU) = x := by simpa [AVal.news, news2, news1] using hk
   subst this
   refine ⟨_, _, by simp, hp, ho, fun i hi k hk' => ?_⟩
   refine ((hr i hi k hk').flat (ρ' := fun k => if k = .ob 0 then some (0, v) else none) (EE.enc_flat _ _ _ (List.getElem_mem hk')).1).mono (fun b hb' => ⟨⟨?_, hb'.2, fun nm g u hnm => ?_⟩, hb.block b hb'.1⟩) (fun nm g u h => .inl h)
   ·have := hb.size
    have := hb'.1
    omega
   ·by_cases hnm0 : nm = .ob 0
    ·subst hnm0
     simp only [if_true, Option.some.injEq, Prod.mk.injEq] at hnm
     obtain ⟨_, rfl⟩ := hnm
     intro e
     have := (hblk b e).1
     have := hb'.1
     omega
    ·simp [hnm0] at hnm
  | succ k => simp [AVal.news, news2, news1] at hk
 ·by_cases hk0 : k = .ob 0
  ·subst hk0
   exact ⟨⟨false, τ, xs⟩, by simp [AVal.news, news2, news1, Name.id], fun _ => ⟨0, rfl⟩⟩
  ·simp [hk0] at hk
 ·by_cases hi0 : i = .ob 0
  ·by_cases hj0 : j = .ob 0
   ·exact absurd (hi0.trans hj0.symm) hne
   ·simp [hj0] at hj
  ·simp [hi0] at hi
theorem map_range_getD (f : Nat → Value) (n i : Nat) (h : i < n) : ((List.range n).map f).getD i undef = f i := by simp [List.getD_eq_getElem?_getD, h]
set_option maxHeartbeats 2000000 in
set_option maxRecDepth 100000 in
theorem clone87_some (b off n c : Nat) (f : Nat → Value) (w : World) (hbig : n * 32 ≤ 140737488355328) (hc : ∀ j, j < n * 4 → w.cell? ⟨b, off + j, none⟩ = some (f j)) (h1 : ∀ j, j < n * 4 → (f j).oneCell' = true) :
  Calls Tryz.prog 87 #[.slice (some ⟨b, off, none⟩) n c] w fun e w' => ∃ v', e = .returned v' ∧ w'.ownsRow w.heap.size 43 4 v' n ((List.range (n * 4)).map f) ∧ (∀ a, v' ≠ .pointer a) ∧ Below w.heap.size w w' := by
 have q26 : ∀ (w : World) (a : Option Addr) (n c n' c' : Nat), (binOp .eql 26 (.slice a n c) (.slice none n' c')).run Tryz.prog w = .ok (.bool a.isNone) w := fun w a n c n' c' => Lib.run_eql_slice_nil w _ _ a n c n' c' Tryz.underlying26
 obtain ⟨i0, hi, hz0, hz1, hz2⟩ := info_parts (P := Tryz.prog) (e := 43) (z := .agg #[.int .i64 0, .int .i64 0, .int .i64 0, .int .i64 0]) (size := 4) (bytes := 32) (by kernel_rfl)
 have A : Aside ((∀ j, j < n * 4 → w.cell? ⟨b, off + j, none⟩ = some (f j)) ∧ ∀ j, j < n * 4 → (f j).oneCell' = true) := ⟨hc, h1⟩
 clear hc h1
 go_enter Tryz.func87, Tryz.ntmps87
 go_wp2_with (at_builtin; refine wpList_append_own _ rfl _ _ 26 rfl w.heap.size 43 i0 (.agg #[.int .i64 0, .int .i64 0, .int .i64 0, .int .i64 0]) 4 32 Tryz.underlying26 hi hz0 hz1 hz2 rfl (by decide) _ _ _ rfl (World.ownsRow_made w #[] 0 (Nat.le_refl _) (Nat.zero_le _) rfl) ⟨b, off, none⟩ n c ((List.range (n * 4)).map f) rfl ?qc1 ?qc2 ?qc3 ?qc4 ?qc5 ?qc6 ?_)
 case qc1 => simp
 case qc2 =>
  intro j u hj
  have hjn : j < n * 4 := by
   have := (List.getElem?_eq_some_iff.1 hj).1
   simpa using this
  rw [Addr.add_lit]
  refine Lib.cell?_alloc_some _ ?_
  rw [A.out.1 j hjn]
  simpa [hjn] using hj
 case qc3 =>
  intro u hu
  obtain ⟨x, hx, rfl⟩ := List.mem_map.1 hu
  exact A.out.2 x (List.mem_range.1 hx)
 case qc4 => unfold maxLen; omega
 case qc5 => omega
 case qc6 => simp
 intro v' w1 hown hgrow hnil
 go_wp2
 go_ret
 refine ⟨v', rfl, by simpa using hown, ?_, ?_⟩
 ·intro a e
  subst e
  rcases hown.2 with ⟨h, _⟩ | ⟨_, _, _, h, _⟩ <;> cases h
 ·exact ((Below.refl _ w).alloc (Nat.le_refl _) _).grown hgrow (by simp) (by intro k hk; simp [Value.ownBlock] at hk; omega)
set_option maxHeartbeats 1000000 in
theorem clone87_nil (w : World) :
  Calls Tryz.prog 87 #[.slice none 0 0] w fun e w' => e = .returned (.slice none 0 0) ∧ w' = w := by
 have q26 : ∀ (w : World) (a : Option Addr) (n c n' c' : Nat), (binOp .eql 26 (.slice a n c) (.slice none n' c')).run Tryz.prog w = .ok (.bool a.isNone) w := fun w a n c n' c' => Lib.run_eql_slice_nil w _ _ a n c n' c' Tryz.underlying26
 go_enter Tryz.func87, Tryz.ntmps87
 go_wp2
 go_ret
 exact ⟨rfl, rfl⟩
def mClone87 : Model UU
 | [.sl .seg xs] => some ([xs.length ≤ 100000], .new .seg xs)
 | _ => none
theorem sClone87 {C : Cfg UU} (hE : C.E = EE) (hs : SumOK C) (hP : C.P = Tryz.prog) : SumOK (C.add 87 mClone87) := by
 refine hs.put ⟨fun args w => by rw [hP]; exact callFunc_run (fn := Tryz.f87) Tryz.func87 (by kernel_rfl) rfl args w, ?_⟩
 intro N w args xs cs r hinv hN hargs hm hc
 unfold mClone87 at hm
 split at hm
 ·rename_i l
  cases hm
  have hc' : l.length ≤ 100000 := hc
  obtain ⟨a, rfl, ha⟩ := args1 hargs
  rw [hP]
  rw [hE] at ha ⊢
  cases ha with
  | sl0 =>
   refine (clone87_nil w).mono ?_
   rintro e w' ⟨rfl, rfl⟩
   refine ⟨_, rfl, fresh_new (cs := []) (Below.refl _ _) (World.ownsRow_nil _ _ _ _) (by intro a e; cases e) (fun i h => absurd h (by simp)), Below.refl _ _⟩
  | sl _ _ b o cap f hb hcap hc hl =>
   have hidx : ∀ j, j < l.length * 4 → ∃ i k, ∃ (hi : i < l.length) (hk : k < (EE.enc .seg l[i]).length), j = i * UU.size .seg + k := fun j hj => by
    have hi : j / 4 < l.length := by omega
    refine ⟨j / 4, j % 4, hi, by rw [EE.enc_len]; exact Nat.mod_lt _ (by decide), ?_⟩
    show j = j / 4 * 4 + j % 4
    omega
   refine (clone87_some b o l.length cap f w (by omega) hc (fun j hj => ?_)).mono ?_
   ·obtain ⟨i, k, hi, hk, rfl⟩ := hidx j hj
    have hfl := EE.enc_flat _ _ _ (List.getElem_mem hk)
    exact (hl i hi k hk).oneCell hfl.2 (fun nm g u h => by cases h) (fun id g h => by rw [h] at hfl; cases hfl.1) (fun id g i off sz h => by rw [h] at hfl; cases hfl.1) (fun id i g h => by rw [h] at hfl; cases hfl.1) (fun id i g j off sz h => by rw [h] at hfl; cases hfl.1)
   ·rintro e w' ⟨v', rfl, h1, h2, h3⟩
    refine ⟨_, rfl, fresh_new h3 h1 h2 (fun i hi k hk => ?_), h3⟩
    have hk' : k < 4 := by
     have := hk
     rw [EE.enc_len] at this
     exact this
    rw [show i * UU.size .seg + k = i * 4 + k from rfl, map_range_getD _ _ _ (by
     have : i * 4 + 4 ≤ l.length * 4 := by
      have := Nat.mul_le_mul_right 4 (show i + 1 ≤ l.length from hi)
      omega
     omega)]
    exact hl i hi k hk
 ·cases hm
set_option maxHeartbeats 2000000 in
set_option maxRecDepth 100000 in
theorem clone33_some (b off n c : Nat) (f : Nat → Value) (w : World) (hbig : n * 32 ≤ 140737488355328) (hc : ∀ j, j < n * 4 → w.cell? ⟨b, off + j, none⟩ = some (f j)) (h1 : ∀ j, j < n * 4 → (f j).oneCell' = true) :
  Calls Tryz.prog 33 #[.slice (some ⟨b, off, none⟩) n c] w fun e w' => ∃ v', e = .returned v' ∧ w'.ownsRow w.heap.size 65 4 v' n ((List.range (n * 4)).map f) ∧ (∀ a, v' ≠ .pointer a) ∧ Below w.heap.size w w' := by
 have q26 : ∀ (w : World) (a : Option Addr) (n c n' c' : Nat), (binOp .eql 22 (.slice a n c) (.slice none n' c')).run Tryz.prog w = .ok (.bool a.isNone) w := fun w a n c n' c' => Lib.run_eql_slice_nil w _ _ a n c n' c' Tryz.underlying22
 obtain ⟨i0, hi, hz0, hz1, hz2⟩ := info_parts (P := Tryz.prog) (e := 65) (z := .agg #[.int .i64 0, .int .i64 0, .int .i64 0, .int .i64 0]) (size := 4) (bytes := 32) (by kernel_rfl)
 have A : Aside ((∀ j, j < n * 4 → w.cell? ⟨b, off + j, none⟩ = some (f j)) ∧ ∀ j, j < n * 4 → (f j).oneCell' = true) := ⟨hc, h1⟩
 clear hc h1
 go_enter Tryz.func33, Tryz.ntmps33
 go_wp2_with (at_builtin; refine wpList_append_own _ rfl _ _ 22 rfl w.heap.size 65 i0 (.agg #[.int .i64 0, .int .i64 0, .int .i64 0, .int .i64 0]) 4 32 Tryz.underlying22 hi hz0 hz1 hz2 rfl (by decide) _ _ _ rfl (World.ownsRow_made w #[] 0 (Nat.le_refl _) (Nat.zero_le _) rfl) ⟨b, off, none⟩ n c ((List.range (n * 4)).map f) rfl ?qc1 ?qc2 ?qc3 ?qc4 ?qc5 ?qc6 ?_)
 case qc1 => simp
 case qc2 =>
  intro j u hj
  have hjn : j < n * 4 := by
   have := (List.getElem?_eq_some_iff.1 hj).1
   simpa using this
  rw [Addr.add_lit]
  refine Lib.cell?_alloc_some _ ?_
  rw [A.out.1 j hjn]
  simpa [hjn] using hj
 case qc3 =>
  intro u hu
  obtain ⟨x, hx, rfl⟩ := List.mem_map.1 hu
  exact A.out.2 x (List.mem_range.1 hx)
 case qc4 => unfold maxLen; omega
 case qc5 => omega
 case qc6 => simp
 intro v' w1 hown hgrow hnil
 go_wp2
 go_ret
 refine ⟨v', rfl, by simpa using hown, ?_, ?_⟩
 ·intro a e
  subst e
  rcases hown.2 with ⟨h, _⟩ | ⟨_, _, _, h, _⟩ <;> cases h
 ·exact ((Below.refl _ w).alloc (Nat.le_refl _) _).grown hgrow (by simp) (by intro k hk; simp [Value.ownBlock] at hk; omega)
set_option maxHeartbeats 1000000 in
theorem clone33_nil (w : World) :
  Calls Tryz.prog 33 #[.slice none 0 0] w fun e w' => e = .returned (.slice none 0 0) ∧ w' = w := by
 have q26 : ∀ (w : World) (a : Option Addr) (n c n' c' : Nat), (binOp .eql 22 (.slice a n c) (.slice none n' c')).run Tryz.prog w = .ok (.bool a.isNone) w := fun w a n c n' c' => Lib.run_eql_slice_nil w _ _ a n c n' c' Tryz.underlying22
 go_enter Tryz.func33, Tryz.ntmps33
 go_wp2
 go_ret
 exact ⟨rfl, rfl⟩
def mClone33 : Model UU
 | [.sl .rect xs] => some ([xs.length ≤ 100000], .new .rect xs)
 | _ => none
theorem sClone33 {C : Cfg UU} (hE : C.E = EE) (hs : SumOK C) (hP : C.P = Tryz.prog) : SumOK (C.add 33 mClone33) := by
 refine hs.put ⟨fun args w => by rw [hP]; exact callFunc_run (fn := Tryz.f33) Tryz.func33 (by kernel_rfl) rfl args w, ?_⟩
 intro N w args xs cs r hinv hN hargs hm hc
 unfold mClone33 at hm
 split at hm
 ·rename_i l
  cases hm
  have hc' : l.length ≤ 100000 := hc
  obtain ⟨a, rfl, ha⟩ := args1 hargs
  rw [hP]
  rw [hE] at ha ⊢
  cases ha with
  | sl0 =>
   refine (clone33_nil w).mono ?_
   rintro e w' ⟨rfl, rfl⟩
   refine ⟨_, rfl, fresh_new (cs := []) (Below.refl _ _) (World.ownsRow_nil _ _ _ _) (by intro a e; cases e) (fun i h => absurd h (by simp)), Below.refl _ _⟩
  | sl _ _ b o cap f hb hcap hc hl =>
   have hidx : ∀ j, j < l.length * 4 → ∃ i k, ∃ (hi : i < l.length) (hk : k < (EE.enc .rect l[i]).length), j = i * UU.size .rect + k := fun j hj => by
    have hi : j / 4 < l.length := by omega
    refine ⟨j / 4, j % 4, hi, by rw [EE.enc_len]; exact Nat.mod_lt _ (by decide), ?_⟩
    show j = j / 4 * 4 + j % 4
    omega
   refine (clone33_some b o l.length cap f w (by omega) hc (fun j hj => ?_)).mono ?_
   ·obtain ⟨i, k, hi, hk, rfl⟩ := hidx j hj
    have hfl := EE.enc_flat _ _ _ (List.getElem_mem hk)
    exact (hl i hi k hk).oneCell hfl.2 (fun nm g u h => by cases h) (fun id g h => by rw [h] at hfl; cases hfl.1) (fun id g i off sz h => by rw [h] at hfl; cases hfl.1) (fun id i g h => by rw [h] at hfl; cases hfl.1) (fun id i g j off sz h => by rw [h] at hfl; cases hfl.1)
   ·rintro e w' ⟨v', rfl, h1, h2, h3⟩
    refine ⟨_, rfl, fresh_new h3 h1 h2 (fun i hi k hk => ?_), h3⟩
    have hk' : k < 4 := by
     have := hk
     rw [EE.enc_len] at this
     exact this
    rw [show i * UU.size .rect + k = i * 4 + k from rfl, map_range_getD _ _ _ (by
     have : i * 4 + 4 ≤ l.length * 4 := by
      have := Nat.mul_le_mul_right 4 (show i + 1 ≤ l.length from hi)
      omega
     omega)]
    exact hl i hi k hk
 ·cases hm
end
end Go.Proofs.YteffpgliiilnjaaGreatDoor
namespace Go.Proofs
open Go.RowKit Go.Extern
theorem Tryz.valueOf165 (t : Addr) (w : World) : (ReflectliteValue.unpack (.iface 165 (.pointer (some t)))).run Tryz.prog w
  = .ok (.agg #[.pointer (some ⟨9, 165, none⟩), .pointer (some ⟨w.heap.size, 0, none⟩), .int .u64 150]) (w.alloc (.cells #[.pointer (some t)] 165)) := by kernel_rfl
theorem Tryz.rtype165 (a : Addr) (w : World) : (ReflectliteValue.methodAny (ReflectliteValue.valueError "reflectlite.Value.Type" 0) (fun t _ _ _ => ReflectliteType.toType t) #[.agg #[.pointer (some ⟨9, 165, none⟩), .pointer (some a), .int .u64 150]]).run Tryz.prog w
  = .ok (.iface 244 (.agg #[.pointer (some ⟨9, 165, none⟩)])) w := by kernel_rfl
theorem Tryz.methodKind (h : Value) (w : World) : (Go.method 453 244 (.agg #[h]) "Kind").run Tryz.prog w = .ok (263, h) w := by kernel_rfl
theorem Tryz.kind165 (w : World) : ((ReflectliteType.abiMethod fun t => (fun a : Nat => Value.int IntKind.u8 (a : Int)) <$> Rtype.kind t) #[.pointer (some ⟨9, 165, none⟩)]).run Tryz.prog w = .ok (.int .u8 22) w := by kernel_rfl
theorem Tryz.kind161 (w : World) : ((ReflectliteType.abiMethod fun t => (fun a : Nat => Value.int IntKind.u8 (a : Int)) <$> Rtype.kind t) #[.pointer (some ⟨9, 161, none⟩)]).run Tryz.prog w = .ok (.int .u8 25) w := by kernel_rfl
theorem rlm (z : Sem Value) (f : TypeId → Addr → Nat → Nat → Sem Value) (v : Value) :
  ReflectliteValue.method z f #[v] = (do match ← ReflectliteValue.parts v with | none => z | some (t, a, fl) => f t a fl (fl % 32)) := rfl
theorem Tryz.parts165 (a : Addr) (w : World) : (ReflectliteValue.parts (.agg #[.pointer (some ⟨9, 165, none⟩), .pointer (some a), .int .u64 150])).run Tryz.prog w = .ok (some (165, a, 150)) w := by kernel_rfl
theorem Tryz.isNil165 (a p : Addr) (W : World) (ha : W.cell? a = some (.pointer (some p))) :
  (ReflectliteValue.method (ReflectliteValue.valueError "reflectlite.Value.IsNil" 0) ReflectliteValue.isNil #[.agg #[.pointer (some ⟨9, 165, none⟩), .pointer (some a), .int .u64 150]]).run Tryz.prog W = .ok (.bool false) W := by
 rw [rlm]
 simp only [Sem.run_bind, Tryz.parts165, Result.andThen]
 simp [ReflectliteValue.isNil, loadVar, isAgg, underlying, Tryz.underlying165, ha, Result.andThen]
theorem Tryz.methodElem (h : Value) (w : World) : (Go.method 453 244 (.agg #[h]) "Elem").run Tryz.prog w = .ok (274, .agg #[h]) w := by kernel_rfl
theorem Tryz.methodImplements (h : Value) (w : World) : (Go.method 453 244 (.agg #[h]) "Implements").run Tryz.prog w = .ok (275, .agg #[h]) w := by kernel_rfl
theorem Tryz.methodAssignableTo (h : Value) (w : World) : (Go.method 453 244 (.agg #[h]) "AssignableTo").run Tryz.prog w = .ok (272, .agg #[h]) w := by kernel_rfl
theorem Tryz.elem165 (w : World) : (ReflectliteType.method ReflectliteType.elem #[.agg #[.pointer (some ⟨9, 165, none⟩)]]).run Tryz.prog w = .ok (.iface 244 (.agg #[.pointer (some ⟨9, 161, none⟩)])) w := by kernel_rfl
theorem Tryz.implements161 (w : World) : (ReflectliteType.relation "Implements" ReflectliteType.implements_ #[.agg #[.pointer (some ⟨9, 161, none⟩)], .iface 244 (.agg #[.pointer (some ⟨9, 73, none⟩)])]).run Tryz.prog w = .ok (.bool true) w := by kernel_rfl
theorem Tryz.typeOf161 (v : Value) (w : World) : (ReflectliteType.typeOf #[.iface 161 v]).run Tryz.prog w = .ok (.iface 244 (.agg #[.pointer (some ⟨9, 161, none⟩)])) w := by kernel_rfl
theorem Tryz.assignable161 (w : World) : (ReflectliteType.relation "AssignableTo" ReflectliteType.assignableTo #[.agg #[.pointer (some ⟨9, 161, none⟩)], .iface 244 (.agg #[.pointer (some ⟨9, 161, none⟩)])]).run Tryz.prog w = .ok (.bool true) w := by kernel_rfl
theorem Tryz.valueOf161 (n : Int) (w : World) : (ReflectliteValue.unpack (.iface 161 (.agg #[.int .i64 n]))).run Tryz.prog w
  = .ok (.agg #[.pointer (some ⟨9, 161, none⟩), .pointer (some ⟨w.heap.size, 0, none⟩), .int .u64 153]) (w.alloc (.cells #[.int .i64 n] 161)) := by kernel_rfl
theorem Tryz.elemOf165 (w : World) : (Rtype.elem? 165).run Tryz.prog w = .ok (some 161) w := by kernel_rfl
theorem Tryz.mk161 (p : Addr) (w : World) : (ReflectliteValue.mk 161 p ReflectliteValue.flagAddr).run Tryz.prog w = .ok (.agg #[.pointer (some ⟨9, 161, none⟩), .pointer (some p), .int .u64 409]) w := by kernel_rfl
theorem Tryz.elemV165 (a p : Addr) (W : World) (ha : W.cell? a = some (.pointer (some p))) :
  (ReflectliteValue.method (ReflectliteValue.valueError "reflectlite.Value.Elem" 0) ReflectliteValue.elem #[.agg #[.pointer (some ⟨9, 165, none⟩), .pointer (some a), .int .u64 150]]).run Tryz.prog W
   = .ok (.agg #[.pointer (some ⟨9, 161, none⟩), .pointer (some p), .int .u64 409]) W := by
 rw [rlm]
 simp only [Sem.run_bind, Tryz.parts165, Result.andThen]
 simp [ReflectliteValue.elem, loadVar, isAgg, underlying, Tryz.underlying165, ha, Result.andThen, Tryz.elemOf165, Tryz.mk161]
theorem rls (v x : Value) : ReflectliteValue.set #[v, x] = (do
  let (some (dst, a, fl), some (src, b, _)) := (← ReflectliteValue.parts v, ← ReflectliteValue.parts x)
   | unsupported (.noEntry "extern/(internal/reflectlite.Value).Set.zeroValue")
  if fl / ReflectliteValue.flagAddr % 2 == 0 then unsupported (.noEntry "extern/(internal/reflectlite.Value).Set.unaddressable")
  let val ← loadVar src b
  if ← Rtype.directlyAssignable dst src then storeVar dst a val
  else if ← Rtype.implements dst src then
   if (← Rtype.kind src) == 20 then
    match val with
    | .nilIface => unsupported (.noEntry "extern/reflectlite: a nil value of one interface type handed on as a value of another")
    | _ => storeVar dst a val
   else storeVar dst a (.iface src val)
  else panicString ("reflectlite.Set: value of type " ++ (← Rtype.spelt src) ++ " is not assignable to type " ++ (← Rtype.spelt dst))
  pure (.tuple #[])) := rfl
theorem Tryz.parts161a (a : Addr) (w : World) : (ReflectliteValue.parts (.agg #[.pointer (some ⟨9, 161, none⟩), .pointer (some a), .int .u64 409])).run Tryz.prog w = .ok (some (161, a, 409)) w := by kernel_rfl
theorem Tryz.parts161 (a : Addr) (w : World) : (ReflectliteValue.parts (.agg #[.pointer (some ⟨9, 161, none⟩), .pointer (some a), .int .u64 153])).run Tryz.prog w = .ok (some (161, a, 153)) w := by kernel_rfl
theorem Tryz.direct161 (w : World) : (Rtype.directlyAssignable 161 161).run Tryz.prog w = .ok true w := by kernel_rfl
theorem Tryz.set161 (ta b : Addr) (n : Int) (old : Value) (W : World) (hb : W.cell? b = some (.int .i64 n)) (ht : W.cell? ta = some old) (hf : W.frozen? ta = false) :
  (ReflectliteValue.set #[.agg #[.pointer (some ⟨9, 161, none⟩), .pointer (some ta), .int .u64 409], .agg #[.pointer (some ⟨9, 161, none⟩), .pointer (some b), .int .u64 153]]).run Tryz.prog W
   = .ok (.tuple #[]) (W.setCell ta (.int .i64 n)) := by
 have hl : (loadVar 161 b).run Tryz.prog W = .ok (.agg #[.int .i64 n]) W := by
  simp [loadVar, isAgg, underlying, Tryz.underlying161, Result.andThen, loadCells, loadCellsFrom, hb, Addr.add]
 rw [rls]
 simp only [Sem.run_bind, Tryz.parts161a, Tryz.parts161, Result.andThen]
 simp only [ReflectliteValue.flagAddr]
 simp [hl, Result.andThen, Tryz.direct161, storeVar, Value.cells, storeCells, Addr.add]
 rw [run_store Tryz.prog W ta _ _ (by rfl)]
 simp [ht, hf]
end Go.Proofs
