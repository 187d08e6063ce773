/- Texts of this proof, one behind another: That the code says what the printed pieces say, by the kernel; printed by gen.py. Conditio; That the code says what the printed pieces say, by the kernel; printed by gen.py. Conditio; That the code says what the printed pieces say, by the kernel; printed by gen.py. Conditio; That the code says what the printed pieces say, by the kernel; printed by gen.py. Conditio; That the code says what the printed pieces say, by the kernel; printed by gen.py. Conditio; DERIVED: THE SHELF's CONTRACTS AT THIS DUMP, IN PLAIN WORDS (tools/lay-plain.mjs out of 'T; What geom.sorted returns: the different numbers in order, in memory of its own. Conditions; That the code says what the printed pieces say, by the kernel; printed by gen.py. Conditio; That the code says what the printed pieces say, by the kernel; printed by gen.py. Conditio; That the code says what the printed pieces say, by the kernel; printed by gen.py. Conditio. Conditions: none. -/
import Derived.Test.YtohecfbnmmgimaaSf4
import Derived.Test.YtohecfbnmmgimaaSf5
import Derived.Shelf.Small.Bits
import Derived.Shelf.Small.Wraps
import Derived.Ground.Names2Prog
import Derived.Shelf.Slices.Clone
import Derived.Shelf.Slices.CompactI
import Derived.Ground.SlsfProg
import Derived.Shelf.SlSortCmp.NoneTotal
import Derived.Test.YtohecfbnmmgimaaProg
import Derived.Lib.OwnBridge
import Derived.WalkKit
namespace Go.Proofs.Ytohecfbnmmgimaa
open Go.Vm Go.RowKit
set_option linter.unusedVariables false
noncomputable section
def k_flat_inRange_0 (F : Nat) (Post : AVal UU → Prop) : AEx → ASt UU → Prop := kBlock 0 (kSeq C_ref03_lineIn Try.f55.ntmps M_flat_inRange F 0 (cS (cS (bo Try.f55))) (AEnds C_ref03_lineIn false Try.f55 Post))
set_option maxRecDepth 100000 in
theorem step_flat_inRange_0 (F n r : Nat) (K : AEx → ASt UU → Prop) (t2 : Bool) (t14 : Int) (t15 : Int) (l26 : List Int) : iter (exec C_ref03_lineIn Try.f55.ntmps M_flat_inRange F 0 (cL (cB (cS (cF (cS (bo Try.f55))))))) (M_flat_inRange 0) (n + 1) r (st_flat_inRange_0 t2 t14 t15 l26) K = g_flat_inRange_s0 (fun t2 t14 t15 l26 => iter (exec C_ref03_lineIn Try.f55.ntmps M_flat_inRange F 0 (cL (cB (cS (cF (cS (bo Try.f55))))))) (M_flat_inRange 0) n (r + 1) (st_flat_inRange_0 t2 t14 t15 l26) K) (fun t2 t14 t15 l26 => K .ret (st_flat_inRange_0 t2 t14 t15 l26)) (fun t2 t14 t15 l26 => K (.exit 0) (st_flat_inRange_0 t2 t14 t15 l26)) t2 t14 t15 l26 := by kernel_rfl
set_option maxRecDepth 100000 in
theorem cont_flat_inRange_0_0 (F : Nat) (Post : AVal UU → Prop) (t2 : Bool) (t14 : Int) (t15 : Int) (l26 : List Int) : k_flat_inRange_0 F Post .ret (st_flat_inRange_0 t2 t14 t15 l26) = g_flat_inRange_c0_0 (fun r0 => Post (.bool r0)) t2 t14 t15 l26 := by kernel_rfl
set_option maxRecDepth 100000 in
theorem cont_flat_inRange_0_1 (F : Nat) (Post : AVal UU → Prop) (t2 : Bool) (t14 : Int) (t15 : Int) (l26 : List Int) : k_flat_inRange_0 F Post (.exit 0) (st_flat_inRange_0 t2 t14 t15 l26) = g_flat_inRange_c0_1 (fun r0 => Post (.bool r0)) t2 t14 t15 l26 := by kernel_rfl
set_option maxRecDepth 100000 in
theorem entry_flat_inRange (F : Nat) (Post : AVal UU → Prop) (a0_X1 : Int) (a0_Y1 : Int) (a0_X2 : Int) (a0_Y2 : Int) : exec C_ref03_lineIn Try.f55.ntmps M_flat_inRange F 0 (bo Try.f55) (initSt [.agg [.int .i64 a0_X1, .int .i64 a0_Y1, .int .i64 a0_X2, .int .i64 a0_Y2]]) (AEnds C_ref03_lineIn false Try.f55 Post) = g_flat_inRange_e a0_X1 a0_Y1 a0_X2 a0_Y2 (fun r0 => Post (.bool r0)) (fun t2 t14 t15 l26 => iter (exec C_ref03_lineIn Try.f55.ntmps M_flat_inRange F 0 (cL (cB (cS (cF (cS (bo Try.f55))))))) (M_flat_inRange 0) F 0 (st_flat_inRange_0 t2 t14 t15 l26) (k_flat_inRange_0 F Post)) := by kernel_rfl
theorem loop_flat_inRange_0 (F : Nat) (K : AEx → ASt UU → Prop) : ∀ (n r : Nat) (t2 : Bool) (t14 : Int) (t15 : Int) (l26 : List Int), iter (exec C_ref03_lineIn Try.f55.ntmps M_flat_inRange F 0 (cL (cB (cS (cF (cS (bo Try.f55))))))) (M_flat_inRange 0) n r (st_flat_inRange_0 t2 t14 t15 l26) K = w_flat_inRange_0 F  (fun t2 t14 t15 l26 => K .ret (st_flat_inRange_0 t2 t14 t15 l26)) (fun t2 t14 t15 l26 => K (.exit 0) (st_flat_inRange_0 t2 t14 t15 l26)) n t2 t14 t15 l26 := by
  intro n
  induction n with
  | zero => intros; rfl
  | succ n ih =>
    intro r t2 t14 t15 l26
    have e : (fun t2 t14 t15 l26 => iter (exec C_ref03_lineIn Try.f55.ntmps M_flat_inRange F 0 (cL (cB (cS (cF (cS (bo Try.f55))))))) (M_flat_inRange 0) n (r + 1) (st_flat_inRange_0 t2 t14 t15 l26) K) = w_flat_inRange_0 F  (fun t2 t14 t15 l26 => K .ret (st_flat_inRange_0 t2 t14 t15 l26)) (fun t2 t14 t15 l26 => K (.exit 0) (st_flat_inRange_0 t2 t14 t15 l26)) n := by
      funext t2 t14 t15 l26
      exact ih (r + 1) t2 t14 t15 l26
    rw [step_flat_inRange_0, e]
    rfl
theorem nl_flat_inRange_0 (F : Nat) (Post : AVal UU → Prop) (t2 : Bool) (t14 : Int) (t15 : Int) (l26 : List Int) : iter (exec C_ref03_lineIn Try.f55.ntmps M_flat_inRange F 0 (cL (cB (cS (cF (cS (bo Try.f55))))))) (M_flat_inRange 0) F 0 (st_flat_inRange_0 t2 t14 t15 l26) (k_flat_inRange_0 F Post) = n_flat_inRange_0 F (fun r0 => Post (.bool r0)) t2 t14 t15 l26 := by
  rw [loop_flat_inRange_0]
  have h0 : (fun t2 t14 t15 l26 => k_flat_inRange_0 F Post .ret (st_flat_inRange_0 t2 t14 t15 l26)) = (fun t2 t14 t15 l26 => g_flat_inRange_c0_0 (fun r0 => Post (.bool r0)) t2 t14 t15 l26) := by
    funext t2 t14 t15 l26
    rw [cont_flat_inRange_0_0]
  have h1 : (fun t2 t14 t15 l26 => k_flat_inRange_0 F Post (.exit 0) (st_flat_inRange_0 t2 t14 t15 l26)) = (fun t2 t14 t15 l26 => g_flat_inRange_c0_1 (fun r0 => Post (.bool r0)) t2 t14 t15 l26) := by
    funext t2 t14 t15 l26
    rw [cont_flat_inRange_0_1]
  rw [h0, h1]
  rfl
theorem exec_flat_inRange (F : Nat) (Post : AVal UU → Prop) (a0_X1 : Int) (a0_Y1 : Int) (a0_X2 : Int) (a0_Y2 : Int) : exec C_ref03_lineIn Try.f55.ntmps M_flat_inRange F 0 (bo Try.f55) (initSt [.agg [.int .i64 a0_X1, .int .i64 a0_Y1, .int .i64 a0_X2, .int .i64 a0_Y2]]) (AEnds C_ref03_lineIn false Try.f55 Post) = w_flat_inRange F a0_X1 a0_Y1 a0_X2 a0_Y2 (fun r0 => Post (.bool r0)) := by
  rw [entry_flat_inRange]
  have e0 : (fun t2 t14 t15 l26 => iter (exec C_ref03_lineIn Try.f55.ntmps M_flat_inRange F 0 (cL (cB (cS (cF (cS (bo Try.f55))))))) (M_flat_inRange 0) F 0 (st_flat_inRange_0 t2 t14 t15 l26) (k_flat_inRange_0 F Post)) = (n_flat_inRange_0 F (fun r0 => Post (.bool r0))) := by
    funext t2 t14 t15 l26
    exact nl_flat_inRange_0 F Post t2 t14 t15 l26
  rw [e0]
  rfl
def m_flat_inRange : Model UU
  | [.agg [.int .i64 a0_X1, .int .i64 a0_Y1, .int .i64 a0_X2, .int .i64 a0_Y2]] => some ([], .bool (sp_flat_inRange a0_X1 a0_Y1 a0_X2 a0_Y2))
  | _ => none
def C_flat_inRange : Cfg UU := C_ref03_lineIn.add 55 m_flat_inRange
theorem s_flat_inRange : SumOK C_flat_inRange := by
  refine s_ref03_lineIn.addD mixed (fn := Try.f55) (c := bo Try.f55) Try.func55 (by kernel_rfl) (by kernel_rfl) ?_
  intro xs cs r h hc
  unfold m_flat_inRange at h
  split at h
  · rename_i a0_X1 a0_Y1 a0_X2 a0_Y2
    cases h
    obtain ⟨F, hF⟩ := ok_flat_inRange a0_X1 a0_Y1 a0_X2 a0_Y2
    refine ⟨by kernel_rfl, M_flat_inRange, F, false, ⟨?_⟩⟩
    rw [exec_flat_inRange]
    refine hF _ ?_
    rfl
  · cases h
def k_ref01_CheckRects_0 (F : Nat) (Post : AVal UU → Prop) : AEx → ASt UU → Prop := kBlock 0 (kSeq C_flat_inRange Try.f80.ntmps M_ref01_CheckRects F 0 (cS (cS (cS (bo Try.f80)))) (AEnds C_flat_inRange false Try.f80 Post))
set_option maxRecDepth 100000 in
theorem step_ref01_CheckRects_0 (F n r : Nat) (K : AEx → ASt UU → Prop) (t0 : List Rect) (t2 : Int) (t3 : Int) : iter (exec C_flat_inRange Try.f80.ntmps M_ref01_CheckRects F 0 (cL (cB (cS (cF (cS (cS (bo Try.f80)))))))) (M_ref01_CheckRects 0) (n + 1) r (st_ref01_CheckRects_0 t0 t2 t3) K = g_ref01_CheckRects_s0 (fun t0 t2 t3 => iter (exec C_flat_inRange Try.f80.ntmps M_ref01_CheckRects F 0 (cL (cB (cS (cF (cS (cS (bo Try.f80)))))))) (M_ref01_CheckRects 0) n (r + 1) (st_ref01_CheckRects_0 t0 t2 t3) K) (fun t0 t2 t3 => K .ret (st_ref01_CheckRects_0 t0 t2 t3)) (fun t0 t2 t3 => K (.exit 0) (st_ref01_CheckRects_0 t0 t2 t3)) t0 t2 t3 := by kernel_rfl
set_option maxRecDepth 100000 in
theorem cont_ref01_CheckRects_0_0 (F : Nat) (Post : AVal UU → Prop) (t0 : List Rect) (t2 : Int) (t3 : Int) : k_ref01_CheckRects_0 F Post .ret (st_ref01_CheckRects_0 t0 t2 t3) = g_ref01_CheckRects_c0_0 (fun r0 => Post (.int .i64 r0)) t0 t2 t3 := by kernel_rfl
set_option maxRecDepth 100000 in
theorem cont_ref01_CheckRects_0_1 (F : Nat) (Post : AVal UU → Prop) (t0 : List Rect) (t2 : Int) (t3 : Int) : k_ref01_CheckRects_0 F Post (.exit 0) (st_ref01_CheckRects_0 t0 t2 t3) = g_ref01_CheckRects_c0_1 (fun r0 => Post (.int .i64 r0)) t0 t2 t3 := by kernel_rfl
set_option maxRecDepth 100000 in
theorem entry_ref01_CheckRects (F : Nat) (Post : AVal UU → Prop) (a0 : List Rect) : exec C_flat_inRange Try.f80.ntmps M_ref01_CheckRects F 0 (bo Try.f80) (initSt [.sl .rect a0]) (AEnds C_flat_inRange false Try.f80 Post) = g_ref01_CheckRects_e a0 (fun r0 => Post (.int .i64 r0)) (fun t0 t2 t3 => iter (exec C_flat_inRange Try.f80.ntmps M_ref01_CheckRects F 0 (cL (cB (cS (cF (cS (cS (bo Try.f80)))))))) (M_ref01_CheckRects 0) F 0 (st_ref01_CheckRects_0 t0 t2 t3) (k_ref01_CheckRects_0 F Post)) := by kernel_rfl
theorem loop_ref01_CheckRects_0 (F : Nat) (K : AEx → ASt UU → Prop) : ∀ (n r : Nat) (t0 : List Rect) (t2 : Int) (t3 : Int), iter (exec C_flat_inRange Try.f80.ntmps M_ref01_CheckRects F 0 (cL (cB (cS (cF (cS (cS (bo Try.f80)))))))) (M_ref01_CheckRects 0) n r (st_ref01_CheckRects_0 t0 t2 t3) K = w_ref01_CheckRects_0 F  (fun t0 t2 t3 => K .ret (st_ref01_CheckRects_0 t0 t2 t3)) (fun t0 t2 t3 => K (.exit 0) (st_ref01_CheckRects_0 t0 t2 t3)) n t0 t2 t3 := by
  intro n
  induction n with
  | zero => intros; rfl
  | succ n ih =>
    intro r t0 t2 t3
    have e : (fun t0 t2 t3 => iter (exec C_flat_inRange Try.f80.ntmps M_ref01_CheckRects F 0 (cL (cB (cS (cF (cS (cS (bo Try.f80)))))))) (M_ref01_CheckRects 0) n (r + 1) (st_ref01_CheckRects_0 t0 t2 t3) K) = w_ref01_CheckRects_0 F  (fun t0 t2 t3 => K .ret (st_ref01_CheckRects_0 t0 t2 t3)) (fun t0 t2 t3 => K (.exit 0) (st_ref01_CheckRects_0 t0 t2 t3)) n := by
      funext t0 t2 t3
      exact ih (r + 1) t0 t2 t3
    rw [step_ref01_CheckRects_0, e]
    rfl
theorem nl_ref01_CheckRects_0 (F : Nat) (Post : AVal UU → Prop) (t0 : List Rect) (t2 : Int) (t3 : Int) : iter (exec C_flat_inRange Try.f80.ntmps M_ref01_CheckRects F 0 (cL (cB (cS (cF (cS (cS (bo Try.f80)))))))) (M_ref01_CheckRects 0) F 0 (st_ref01_CheckRects_0 t0 t2 t3) (k_ref01_CheckRects_0 F Post) = n_ref01_CheckRects_0 F (fun r0 => Post (.int .i64 r0)) t0 t2 t3 := by
  rw [loop_ref01_CheckRects_0]
  have h0 : (fun t0 t2 t3 => k_ref01_CheckRects_0 F Post .ret (st_ref01_CheckRects_0 t0 t2 t3)) = (fun t0 t2 t3 => g_ref01_CheckRects_c0_0 (fun r0 => Post (.int .i64 r0)) t0 t2 t3) := by
    funext t0 t2 t3
    rw [cont_ref01_CheckRects_0_0]
  have h1 : (fun t0 t2 t3 => k_ref01_CheckRects_0 F Post (.exit 0) (st_ref01_CheckRects_0 t0 t2 t3)) = (fun t0 t2 t3 => g_ref01_CheckRects_c0_1 (fun r0 => Post (.int .i64 r0)) t0 t2 t3) := by
    funext t0 t2 t3
    rw [cont_ref01_CheckRects_0_1]
  rw [h0, h1]
  rfl
theorem exec_ref01_CheckRects (F : Nat) (Post : AVal UU → Prop) (a0 : List Rect) : exec C_flat_inRange Try.f80.ntmps M_ref01_CheckRects F 0 (bo Try.f80) (initSt [.sl .rect a0]) (AEnds C_flat_inRange false Try.f80 Post) = w_ref01_CheckRects F a0 (fun r0 => Post (.int .i64 r0)) := by
  rw [entry_ref01_CheckRects]
  have e0 : (fun t0 t2 t3 => iter (exec C_flat_inRange Try.f80.ntmps M_ref01_CheckRects F 0 (cL (cB (cS (cF (cS (cS (bo Try.f80)))))))) (M_ref01_CheckRects 0) F 0 (st_ref01_CheckRects_0 t0 t2 t3) (k_ref01_CheckRects_0 F Post)) = (n_ref01_CheckRects_0 F (fun r0 => Post (.int .i64 r0))) := by
    funext t0 t2 t3
    exact nl_ref01_CheckRects_0 F Post t0 t2 t3
  rw [e0]
  rfl
def m_ref01_CheckRects : Model UU
  | [.sl .rect a0] => some ([], .int .i64 (sp_ref01_CheckRects a0))
  | _ => none
def C_ref01_CheckRects : Cfg UU := C_flat_inRange.add 80 m_ref01_CheckRects
theorem s_ref01_CheckRects : SumOK C_ref01_CheckRects := by
  refine s_flat_inRange.addD mixed (fn := Try.f80) (c := bo Try.f80) Try.func80 (by kernel_rfl) (by kernel_rfl) ?_
  intro xs cs r h hc
  unfold m_ref01_CheckRects at h
  split at h
  · rename_i a0
    cases h
    obtain ⟨F, hF⟩ := ok_ref01_CheckRects a0
    refine ⟨by kernel_rfl, M_ref01_CheckRects, F, false, ⟨?_⟩⟩
    rw [exec_ref01_CheckRects]
    refine hF _ ?_
    rfl
  · cases h
def k_flat_bounds_0 (F : Nat) (Post : AVal UU → Prop) : AEx → ASt UU → Prop := kBlock 0 (kSeq C_ref01_CheckRects Try.f29.ntmps M_flat_bounds F 0 (cS (cS (cS (bo Try.f29)))) (AEnds C_ref01_CheckRects false Try.f29 Post))
set_option maxRecDepth 100000 in
theorem step_flat_bounds_0 (F n r : Nat) (K : AEx → ASt UU → Prop) (t12 : List Rect) (t13 : Int) (t14 : Int) (c2_0 : Int) (c2_1 : Int) (c2_2 : Int) (c2_3 : Int) (c3_0 : Int) (c3_1 : Int) (c3_2 : Int) (c3_3 : Int) : iter (exec C_ref01_CheckRects Try.f29.ntmps M_flat_bounds F 0 (cL (cB (cS (cF (cS (cS (bo Try.f29)))))))) (M_flat_bounds 0) (n + 1) r (st_flat_bounds_0 t12 t13 t14 c2_0 c2_1 c2_2 c2_3 c3_0 c3_1 c3_2 c3_3) K = g_flat_bounds_s0 (fun t12 t13 t14 c2_0 c2_1 c2_2 c2_3 c3_0 c3_1 c3_2 c3_3 => iter (exec C_ref01_CheckRects Try.f29.ntmps M_flat_bounds F 0 (cL (cB (cS (cF (cS (cS (bo Try.f29)))))))) (M_flat_bounds 0) n (r + 1) (st_flat_bounds_0 t12 t13 t14 c2_0 c2_1 c2_2 c2_3 c3_0 c3_1 c3_2 c3_3) K) (fun t12 t13 t14 c2_0 c2_1 c2_2 c2_3 c3_0 c3_1 c3_2 c3_3 => K (.exit 0) (st_flat_bounds_0 t12 t13 t14 c2_0 c2_1 c2_2 c2_3 c3_0 c3_1 c3_2 c3_3)) t12 t13 t14 c2_0 c2_1 c2_2 c2_3 c3_0 c3_1 c3_2 c3_3 := by kernel_rfl
set_option maxRecDepth 100000 in
theorem cont_flat_bounds_0_0 (F : Nat) (Post : AVal UU → Prop) (t12 : List Rect) (t13 : Int) (t14 : Int) (c2_0 : Int) (c2_1 : Int) (c2_2 : Int) (c2_3 : Int) (c3_0 : Int) (c3_1 : Int) (c3_2 : Int) (c3_3 : Int) : k_flat_bounds_0 F Post (.exit 0) (st_flat_bounds_0 t12 t13 t14 c2_0 c2_1 c2_2 c2_3 c3_0 c3_1 c3_2 c3_3) = g_flat_bounds_c0_0 (fun r0_X r0_Y r0_W r0_H => Post (.agg [.int .i64 r0_X, .int .i64 r0_Y, .int .i64 r0_W, .int .i64 r0_H])) t12 t13 t14 c2_0 c2_1 c2_2 c2_3 c3_0 c3_1 c3_2 c3_3 := by kernel_rfl
set_option maxRecDepth 100000 in
theorem entry_flat_bounds (F : Nat) (Post : AVal UU → Prop) (a0 : List Rect) : exec C_ref01_CheckRects Try.f29.ntmps M_flat_bounds F 0 (bo Try.f29) (initSt [.sl .rect a0]) (AEnds C_ref01_CheckRects false Try.f29 Post) = g_flat_bounds_e a0 (fun r0_X r0_Y r0_W r0_H => Post (.agg [.int .i64 r0_X, .int .i64 r0_Y, .int .i64 r0_W, .int .i64 r0_H])) (fun t12 t13 t14 c2_0 c2_1 c2_2 c2_3 c3_0 c3_1 c3_2 c3_3 => iter (exec C_ref01_CheckRects Try.f29.ntmps M_flat_bounds F 0 (cL (cB (cS (cF (cS (cS (bo Try.f29)))))))) (M_flat_bounds 0) F 0 (st_flat_bounds_0 t12 t13 t14 c2_0 c2_1 c2_2 c2_3 c3_0 c3_1 c3_2 c3_3) (k_flat_bounds_0 F Post)) := by kernel_rfl
theorem loop_flat_bounds_0 (F : Nat) (K : AEx → ASt UU → Prop) : ∀ (n r : Nat) (t12 : List Rect) (t13 : Int) (t14 : Int) (c2_0 : Int) (c2_1 : Int) (c2_2 : Int) (c2_3 : Int) (c3_0 : Int) (c3_1 : Int) (c3_2 : Int) (c3_3 : Int), iter (exec C_ref01_CheckRects Try.f29.ntmps M_flat_bounds F 0 (cL (cB (cS (cF (cS (cS (bo Try.f29)))))))) (M_flat_bounds 0) n r (st_flat_bounds_0 t12 t13 t14 c2_0 c2_1 c2_2 c2_3 c3_0 c3_1 c3_2 c3_3) K = w_flat_bounds_0 F  (fun t12 t13 t14 c2_0 c2_1 c2_2 c2_3 c3_0 c3_1 c3_2 c3_3 => K (.exit 0) (st_flat_bounds_0 t12 t13 t14 c2_0 c2_1 c2_2 c2_3 c3_0 c3_1 c3_2 c3_3)) n t12 t13 t14 c2_0 c2_1 c2_2 c2_3 c3_0 c3_1 c3_2 c3_3 := by
  intro n
  induction n with
  | zero => intros; rfl
  | succ n ih =>
    intro r t12 t13 t14 c2_0 c2_1 c2_2 c2_3 c3_0 c3_1 c3_2 c3_3
    have e : (fun t12 t13 t14 c2_0 c2_1 c2_2 c2_3 c3_0 c3_1 c3_2 c3_3 => iter (exec C_ref01_CheckRects Try.f29.ntmps M_flat_bounds F 0 (cL (cB (cS (cF (cS (cS (bo Try.f29)))))))) (M_flat_bounds 0) n (r + 1) (st_flat_bounds_0 t12 t13 t14 c2_0 c2_1 c2_2 c2_3 c3_0 c3_1 c3_2 c3_3) K) = w_flat_bounds_0 F  (fun t12 t13 t14 c2_0 c2_1 c2_2 c2_3 c3_0 c3_1 c3_2 c3_3 => K (.exit 0) (st_flat_bounds_0 t12 t13 t14 c2_0 c2_1 c2_2 c2_3 c3_0 c3_1 c3_2 c3_3)) n := by
      funext t12 t13 t14 c2_0 c2_1 c2_2 c2_3 c3_0 c3_1 c3_2 c3_3
      exact ih (r + 1) t12 t13 t14 c2_0 c2_1 c2_2 c2_3 c3_0 c3_1 c3_2 c3_3
    rw [step_flat_bounds_0, e]
    rfl
theorem nl_flat_bounds_0 (F : Nat) (Post : AVal UU → Prop) (t12 : List Rect) (t13 : Int) (t14 : Int) (c2_0 : Int) (c2_1 : Int) (c2_2 : Int) (c2_3 : Int) (c3_0 : Int) (c3_1 : Int) (c3_2 : Int) (c3_3 : Int) : iter (exec C_ref01_CheckRects Try.f29.ntmps M_flat_bounds F 0 (cL (cB (cS (cF (cS (cS (bo Try.f29)))))))) (M_flat_bounds 0) F 0 (st_flat_bounds_0 t12 t13 t14 c2_0 c2_1 c2_2 c2_3 c3_0 c3_1 c3_2 c3_3) (k_flat_bounds_0 F Post) = n_flat_bounds_0 F (fun r0_X r0_Y r0_W r0_H => Post (.agg [.int .i64 r0_X, .int .i64 r0_Y, .int .i64 r0_W, .int .i64 r0_H])) t12 t13 t14 c2_0 c2_1 c2_2 c2_3 c3_0 c3_1 c3_2 c3_3 := by
  rw [loop_flat_bounds_0]
  have h0 : (fun t12 t13 t14 c2_0 c2_1 c2_2 c2_3 c3_0 c3_1 c3_2 c3_3 => k_flat_bounds_0 F Post (.exit 0) (st_flat_bounds_0 t12 t13 t14 c2_0 c2_1 c2_2 c2_3 c3_0 c3_1 c3_2 c3_3)) = (fun t12 t13 t14 c2_0 c2_1 c2_2 c2_3 c3_0 c3_1 c3_2 c3_3 => g_flat_bounds_c0_0 (fun r0_X r0_Y r0_W r0_H => Post (.agg [.int .i64 r0_X, .int .i64 r0_Y, .int .i64 r0_W, .int .i64 r0_H])) t12 t13 t14 c2_0 c2_1 c2_2 c2_3 c3_0 c3_1 c3_2 c3_3) := by
    funext t12 t13 t14 c2_0 c2_1 c2_2 c2_3 c3_0 c3_1 c3_2 c3_3
    rw [cont_flat_bounds_0_0]
  rw [h0]
  rfl
theorem exec_flat_bounds (F : Nat) (Post : AVal UU → Prop) (a0 : List Rect) : exec C_ref01_CheckRects Try.f29.ntmps M_flat_bounds F 0 (bo Try.f29) (initSt [.sl .rect a0]) (AEnds C_ref01_CheckRects false Try.f29 Post) = w_flat_bounds F a0 (fun r0_X r0_Y r0_W r0_H => Post (.agg [.int .i64 r0_X, .int .i64 r0_Y, .int .i64 r0_W, .int .i64 r0_H])) := by
  rw [entry_flat_bounds]
  have e0 : (fun t12 t13 t14 c2_0 c2_1 c2_2 c2_3 c3_0 c3_1 c3_2 c3_3 => iter (exec C_ref01_CheckRects Try.f29.ntmps M_flat_bounds F 0 (cL (cB (cS (cF (cS (cS (bo Try.f29)))))))) (M_flat_bounds 0) F 0 (st_flat_bounds_0 t12 t13 t14 c2_0 c2_1 c2_2 c2_3 c3_0 c3_1 c3_2 c3_3) (k_flat_bounds_0 F Post)) = (n_flat_bounds_0 F (fun r0_X r0_Y r0_W r0_H => Post (.agg [.int .i64 r0_X, .int .i64 r0_Y, .int .i64 r0_W, .int .i64 r0_H]))) := by
    funext t12 t13 t14 c2_0 c2_1 c2_2 c2_3 c3_0 c3_1 c3_2 c3_3
    exact nl_flat_bounds_0 F Post t12 t13 t14 c2_0 c2_1 c2_2 c2_3 c3_0 c3_1 c3_2 c3_3
  rw [e0]
  rfl
def m_flat_bounds : Model UU
  | [.sl .rect a0] => some ([pre_flat_bounds a0], .agg [.int .i64 ((sp_flat_bounds a0).1), .int .i64 ((sp_flat_bounds a0).2.1), .int .i64 ((sp_flat_bounds a0).2.2.1), .int .i64 ((sp_flat_bounds a0).2.2.2)])
  | _ => none
def C_flat_bounds : Cfg UU := C_ref01_CheckRects.add 29 m_flat_bounds
theorem s_flat_bounds : SumOK C_flat_bounds := by
  refine s_ref01_CheckRects.addD mixed (fn := Try.f29) (c := bo Try.f29) Try.func29 (by kernel_rfl) (by kernel_rfl) ?_
  intro xs cs r h hc
  unfold m_flat_bounds at h
  split at h
  · rename_i a0
    cases h
    obtain ⟨F, hF⟩ := ok_flat_bounds a0 hc
    refine ⟨by kernel_rfl, M_flat_bounds, F, false, ⟨?_⟩⟩
    rw [exec_flat_bounds]
    refine hF _ ?_
    rfl
  · cases h
def k_ref03_bounds_0 (F : Nat) (Post : AVal UU → Prop) : AEx → ASt UU → Prop := kBlock 0 (kSeq C_flat_bounds Try.f31.ntmps M_ref03_bounds F 0 (cS (cS (cS (bo Try.f31)))) (AEnds C_flat_bounds false Try.f31 Post))
set_option maxRecDepth 100000 in
theorem step_ref03_bounds_0 (F n r : Nat) (K : AEx → ASt UU → Prop) (t0 : List Rect) (t3 : Int) (t4 : Int) (t5 : Int) (t6 : Int) (t7 : Int) (c2_0 : Int) (c2_1 : Int) (c2_2 : Int) (c2_3 : Int) : iter (exec C_flat_bounds Try.f31.ntmps M_ref03_bounds F 0 (cL (cB (cS (cF (cS (cS (bo Try.f31)))))))) (M_ref03_bounds 0) (n + 1) r (st_ref03_bounds_0 t0 t3 t4 t5 t6 t7 c2_0 c2_1 c2_2 c2_3) K = g_ref03_bounds_s0 (fun t0 t3 t4 t5 t6 t7 c2_0 c2_1 c2_2 c2_3 => iter (exec C_flat_bounds Try.f31.ntmps M_ref03_bounds F 0 (cL (cB (cS (cF (cS (cS (bo Try.f31)))))))) (M_ref03_bounds 0) n (r + 1) (st_ref03_bounds_0 t0 t3 t4 t5 t6 t7 c2_0 c2_1 c2_2 c2_3) K) (fun t0 t3 t4 t5 t6 t7 c2_0 c2_1 c2_2 c2_3 => K (.exit 0) (st_ref03_bounds_0 t0 t3 t4 t5 t6 t7 c2_0 c2_1 c2_2 c2_3)) t0 t3 t4 t5 t6 t7 c2_0 c2_1 c2_2 c2_3 := by kernel_rfl
set_option maxRecDepth 100000 in
theorem cont_ref03_bounds_0_0 (F : Nat) (Post : AVal UU → Prop) (t0 : List Rect) (t3 : Int) (t4 : Int) (t5 : Int) (t6 : Int) (t7 : Int) (c2_0 : Int) (c2_1 : Int) (c2_2 : Int) (c2_3 : Int) : k_ref03_bounds_0 F Post (.exit 0) (st_ref03_bounds_0 t0 t3 t4 t5 t6 t7 c2_0 c2_1 c2_2 c2_3) = g_ref03_bounds_c0_0 (fun r0_X r0_Y r0_W r0_H => Post (.agg [.int .i64 r0_X, .int .i64 r0_Y, .int .i64 r0_W, .int .i64 r0_H])) t0 t3 t4 t5 t6 t7 c2_0 c2_1 c2_2 c2_3 := by kernel_rfl
set_option maxRecDepth 100000 in
theorem entry_ref03_bounds (F : Nat) (Post : AVal UU → Prop) (a0 : List Rect) : exec C_flat_bounds Try.f31.ntmps M_ref03_bounds F 0 (bo Try.f31) (initSt [.sl .rect a0]) (AEnds C_flat_bounds false Try.f31 Post) = g_ref03_bounds_e a0 (fun r0_X r0_Y r0_W r0_H => Post (.agg [.int .i64 r0_X, .int .i64 r0_Y, .int .i64 r0_W, .int .i64 r0_H])) (fun t0 t3 t4 t5 t6 t7 c2_0 c2_1 c2_2 c2_3 => iter (exec C_flat_bounds Try.f31.ntmps M_ref03_bounds F 0 (cL (cB (cS (cF (cS (cS (bo Try.f31)))))))) (M_ref03_bounds 0) F 0 (st_ref03_bounds_0 t0 t3 t4 t5 t6 t7 c2_0 c2_1 c2_2 c2_3) (k_ref03_bounds_0 F Post)) := by kernel_rfl
theorem loop_ref03_bounds_0 (F : Nat) (K : AEx → ASt UU → Prop) : ∀ (n r : Nat) (t0 : List Rect) (t3 : Int) (t4 : Int) (t5 : Int) (t6 : Int) (t7 : Int) (c2_0 : Int) (c2_1 : Int) (c2_2 : Int) (c2_3 : Int), iter (exec C_flat_bounds Try.f31.ntmps M_ref03_bounds F 0 (cL (cB (cS (cF (cS (cS (bo Try.f31)))))))) (M_ref03_bounds 0) n r (st_ref03_bounds_0 t0 t3 t4 t5 t6 t7 c2_0 c2_1 c2_2 c2_3) K = w_ref03_bounds_0 F  (fun t0 t3 t4 t5 t6 t7 c2_0 c2_1 c2_2 c2_3 => K (.exit 0) (st_ref03_bounds_0 t0 t3 t4 t5 t6 t7 c2_0 c2_1 c2_2 c2_3)) n t0 t3 t4 t5 t6 t7 c2_0 c2_1 c2_2 c2_3 := by
  intro n
  induction n with
  | zero => intros; rfl
  | succ n ih =>
    intro r t0 t3 t4 t5 t6 t7 c2_0 c2_1 c2_2 c2_3
    have e : (fun t0 t3 t4 t5 t6 t7 c2_0 c2_1 c2_2 c2_3 => iter (exec C_flat_bounds Try.f31.ntmps M_ref03_bounds F 0 (cL (cB (cS (cF (cS (cS (bo Try.f31)))))))) (M_ref03_bounds 0) n (r + 1) (st_ref03_bounds_0 t0 t3 t4 t5 t6 t7 c2_0 c2_1 c2_2 c2_3) K) = w_ref03_bounds_0 F  (fun t0 t3 t4 t5 t6 t7 c2_0 c2_1 c2_2 c2_3 => K (.exit 0) (st_ref03_bounds_0 t0 t3 t4 t5 t6 t7 c2_0 c2_1 c2_2 c2_3)) n := by
      funext t0 t3 t4 t5 t6 t7 c2_0 c2_1 c2_2 c2_3
      exact ih (r + 1) t0 t3 t4 t5 t6 t7 c2_0 c2_1 c2_2 c2_3
    rw [step_ref03_bounds_0, e]
    rfl
theorem nl_ref03_bounds_0 (F : Nat) (Post : AVal UU → Prop) (t0 : List Rect) (t3 : Int) (t4 : Int) (t5 : Int) (t6 : Int) (t7 : Int) (c2_0 : Int) (c2_1 : Int) (c2_2 : Int) (c2_3 : Int) : iter (exec C_flat_bounds Try.f31.ntmps M_ref03_bounds F 0 (cL (cB (cS (cF (cS (cS (bo Try.f31)))))))) (M_ref03_bounds 0) F 0 (st_ref03_bounds_0 t0 t3 t4 t5 t6 t7 c2_0 c2_1 c2_2 c2_3) (k_ref03_bounds_0 F Post) = n_ref03_bounds_0 F (fun r0_X r0_Y r0_W r0_H => Post (.agg [.int .i64 r0_X, .int .i64 r0_Y, .int .i64 r0_W, .int .i64 r0_H])) t0 t3 t4 t5 t6 t7 c2_0 c2_1 c2_2 c2_3 := by
  rw [loop_ref03_bounds_0]
  have h0 : (fun t0 t3 t4 t5 t6 t7 c2_0 c2_1 c2_2 c2_3 => k_ref03_bounds_0 F Post (.exit 0) (st_ref03_bounds_0 t0 t3 t4 t5 t6 t7 c2_0 c2_1 c2_2 c2_3)) = (fun t0 t3 t4 t5 t6 t7 c2_0 c2_1 c2_2 c2_3 => g_ref03_bounds_c0_0 (fun r0_X r0_Y r0_W r0_H => Post (.agg [.int .i64 r0_X, .int .i64 r0_Y, .int .i64 r0_W, .int .i64 r0_H])) t0 t3 t4 t5 t6 t7 c2_0 c2_1 c2_2 c2_3) := by
    funext t0 t3 t4 t5 t6 t7 c2_0 c2_1 c2_2 c2_3
    rw [cont_ref03_bounds_0_0]
  rw [h0]
  rfl
theorem exec_ref03_bounds (F : Nat) (Post : AVal UU → Prop) (a0 : List Rect) : exec C_flat_bounds Try.f31.ntmps M_ref03_bounds F 0 (bo Try.f31) (initSt [.sl .rect a0]) (AEnds C_flat_bounds false Try.f31 Post) = w_ref03_bounds F a0 (fun r0_X r0_Y r0_W r0_H => Post (.agg [.int .i64 r0_X, .int .i64 r0_Y, .int .i64 r0_W, .int .i64 r0_H])) := by
  rw [entry_ref03_bounds]
  have e0 : (fun t0 t3 t4 t5 t6 t7 c2_0 c2_1 c2_2 c2_3 => iter (exec C_flat_bounds Try.f31.ntmps M_ref03_bounds F 0 (cL (cB (cS (cF (cS (cS (bo Try.f31)))))))) (M_ref03_bounds 0) F 0 (st_ref03_bounds_0 t0 t3 t4 t5 t6 t7 c2_0 c2_1 c2_2 c2_3) (k_ref03_bounds_0 F Post)) = (n_ref03_bounds_0 F (fun r0_X r0_Y r0_W r0_H => Post (.agg [.int .i64 r0_X, .int .i64 r0_Y, .int .i64 r0_W, .int .i64 r0_H]))) := by
    funext t0 t3 t4 t5 t6 t7 c2_0 c2_1 c2_2 c2_3
    exact nl_ref03_bounds_0 F Post t0 t3 t4 t5 t6 t7 c2_0 c2_1 c2_2 c2_3
  rw [e0]
  rfl
def m_ref03_bounds : Model UU
  | [.sl .rect a0] => some ([pre_ref03_bounds a0], .agg [.int .i64 ((sp_ref03_bounds a0).1), .int .i64 ((sp_ref03_bounds a0).2.1), .int .i64 ((sp_ref03_bounds a0).2.2.1), .int .i64 ((sp_ref03_bounds a0).2.2.2)])
  | _ => none
def C_ref03_bounds : Cfg UU := C_flat_bounds.add 31 m_ref03_bounds
theorem s_ref03_bounds : SumOK C_ref03_bounds := by
  refine s_flat_bounds.addD mixed (fn := Try.f31) (c := bo Try.f31) Try.func31 (by kernel_rfl) (by kernel_rfl) ?_
  intro xs cs r h hc
  unfold m_ref03_bounds at h
  split at h
  · rename_i a0
    cases h
    obtain ⟨F, hF⟩ := ok_ref03_bounds a0 hc
    refine ⟨by kernel_rfl, M_ref03_bounds, F, false, ⟨?_⟩⟩
    rw [exec_ref03_bounds]
    refine hF _ ?_
    rfl
  · cases h
def k_ref01_CopyRects_0 (F : Nat) (Post : AVal UU → Prop) : AEx → ASt UU → Prop := kBlock 0 (kSeq C_ref03_bounds Try.f27.ntmps M_ref01_CopyRects F 0 (cS (cS (cS (bo Try.f27)))) (AEnds C_ref03_bounds true Try.f27 Post))
set_option maxRecDepth 100000 in
theorem step_ref01_CopyRects_0 (F n r : Nat) (K : AEx → ASt UU → Prop) (t0 : List Rect) (t4 : Int) (l19 : List Rect) : iter (exec C_ref03_bounds Try.f27.ntmps M_ref01_CopyRects F 0 (cL (cB (cS (cF (cS (cS (bo Try.f27)))))))) (M_ref01_CopyRects 0) (n + 1) r (st_ref01_CopyRects_0 t0 t4 l19) K = g_ref01_CopyRects_s0 (fun t0 t4 l19 => iter (exec C_ref03_bounds Try.f27.ntmps M_ref01_CopyRects F 0 (cL (cB (cS (cF (cS (cS (bo Try.f27)))))))) (M_ref01_CopyRects 0) n (r + 1) (st_ref01_CopyRects_0 t0 t4 l19) K) (fun t0 t4 l19 => K (.exit 0) (st_ref01_CopyRects_0 t0 t4 l19)) t0 t4 l19 := by kernel_rfl
set_option maxRecDepth 100000 in
theorem cont_ref01_CopyRects_0_0 (F : Nat) (Post : AVal UU → Prop) (t0 : List Rect) (t4 : Int) (l19 : List Rect) : k_ref01_CopyRects_0 F Post (.exit 0) (st_ref01_CopyRects_0 t0 t4 l19) = g_ref01_CopyRects_c0_0 (fun r0 => Post (.new .rect r0)) t0 t4 l19 := by kernel_rfl
set_option maxRecDepth 100000 in
theorem entry_ref01_CopyRects (F : Nat) (Post : AVal UU → Prop) (a0 : List Rect) : exec C_ref03_bounds Try.f27.ntmps M_ref01_CopyRects F 0 (bo Try.f27) (initSt [.sl .rect a0]) (AEnds C_ref03_bounds true Try.f27 Post) = g_ref01_CopyRects_e a0 (fun r0 => Post (.new .rect r0)) (fun t0 t4 l19 => iter (exec C_ref03_bounds Try.f27.ntmps M_ref01_CopyRects F 0 (cL (cB (cS (cF (cS (cS (bo Try.f27)))))))) (M_ref01_CopyRects 0) F 0 (st_ref01_CopyRects_0 t0 t4 l19) (k_ref01_CopyRects_0 F Post)) := by kernel_rfl
theorem loop_ref01_CopyRects_0 (F : Nat) (K : AEx → ASt UU → Prop) : ∀ (n r : Nat) (t0 : List Rect) (t4 : Int) (l19 : List Rect), iter (exec C_ref03_bounds Try.f27.ntmps M_ref01_CopyRects F 0 (cL (cB (cS (cF (cS (cS (bo Try.f27)))))))) (M_ref01_CopyRects 0) n r (st_ref01_CopyRects_0 t0 t4 l19) K = w_ref01_CopyRects_0 F  (fun t0 t4 l19 => K (.exit 0) (st_ref01_CopyRects_0 t0 t4 l19)) n t0 t4 l19 := by
  intro n
  induction n with
  | zero => intros; rfl
  | succ n ih =>
    intro r t0 t4 l19
    have e : (fun t0 t4 l19 => iter (exec C_ref03_bounds Try.f27.ntmps M_ref01_CopyRects F 0 (cL (cB (cS (cF (cS (cS (bo Try.f27)))))))) (M_ref01_CopyRects 0) n (r + 1) (st_ref01_CopyRects_0 t0 t4 l19) K) = w_ref01_CopyRects_0 F  (fun t0 t4 l19 => K (.exit 0) (st_ref01_CopyRects_0 t0 t4 l19)) n := by
      funext t0 t4 l19
      exact ih (r + 1) t0 t4 l19
    rw [step_ref01_CopyRects_0, e]
    rfl
theorem nl_ref01_CopyRects_0 (F : Nat) (Post : AVal UU → Prop) (t0 : List Rect) (t4 : Int) (l19 : List Rect) : iter (exec C_ref03_bounds Try.f27.ntmps M_ref01_CopyRects F 0 (cL (cB (cS (cF (cS (cS (bo Try.f27)))))))) (M_ref01_CopyRects 0) F 0 (st_ref01_CopyRects_0 t0 t4 l19) (k_ref01_CopyRects_0 F Post) = n_ref01_CopyRects_0 F (fun r0 => Post (.new .rect r0)) t0 t4 l19 := by
  rw [loop_ref01_CopyRects_0]
  have h0 : (fun t0 t4 l19 => k_ref01_CopyRects_0 F Post (.exit 0) (st_ref01_CopyRects_0 t0 t4 l19)) = (fun t0 t4 l19 => g_ref01_CopyRects_c0_0 (fun r0 => Post (.new .rect r0)) t0 t4 l19) := by
    funext t0 t4 l19
    rw [cont_ref01_CopyRects_0_0]
  rw [h0]
  rfl
theorem exec_ref01_CopyRects (F : Nat) (Post : AVal UU → Prop) (a0 : List Rect) : exec C_ref03_bounds Try.f27.ntmps M_ref01_CopyRects F 0 (bo Try.f27) (initSt [.sl .rect a0]) (AEnds C_ref03_bounds true Try.f27 Post) = w_ref01_CopyRects F a0 (fun r0 => Post (.new .rect r0)) := by
  rw [entry_ref01_CopyRects]
  have e0 : (fun t0 t4 l19 => iter (exec C_ref03_bounds Try.f27.ntmps M_ref01_CopyRects F 0 (cL (cB (cS (cF (cS (cS (bo Try.f27)))))))) (M_ref01_CopyRects 0) F 0 (st_ref01_CopyRects_0 t0 t4 l19) (k_ref01_CopyRects_0 F Post)) = (n_ref01_CopyRects_0 F (fun r0 => Post (.new .rect r0))) := by
    funext t0 t4 l19
    exact nl_ref01_CopyRects_0 F Post t0 t4 l19
  rw [e0]
  rfl
def m_ref01_CopyRects : Model UU
  | [.sl .rect a0] => some ([pre_ref01_CopyRects a0], .new .rect (sp_ref01_CopyRects a0))
  | _ => none
def C_ref01_CopyRects : Cfg UU := C_ref03_bounds.add 27 m_ref01_CopyRects
theorem s_ref01_CopyRects : SumOK C_ref01_CopyRects := by
  refine s_ref03_bounds.addD mixed (fn := Try.f27) (c := bo Try.f27) Try.func27 (by kernel_rfl) (by kernel_rfl) ?_
  intro xs cs r h hc
  unfold m_ref01_CopyRects at h
  split at h
  · rename_i a0
    cases h
    obtain ⟨F, hF⟩ := ok_ref01_CopyRects a0 hc
    refine ⟨by kernel_rfl, M_ref01_CopyRects, F, true, ⟨?_⟩⟩
    rw [exec_ref01_CopyRects]
    refine hF _ ?_
    rfl
  · cases h
def k_ref01_SameRects_0 (F : Nat) (Post : AVal UU → Prop) : AEx → ASt UU → Prop := kBlock 0 (kSeq C_ref01_CopyRects Try.f37.ntmps M_ref01_SameRects F 0 (cS (cS (cS (bo Try.f37)))) (AEnds C_ref01_CopyRects false Try.f37 Post))
set_option maxRecDepth 100000 in
theorem step_ref01_SameRects_0 (F n r : Nat) (K : AEx → ASt UU → Prop) (t0 : List Rect) (t1 : List Rect) (t4 : Bool) (t5 : Int) : iter (exec C_ref01_CopyRects Try.f37.ntmps M_ref01_SameRects F 0 (cL (cB (cS (cF (cS (cS (bo Try.f37)))))))) (M_ref01_SameRects 0) (n + 1) r (st_ref01_SameRects_0 t0 t1 t4 t5) K = g_ref01_SameRects_s0 (fun t0 t1 t4 t5 => iter (exec C_ref01_CopyRects Try.f37.ntmps M_ref01_SameRects F 0 (cL (cB (cS (cF (cS (cS (bo Try.f37)))))))) (M_ref01_SameRects 0) n (r + 1) (st_ref01_SameRects_0 t0 t1 t4 t5) K) (fun t0 t1 t4 t5 => K .ret (st_ref01_SameRects_0 t0 t1 t4 t5)) (fun t0 t1 t4 t5 => K (.exit 0) (st_ref01_SameRects_0 t0 t1 t4 t5)) t0 t1 t4 t5 := by kernel_rfl
set_option maxRecDepth 100000 in
theorem cont_ref01_SameRects_0_0 (F : Nat) (Post : AVal UU → Prop) (t0 : List Rect) (t1 : List Rect) (t4 : Bool) (t5 : Int) : k_ref01_SameRects_0 F Post .ret (st_ref01_SameRects_0 t0 t1 t4 t5) = g_ref01_SameRects_c0_0 (fun r0 => Post (.bool r0)) t0 t1 t4 t5 := by kernel_rfl
set_option maxRecDepth 100000 in
theorem cont_ref01_SameRects_0_1 (F : Nat) (Post : AVal UU → Prop) (t0 : List Rect) (t1 : List Rect) (t4 : Bool) (t5 : Int) : k_ref01_SameRects_0 F Post (.exit 0) (st_ref01_SameRects_0 t0 t1 t4 t5) = g_ref01_SameRects_c0_1 (fun r0 => Post (.bool r0)) t0 t1 t4 t5 := by kernel_rfl
set_option maxRecDepth 100000 in
theorem entry_ref01_SameRects (F : Nat) (Post : AVal UU → Prop) (a0 : List Rect) (a1 : List Rect) : exec C_ref01_CopyRects Try.f37.ntmps M_ref01_SameRects F 0 (bo Try.f37) (initSt [.sl .rect a0, .sl .rect a1]) (AEnds C_ref01_CopyRects false Try.f37 Post) = g_ref01_SameRects_e a0 a1 (fun r0 => Post (.bool r0)) (fun t0 t1 t4 t5 => iter (exec C_ref01_CopyRects Try.f37.ntmps M_ref01_SameRects F 0 (cL (cB (cS (cF (cS (cS (bo Try.f37)))))))) (M_ref01_SameRects 0) F 0 (st_ref01_SameRects_0 t0 t1 t4 t5) (k_ref01_SameRects_0 F Post)) := by kernel_rfl
theorem loop_ref01_SameRects_0 (F : Nat) (K : AEx → ASt UU → Prop) : ∀ (n r : Nat) (t0 : List Rect) (t1 : List Rect) (t4 : Bool) (t5 : Int), iter (exec C_ref01_CopyRects Try.f37.ntmps M_ref01_SameRects F 0 (cL (cB (cS (cF (cS (cS (bo Try.f37)))))))) (M_ref01_SameRects 0) n r (st_ref01_SameRects_0 t0 t1 t4 t5) K = w_ref01_SameRects_0 F  (fun t0 t1 t4 t5 => K .ret (st_ref01_SameRects_0 t0 t1 t4 t5)) (fun t0 t1 t4 t5 => K (.exit 0) (st_ref01_SameRects_0 t0 t1 t4 t5)) n t0 t1 t4 t5 := by
  intro n
  induction n with
  | zero => intros; rfl
  | succ n ih =>
    intro r t0 t1 t4 t5
    have e : (fun t0 t1 t4 t5 => iter (exec C_ref01_CopyRects Try.f37.ntmps M_ref01_SameRects F 0 (cL (cB (cS (cF (cS (cS (bo Try.f37)))))))) (M_ref01_SameRects 0) n (r + 1) (st_ref01_SameRects_0 t0 t1 t4 t5) K) = w_ref01_SameRects_0 F  (fun t0 t1 t4 t5 => K .ret (st_ref01_SameRects_0 t0 t1 t4 t5)) (fun t0 t1 t4 t5 => K (.exit 0) (st_ref01_SameRects_0 t0 t1 t4 t5)) n := by
      funext t0 t1 t4 t5
      exact ih (r + 1) t0 t1 t4 t5
    rw [step_ref01_SameRects_0, e]
    rfl
theorem nl_ref01_SameRects_0 (F : Nat) (Post : AVal UU → Prop) (t0 : List Rect) (t1 : List Rect) (t4 : Bool) (t5 : Int) : iter (exec C_ref01_CopyRects Try.f37.ntmps M_ref01_SameRects F 0 (cL (cB (cS (cF (cS (cS (bo Try.f37)))))))) (M_ref01_SameRects 0) F 0 (st_ref01_SameRects_0 t0 t1 t4 t5) (k_ref01_SameRects_0 F Post) = n_ref01_SameRects_0 F (fun r0 => Post (.bool r0)) t0 t1 t4 t5 := by
  rw [loop_ref01_SameRects_0]
  have h0 : (fun t0 t1 t4 t5 => k_ref01_SameRects_0 F Post .ret (st_ref01_SameRects_0 t0 t1 t4 t5)) = (fun t0 t1 t4 t5 => g_ref01_SameRects_c0_0 (fun r0 => Post (.bool r0)) t0 t1 t4 t5) := by
    funext t0 t1 t4 t5
    rw [cont_ref01_SameRects_0_0]
  have h1 : (fun t0 t1 t4 t5 => k_ref01_SameRects_0 F Post (.exit 0) (st_ref01_SameRects_0 t0 t1 t4 t5)) = (fun t0 t1 t4 t5 => g_ref01_SameRects_c0_1 (fun r0 => Post (.bool r0)) t0 t1 t4 t5) := by
    funext t0 t1 t4 t5
    rw [cont_ref01_SameRects_0_1]
  rw [h0, h1]
  rfl
theorem exec_ref01_SameRects (F : Nat) (Post : AVal UU → Prop) (a0 : List Rect) (a1 : List Rect) : exec C_ref01_CopyRects Try.f37.ntmps M_ref01_SameRects F 0 (bo Try.f37) (initSt [.sl .rect a0, .sl .rect a1]) (AEnds C_ref01_CopyRects false Try.f37 Post) = w_ref01_SameRects F a0 a1 (fun r0 => Post (.bool r0)) := by
  rw [entry_ref01_SameRects]
  have e0 : (fun t0 t1 t4 t5 => iter (exec C_ref01_CopyRects Try.f37.ntmps M_ref01_SameRects F 0 (cL (cB (cS (cF (cS (cS (bo Try.f37)))))))) (M_ref01_SameRects 0) F 0 (st_ref01_SameRects_0 t0 t1 t4 t5) (k_ref01_SameRects_0 F Post)) = (n_ref01_SameRects_0 F (fun r0 => Post (.bool r0))) := by
    funext t0 t1 t4 t5
    exact nl_ref01_SameRects_0 F Post t0 t1 t4 t5
  rw [e0]
  rfl
def m_ref01_SameRects : Model UU
  | [.sl .rect a0, .sl .rect a1] => some ([pre_ref01_SameRects a0 a1], .bool (sp_ref01_SameRects a0 a1))
  | _ => none
def C_ref01_SameRects : Cfg UU := C_ref01_CopyRects.add 37 m_ref01_SameRects
theorem s_ref01_SameRects : SumOK C_ref01_SameRects := by
  refine s_ref01_CopyRects.addD mixed (fn := Try.f37) (c := bo Try.f37) Try.func37 (by kernel_rfl) (by kernel_rfl) ?_
  intro xs cs r h hc
  unfold m_ref01_SameRects at h
  split at h
  · rename_i a0 a1
    cases h
    obtain ⟨F, hF⟩ := ok_ref01_SameRects a0 a1 hc
    refine ⟨by kernel_rfl, M_ref01_SameRects, F, false, ⟨?_⟩⟩
    rw [exec_ref01_SameRects]
    refine hF _ ?_
    rfl
  · cases h
end
end Go.Proofs.Ytohecfbnmmgimaa

namespace Go.Proofs.Ytohecfbnmmgimaa
open Go.Vm Go.RowKit
set_option linter.unusedVariables false
noncomputable section
def k_ref03_move_point_0 (F : Nat) (Post : AVal UU → Prop) : AEx → ASt UU → Prop := kBlock 0 (kSeq C_ref01_SameRects Try.f82.ntmps M_ref03_move_point F 0 (cS (cS (bo Try.f82))) (AEnds C_ref01_SameRects false Try.f82 Post))
set_option maxRecDepth 100000 in
theorem step_ref03_move_point_0 (F n r : Nat) (K : AEx → ASt UU → Prop) (t1 : Int) (t2 : Int) (t8 : Int) (c3_0 : Int) (c3_1 : Int) (c3_2 : Int) : iter (exec C_ref01_SameRects Try.f82.ntmps M_ref03_move_point F 0 (cL (cB (cS (cF (cS (bo Try.f82))))))) (M_ref03_move_point 0) (n + 1) r (st_ref03_move_point_0 t1 t2 t8 c3_0 c3_1 c3_2) K = g_ref03_move_point_s0 (fun t1 t2 t8 c3_0 c3_1 c3_2 => iter (exec C_ref01_SameRects Try.f82.ntmps M_ref03_move_point F 0 (cL (cB (cS (cF (cS (bo Try.f82))))))) (M_ref03_move_point 0) n (r + 1) (st_ref03_move_point_0 t1 t2 t8 c3_0 c3_1 c3_2) K) (fun t1 t2 t8 c3_0 c3_1 c3_2 => K (.exit 0) (st_ref03_move_point_0 t1 t2 t8 c3_0 c3_1 c3_2)) t1 t2 t8 c3_0 c3_1 c3_2 := by kernel_rfl
set_option maxRecDepth 100000 in
theorem cont_ref03_move_point_0_0 (F : Nat) (Post : AVal UU → Prop) (t1 : Int) (t2 : Int) (t8 : Int) (c3_0 : Int) (c3_1 : Int) (c3_2 : Int) : k_ref03_move_point_0 F Post (.exit 0) (st_ref03_move_point_0 t1 t2 t8 c3_0 c3_1 c3_2) = g_ref03_move_point_c0_0 (fun r0 r1 => Post (.tup [.int .i64 r0, .int .i64 r1])) t1 t2 t8 c3_0 c3_1 c3_2 := by kernel_rfl
set_option maxRecDepth 100000 in
theorem entry_ref03_move_point (F : Nat) (Post : AVal UU → Prop) (a0_turns : Int) (a0_x : Int) (a0_y : Int) (a1 : Int) (a2 : Int) : exec C_ref01_SameRects Try.f82.ntmps M_ref03_move_point F 0 (bo Try.f82) (initSt [.agg [.int .i64 a0_turns, .int .i64 a0_x, .int .i64 a0_y], .int .i64 a1, .int .i64 a2]) (AEnds C_ref01_SameRects false Try.f82 Post) = g_ref03_move_point_e a0_turns a0_x a0_y a1 a2 (fun r0 r1 => Post (.tup [.int .i64 r0, .int .i64 r1])) (fun t1 t2 t8 c3_0 c3_1 c3_2 => iter (exec C_ref01_SameRects Try.f82.ntmps M_ref03_move_point F 0 (cL (cB (cS (cF (cS (bo Try.f82))))))) (M_ref03_move_point 0) F 0 (st_ref03_move_point_0 t1 t2 t8 c3_0 c3_1 c3_2) (k_ref03_move_point_0 F Post)) := by kernel_rfl
theorem loop_ref03_move_point_0 (F : Nat) (K : AEx → ASt UU → Prop) : ∀ (n r : Nat) (t1 : Int) (t2 : Int) (t8 : Int) (c3_0 : Int) (c3_1 : Int) (c3_2 : Int), iter (exec C_ref01_SameRects Try.f82.ntmps M_ref03_move_point F 0 (cL (cB (cS (cF (cS (bo Try.f82))))))) (M_ref03_move_point 0) n r (st_ref03_move_point_0 t1 t2 t8 c3_0 c3_1 c3_2) K = w_ref03_move_point_0 F  (fun t1 t2 t8 c3_0 c3_1 c3_2 => K (.exit 0) (st_ref03_move_point_0 t1 t2 t8 c3_0 c3_1 c3_2)) n t1 t2 t8 c3_0 c3_1 c3_2 := by
  intro n
  induction n with
  | zero => intros; rfl
  | succ n ih =>
    intro r t1 t2 t8 c3_0 c3_1 c3_2
    have e : (fun t1 t2 t8 c3_0 c3_1 c3_2 => iter (exec C_ref01_SameRects Try.f82.ntmps M_ref03_move_point F 0 (cL (cB (cS (cF (cS (bo Try.f82))))))) (M_ref03_move_point 0) n (r + 1) (st_ref03_move_point_0 t1 t2 t8 c3_0 c3_1 c3_2) K) = w_ref03_move_point_0 F  (fun t1 t2 t8 c3_0 c3_1 c3_2 => K (.exit 0) (st_ref03_move_point_0 t1 t2 t8 c3_0 c3_1 c3_2)) n := by
      funext t1 t2 t8 c3_0 c3_1 c3_2
      exact ih (r + 1) t1 t2 t8 c3_0 c3_1 c3_2
    rw [step_ref03_move_point_0, e]
    rfl
theorem nl_ref03_move_point_0 (F : Nat) (Post : AVal UU → Prop) (t1 : Int) (t2 : Int) (t8 : Int) (c3_0 : Int) (c3_1 : Int) (c3_2 : Int) : iter (exec C_ref01_SameRects Try.f82.ntmps M_ref03_move_point F 0 (cL (cB (cS (cF (cS (bo Try.f82))))))) (M_ref03_move_point 0) F 0 (st_ref03_move_point_0 t1 t2 t8 c3_0 c3_1 c3_2) (k_ref03_move_point_0 F Post) = n_ref03_move_point_0 F (fun r0 r1 => Post (.tup [.int .i64 r0, .int .i64 r1])) t1 t2 t8 c3_0 c3_1 c3_2 := by
  rw [loop_ref03_move_point_0]
  have h0 : (fun t1 t2 t8 c3_0 c3_1 c3_2 => k_ref03_move_point_0 F Post (.exit 0) (st_ref03_move_point_0 t1 t2 t8 c3_0 c3_1 c3_2)) = (fun t1 t2 t8 c3_0 c3_1 c3_2 => g_ref03_move_point_c0_0 (fun r0 r1 => Post (.tup [.int .i64 r0, .int .i64 r1])) t1 t2 t8 c3_0 c3_1 c3_2) := by
    funext t1 t2 t8 c3_0 c3_1 c3_2
    rw [cont_ref03_move_point_0_0]
  rw [h0]
  rfl
theorem exec_ref03_move_point (F : Nat) (Post : AVal UU → Prop) (a0_turns : Int) (a0_x : Int) (a0_y : Int) (a1 : Int) (a2 : Int) : exec C_ref01_SameRects Try.f82.ntmps M_ref03_move_point F 0 (bo Try.f82) (initSt [.agg [.int .i64 a0_turns, .int .i64 a0_x, .int .i64 a0_y], .int .i64 a1, .int .i64 a2]) (AEnds C_ref01_SameRects false Try.f82 Post) = w_ref03_move_point F a0_turns a0_x a0_y a1 a2 (fun r0 r1 => Post (.tup [.int .i64 r0, .int .i64 r1])) := by
  rw [entry_ref03_move_point]
  have e0 : (fun t1 t2 t8 c3_0 c3_1 c3_2 => iter (exec C_ref01_SameRects Try.f82.ntmps M_ref03_move_point F 0 (cL (cB (cS (cF (cS (bo Try.f82))))))) (M_ref03_move_point 0) F 0 (st_ref03_move_point_0 t1 t2 t8 c3_0 c3_1 c3_2) (k_ref03_move_point_0 F Post)) = (n_ref03_move_point_0 F (fun r0 r1 => Post (.tup [.int .i64 r0, .int .i64 r1]))) := by
    funext t1 t2 t8 c3_0 c3_1 c3_2
    exact nl_ref03_move_point_0 F Post t1 t2 t8 c3_0 c3_1 c3_2
  rw [e0]
  rfl
def m_ref03_move_point : Model UU
  | [.agg [.int .i64 a0_turns, .int .i64 a0_x, .int .i64 a0_y], .int .i64 a1, .int .i64 a2] => some ([pre_ref03_move_point a0_turns a0_x a0_y a1 a2], .tup [.int .i64 ((sp_ref03_move_point a0_turns a0_x a0_y a1 a2).1), .int .i64 ((sp_ref03_move_point a0_turns a0_x a0_y a1 a2).2)])
  | _ => none
def C_ref03_move_point : Cfg UU := C_ref01_SameRects.add 82 m_ref03_move_point
theorem s_ref03_move_point : SumOK C_ref03_move_point := by
  refine s_ref01_SameRects.addD mixed (fn := Try.f82) (c := bo Try.f82) Try.func82 (by kernel_rfl) (by kernel_rfl) ?_
  intro xs cs r h hc
  unfold m_ref03_move_point at h
  split at h
  · rename_i a0_turns a0_x a0_y a1 a2
    cases h
    obtain ⟨F, hF⟩ := ok_ref03_move_point a0_turns a0_x a0_y a1 a2 hc
    refine ⟨by kernel_rfl, M_ref03_move_point, F, false, ⟨?_⟩⟩
    rw [exec_ref03_move_point]
    refine hF _ ?_
    rfl
  · cases h
end
end Go.Proofs.Ytohecfbnmmgimaa

namespace Go.Proofs.Ytohecfbnmmgimaa
open Go.Vm Go.RowKit
set_option linter.unusedVariables false
noncomputable section
set_option maxRecDepth 100000 in
theorem entry_ref03_rectsIn (F : Nat) (Post : AVal UU → Prop) (a0 : List Rect) : exec C_ref03_move_point Try.f56.ntmps M_ref03_rectsIn F 0 (bo Try.f56) (initSt [.sl .rect a0]) (AEnds C_ref03_move_point false Try.f56 Post) = g_ref03_rectsIn_e a0 (fun r0 => Post (.bool r0)) := by kernel_rfl
theorem exec_ref03_rectsIn (F : Nat) (Post : AVal UU → Prop) (a0 : List Rect) : exec C_ref03_move_point Try.f56.ntmps M_ref03_rectsIn F 0 (bo Try.f56) (initSt [.sl .rect a0]) (AEnds C_ref03_move_point false Try.f56 Post) = w_ref03_rectsIn F a0 (fun r0 => Post (.bool r0)) := by
  rw [entry_ref03_rectsIn]
  rfl
def m_ref03_rectsIn : Model UU
  | [.sl .rect a0] => some ([], .bool (sp_ref03_rectsIn a0))
  | _ => none
def C_ref03_rectsIn : Cfg UU := C_ref03_move_point.add 56 m_ref03_rectsIn
theorem s_ref03_rectsIn : SumOK C_ref03_rectsIn := by
  refine s_ref03_move_point.addD mixed (fn := Try.f56) (c := bo Try.f56) Try.func56 (by kernel_rfl) (by kernel_rfl) ?_
  intro xs cs r h hc
  unfold m_ref03_rectsIn at h
  split at h
  · rename_i a0
    cases h
    obtain ⟨F, hF⟩ := ok_ref03_rectsIn a0
    refine ⟨by kernel_rfl, M_ref03_rectsIn, F, false, ⟨?_⟩⟩
    rw [exec_ref03_rectsIn]
    refine hF _ ?_
    rfl
  · cases h
set_option maxRecDepth 100000 in
theorem entry_ref03_move_rect (F : Nat) (Post : AVal UU → Prop) (a0_turns : Int) (a0_x : Int) (a0_y : Int) (a1_X : Int) (a1_Y : Int) (a1_W : Int) (a1_H : Int) : exec C_ref03_rectsIn Try.f61.ntmps M_ref03_move_rect F 0 (bo Try.f61) (initSt [.agg [.int .i64 a0_turns, .int .i64 a0_x, .int .i64 a0_y], .agg [.int .i64 a1_X, .int .i64 a1_Y, .int .i64 a1_W, .int .i64 a1_H]]) (AEnds C_ref03_rectsIn false Try.f61 Post) = g_ref03_move_rect_e a0_turns a0_x a0_y a1_X a1_Y a1_W a1_H (fun r0_X r0_Y r0_W r0_H => Post (.agg [.int .i64 r0_X, .int .i64 r0_Y, .int .i64 r0_W, .int .i64 r0_H])) := by kernel_rfl
theorem exec_ref03_move_rect (F : Nat) (Post : AVal UU → Prop) (a0_turns : Int) (a0_x : Int) (a0_y : Int) (a1_X : Int) (a1_Y : Int) (a1_W : Int) (a1_H : Int) : exec C_ref03_rectsIn Try.f61.ntmps M_ref03_move_rect F 0 (bo Try.f61) (initSt [.agg [.int .i64 a0_turns, .int .i64 a0_x, .int .i64 a0_y], .agg [.int .i64 a1_X, .int .i64 a1_Y, .int .i64 a1_W, .int .i64 a1_H]]) (AEnds C_ref03_rectsIn false Try.f61 Post) = w_ref03_move_rect F a0_turns a0_x a0_y a1_X a1_Y a1_W a1_H (fun r0_X r0_Y r0_W r0_H => Post (.agg [.int .i64 r0_X, .int .i64 r0_Y, .int .i64 r0_W, .int .i64 r0_H])) := by
  rw [entry_ref03_move_rect]
  rfl
def m_ref03_move_rect : Model UU
  | [.agg [.int .i64 a0_turns, .int .i64 a0_x, .int .i64 a0_y], .agg [.int .i64 a1_X, .int .i64 a1_Y, .int .i64 a1_W, .int .i64 a1_H]] => some ([pre_ref03_move_rect a0_turns a0_x a0_y a1_X a1_Y a1_W a1_H], .agg [.int .i64 ((sp_ref03_move_rect a0_turns a0_x a0_y a1_X a1_Y a1_W a1_H).1), .int .i64 ((sp_ref03_move_rect a0_turns a0_x a0_y a1_X a1_Y a1_W a1_H).2.1), .int .i64 ((sp_ref03_move_rect a0_turns a0_x a0_y a1_X a1_Y a1_W a1_H).2.2.1), .int .i64 ((sp_ref03_move_rect a0_turns a0_x a0_y a1_X a1_Y a1_W a1_H).2.2.2)])
  | _ => none
def C_ref03_move_rect : Cfg UU := C_ref03_rectsIn.add 61 m_ref03_move_rect
theorem s_ref03_move_rect : SumOK C_ref03_move_rect := by
  refine s_ref03_rectsIn.addD mixed (fn := Try.f61) (c := bo Try.f61) Try.func61 (by kernel_rfl) (by kernel_rfl) ?_
  intro xs cs r h hc
  unfold m_ref03_move_rect at h
  split at h
  · rename_i a0_turns a0_x a0_y a1_X a1_Y a1_W a1_H
    cases h
    obtain ⟨F, hF⟩ := ok_ref03_move_rect a0_turns a0_x a0_y a1_X a1_Y a1_W a1_H hc
    refine ⟨by kernel_rfl, M_ref03_move_rect, F, false, ⟨?_⟩⟩
    rw [exec_ref03_move_rect]
    refine hF _ ?_
    rfl
  · cases h
set_option maxRecDepth 100000 in
theorem entry_ref03_move_line (F : Nat) (Post : AVal UU → Prop) (a0_turns : Int) (a0_x : Int) (a0_y : Int) (a1_X1 : Int) (a1_Y1 : Int) (a1_X2 : Int) (a1_Y2 : Int) : exec C_ref03_move_rect Try.f62.ntmps M_ref03_move_line F 0 (bo Try.f62) (initSt [.agg [.int .i64 a0_turns, .int .i64 a0_x, .int .i64 a0_y], .agg [.int .i64 a1_X1, .int .i64 a1_Y1, .int .i64 a1_X2, .int .i64 a1_Y2]]) (AEnds C_ref03_move_rect false Try.f62 Post) = g_ref03_move_line_e a0_turns a0_x a0_y a1_X1 a1_Y1 a1_X2 a1_Y2 (fun r0_X1 r0_Y1 r0_X2 r0_Y2 => Post (.agg [.int .i64 r0_X1, .int .i64 r0_Y1, .int .i64 r0_X2, .int .i64 r0_Y2])) := by kernel_rfl
theorem exec_ref03_move_line (F : Nat) (Post : AVal UU → Prop) (a0_turns : Int) (a0_x : Int) (a0_y : Int) (a1_X1 : Int) (a1_Y1 : Int) (a1_X2 : Int) (a1_Y2 : Int) : exec C_ref03_move_rect Try.f62.ntmps M_ref03_move_line F 0 (bo Try.f62) (initSt [.agg [.int .i64 a0_turns, .int .i64 a0_x, .int .i64 a0_y], .agg [.int .i64 a1_X1, .int .i64 a1_Y1, .int .i64 a1_X2, .int .i64 a1_Y2]]) (AEnds C_ref03_move_rect false Try.f62 Post) = w_ref03_move_line F a0_turns a0_x a0_y a1_X1 a1_Y1 a1_X2 a1_Y2 (fun r0_X1 r0_Y1 r0_X2 r0_Y2 => Post (.agg [.int .i64 r0_X1, .int .i64 r0_Y1, .int .i64 r0_X2, .int .i64 r0_Y2])) := by
  rw [entry_ref03_move_line]
  rfl
def m_ref03_move_line : Model UU
  | [.agg [.int .i64 a0_turns, .int .i64 a0_x, .int .i64 a0_y], .agg [.int .i64 a1_X1, .int .i64 a1_Y1, .int .i64 a1_X2, .int .i64 a1_Y2]] => some ([pre_ref03_move_line a0_turns a0_x a0_y a1_X1 a1_Y1 a1_X2 a1_Y2], .agg [.int .i64 ((sp_ref03_move_line a0_turns a0_x a0_y a1_X1 a1_Y1 a1_X2 a1_Y2).1), .int .i64 ((sp_ref03_move_line a0_turns a0_x a0_y a1_X1 a1_Y1 a1_X2 a1_Y2).2.1), .int .i64 ((sp_ref03_move_line a0_turns a0_x a0_y a1_X1 a1_Y1 a1_X2 a1_Y2).2.2.1), .int .i64 ((sp_ref03_move_line a0_turns a0_x a0_y a1_X1 a1_Y1 a1_X2 a1_Y2).2.2.2)])
  | _ => none
def C_ref03_move_line : Cfg UU := C_ref03_move_rect.add 62 m_ref03_move_line
theorem s_ref03_move_line : SumOK C_ref03_move_line := by
  refine s_ref03_move_rect.addD mixed (fn := Try.f62) (c := bo Try.f62) Try.func62 (by kernel_rfl) (by kernel_rfl) ?_
  intro xs cs r h hc
  unfold m_ref03_move_line at h
  split at h
  · rename_i a0_turns a0_x a0_y a1_X1 a1_Y1 a1_X2 a1_Y2
    cases h
    obtain ⟨F, hF⟩ := ok_ref03_move_line a0_turns a0_x a0_y a1_X1 a1_Y1 a1_X2 a1_Y2 hc
    refine ⟨by kernel_rfl, M_ref03_move_line, F, false, ⟨?_⟩⟩
    rw [exec_ref03_move_line]
    refine hF _ ?_
    rfl
  · cases h
end
end Go.Proofs.Ytohecfbnmmgimaa

namespace Go.Proofs.Ytohecfbnmmgimaa
open Go.Vm Go.RowKit
set_option linter.unusedVariables false
noncomputable section
def k_flat_check_0 (F : Nat) (Post : AVal UU → Prop) : AEx → ASt UU → Prop := kBlock 0 (kSeq C_ref03_move_line Try.f28.ntmps M_flat_check F 0 (cS (cS (cS (bo Try.f28)))) (AEnds C_ref03_move_line false Try.f28 Post))
def k_flat_check_1 (F n r : Nat) (K : AEx → ASt UU → Prop) : AEx → ASt UU → Prop := kBlock 2 (kBlock 1 (kSeq C_ref03_move_line Try.f28.ntmps M_flat_check F 0 (cS (cS (cS (cL (cB (cS (cF (cS (cS (bo Try.f28)))))))))) (kIter (exec C_ref03_move_line Try.f28.ntmps M_flat_check F 0 (cL (cB (cS (cF (cS (cS (bo Try.f28)))))))) (M_flat_check 0) n r K)))
def k_flat_check_2 (F : Nat) (Post : AVal UU → Prop) : AEx → ASt UU → Prop := kBlock 4 (kSeq C_ref03_move_line Try.f28.ntmps M_flat_check F 0 (cS (cS (cS (cS (bo Try.f28))))) (AEnds C_ref03_move_line false Try.f28 Post))
set_option maxRecDepth 100000 in
theorem step_flat_check_0 (F n r : Nat) (K : AEx → ASt UU → Prop) (t2 : Int) (t19 : List (List Rect)) (t20 : Int) (t21 : Int) (c1_0 : List Rect) (c1_1 : List Rect) (c1_2 : List Rect) (c1_3 : List Bend) : iter (exec C_ref03_move_line Try.f28.ntmps M_flat_check F 0 (cL (cB (cS (cF (cS (cS (bo Try.f28)))))))) (M_flat_check 0) (n + 1) r (st_flat_check_0 t2 t19 t20 t21 c1_0 c1_1 c1_2 c1_3) K = g_flat_check_s0 (fun t2 t19 t20 t21 c1_0 c1_1 c1_2 c1_3 => iter (exec C_ref03_move_line Try.f28.ntmps M_flat_check F 0 (cL (cB (cS (cF (cS (cS (bo Try.f28)))))))) (M_flat_check 0) n (r + 1) (st_flat_check_0 t2 t19 t20 t21 c1_0 c1_1 c1_2 c1_3) K) (fun t2 t19 t20 t21 c1_0 c1_1 c1_2 c1_3 => K .ret (st_flat_check_0 t2 t19 t20 t21 c1_0 c1_1 c1_2 c1_3)) (fun t2 t19 t20 t21 c1_0 c1_1 c1_2 c1_3 => K (.exit 0) (st_flat_check_0 t2 t19 t20 t21 c1_0 c1_1 c1_2 c1_3)) t2 t19 t20 t21 c1_0 c1_1 c1_2 c1_3 (fun t2 t19 t20 t21 t28 t29 t30 c1_0 c1_1 c1_2 c1_3 => iter (exec C_ref03_move_line Try.f28.ntmps M_flat_check F 2 (cL (cB (cS (cS (cS (cB (cF (cS (cS (cL (cB (cS (cF (cS (cS (bo Try.f28))))))))))))))))) (M_flat_check 2) F 0 (st_flat_check_1 t2 t19 t20 t21 t28 t29 t30 c1_0 c1_1 c1_2 c1_3) (k_flat_check_1 F n r K)) := by kernel_rfl
set_option maxRecDepth 100000 in
theorem cont_flat_check_0_0 (F : Nat) (Post : AVal UU → Prop) (t2 : Int) (t19 : List (List Rect)) (t20 : Int) (t21 : Int) (c1_0 : List Rect) (c1_1 : List Rect) (c1_2 : List Rect) (c1_3 : List Bend) : k_flat_check_0 F Post .ret (st_flat_check_0 t2 t19 t20 t21 c1_0 c1_1 c1_2 c1_3) = g_flat_check_c0_0 (fun r0 => Post (.int .i64 r0)) t2 t19 t20 t21 c1_0 c1_1 c1_2 c1_3 := by kernel_rfl
set_option maxRecDepth 100000 in
theorem cont_flat_check_0_1 (F : Nat) (Post : AVal UU → Prop) (t2 : Int) (t19 : List (List Rect)) (t20 : Int) (t21 : Int) (c1_0 : List Rect) (c1_1 : List Rect) (c1_2 : List Rect) (c1_3 : List Bend) : k_flat_check_0 F Post (.exit 0) (st_flat_check_0 t2 t19 t20 t21 c1_0 c1_1 c1_2 c1_3) = g_flat_check_c0_1 (fun r0 => Post (.int .i64 r0)) t2 t19 t20 t21 c1_0 c1_1 c1_2 c1_3 (fun t2 t40 t41 t42 => iter (exec C_ref03_move_line Try.f28.ntmps M_flat_check F 4 (cL (cB (cS (cF (cS (cS (cS (bo Try.f28))))))))) (M_flat_check 4) F 0 (st_flat_check_2 t2 t40 t41 t42) (k_flat_check_2 F Post)) := by kernel_rfl
set_option maxRecDepth 100000 in
theorem step_flat_check_1 (F n r : Nat) (K : AEx → ASt UU → Prop) (t2 : Int) (t19 : List (List Rect)) (t20 : Int) (t21 : Int) (t28 : List Rect) (t29 : Int) (t30 : Int) (c1_0 : List Rect) (c1_1 : List Rect) (c1_2 : List Rect) (c1_3 : List Bend) : iter (exec C_ref03_move_line Try.f28.ntmps M_flat_check F 2 (cL (cB (cS (cS (cS (cB (cF (cS (cS (cL (cB (cS (cF (cS (cS (bo Try.f28))))))))))))))))) (M_flat_check 2) (n + 1) r (st_flat_check_1 t2 t19 t20 t21 t28 t29 t30 c1_0 c1_1 c1_2 c1_3) K = g_flat_check_s1 (fun t2 t19 t20 t21 t28 t29 t30 c1_0 c1_1 c1_2 c1_3 => iter (exec C_ref03_move_line Try.f28.ntmps M_flat_check F 2 (cL (cB (cS (cS (cS (cB (cF (cS (cS (cL (cB (cS (cF (cS (cS (bo Try.f28))))))))))))))))) (M_flat_check 2) n (r + 1) (st_flat_check_1 t2 t19 t20 t21 t28 t29 t30 c1_0 c1_1 c1_2 c1_3) K) (fun t2 t19 t20 t21 t28 t29 t30 c1_0 c1_1 c1_2 c1_3 => K .ret (st_flat_check_1 t2 t19 t20 t21 t28 t29 t30 c1_0 c1_1 c1_2 c1_3)) (fun t2 t19 t20 t21 t28 t29 t30 c1_0 c1_1 c1_2 c1_3 => K (.exit 2) (st_flat_check_1 t2 t19 t20 t21 t28 t29 t30 c1_0 c1_1 c1_2 c1_3)) t2 t19 t20 t21 t28 t29 t30 c1_0 c1_1 c1_2 c1_3 := by kernel_rfl
set_option maxRecDepth 100000 in
theorem cont_flat_check_1_0 (F n r : Nat) (K : AEx → ASt UU → Prop) (t2 : Int) (t19 : List (List Rect)) (t20 : Int) (t21 : Int) (t28 : List Rect) (t29 : Int) (t30 : Int) (c1_0 : List Rect) (c1_1 : List Rect) (c1_2 : List Rect) (c1_3 : List Bend) : k_flat_check_1 F n r K .ret (st_flat_check_1 t2 t19 t20 t21 t28 t29 t30 c1_0 c1_1 c1_2 c1_3) = g_flat_check_c1_0 (fun t2 t19 t20 t21 c1_0 c1_1 c1_2 c1_3 => iter (exec C_ref03_move_line Try.f28.ntmps M_flat_check F 0 (cL (cB (cS (cF (cS (cS (bo Try.f28)))))))) (M_flat_check 0) n (r + 1) (st_flat_check_0 t2 t19 t20 t21 c1_0 c1_1 c1_2 c1_3) K) (fun t2 t19 t20 t21 c1_0 c1_1 c1_2 c1_3 => K .ret (st_flat_check_0 t2 t19 t20 t21 c1_0 c1_1 c1_2 c1_3)) (fun t2 t19 t20 t21 c1_0 c1_1 c1_2 c1_3 => K (.exit 0) (st_flat_check_0 t2 t19 t20 t21 c1_0 c1_1 c1_2 c1_3)) t2 t19 t20 t21 t28 t29 t30 c1_0 c1_1 c1_2 c1_3 := by kernel_rfl
set_option maxRecDepth 100000 in
theorem cont_flat_check_1_1 (F n r : Nat) (K : AEx → ASt UU → Prop) (t2 : Int) (t19 : List (List Rect)) (t20 : Int) (t21 : Int) (t28 : List Rect) (t29 : Int) (t30 : Int) (c1_0 : List Rect) (c1_1 : List Rect) (c1_2 : List Rect) (c1_3 : List Bend) : k_flat_check_1 F n r K (.exit 2) (st_flat_check_1 t2 t19 t20 t21 t28 t29 t30 c1_0 c1_1 c1_2 c1_3) = g_flat_check_c1_1 (fun t2 t19 t20 t21 c1_0 c1_1 c1_2 c1_3 => iter (exec C_ref03_move_line Try.f28.ntmps M_flat_check F 0 (cL (cB (cS (cF (cS (cS (bo Try.f28)))))))) (M_flat_check 0) n (r + 1) (st_flat_check_0 t2 t19 t20 t21 c1_0 c1_1 c1_2 c1_3) K) (fun t2 t19 t20 t21 c1_0 c1_1 c1_2 c1_3 => K .ret (st_flat_check_0 t2 t19 t20 t21 c1_0 c1_1 c1_2 c1_3)) (fun t2 t19 t20 t21 c1_0 c1_1 c1_2 c1_3 => K (.exit 0) (st_flat_check_0 t2 t19 t20 t21 c1_0 c1_1 c1_2 c1_3)) t2 t19 t20 t21 t28 t29 t30 c1_0 c1_1 c1_2 c1_3 := by kernel_rfl
set_option maxRecDepth 100000 in
theorem step_flat_check_2 (F n r : Nat) (K : AEx → ASt UU → Prop) (t2 : Int) (t40 : List Bend) (t41 : Int) (t42 : Int) : iter (exec C_ref03_move_line Try.f28.ntmps M_flat_check F 4 (cL (cB (cS (cF (cS (cS (cS (bo Try.f28))))))))) (M_flat_check 4) (n + 1) r (st_flat_check_2 t2 t40 t41 t42) K = g_flat_check_s2 (fun t2 t40 t41 t42 => iter (exec C_ref03_move_line Try.f28.ntmps M_flat_check F 4 (cL (cB (cS (cF (cS (cS (cS (bo Try.f28))))))))) (M_flat_check 4) n (r + 1) (st_flat_check_2 t2 t40 t41 t42) K) (fun t2 t40 t41 t42 => K .ret (st_flat_check_2 t2 t40 t41 t42)) (fun t2 t40 t41 t42 => K (.exit 4) (st_flat_check_2 t2 t40 t41 t42)) t2 t40 t41 t42 := by kernel_rfl
set_option maxRecDepth 100000 in
theorem cont_flat_check_2_0 (F : Nat) (Post : AVal UU → Prop) (t2 : Int) (t40 : List Bend) (t41 : Int) (t42 : Int) : k_flat_check_2 F Post .ret (st_flat_check_2 t2 t40 t41 t42) = g_flat_check_c2_0 (fun r0 => Post (.int .i64 r0)) t2 t40 t41 t42 := by kernel_rfl
set_option maxRecDepth 100000 in
theorem cont_flat_check_2_1 (F : Nat) (Post : AVal UU → Prop) (t2 : Int) (t40 : List Bend) (t41 : Int) (t42 : Int) : k_flat_check_2 F Post (.exit 4) (st_flat_check_2 t2 t40 t41 t42) = g_flat_check_c2_1 (fun r0 => Post (.int .i64 r0)) t2 t40 t41 t42 := by kernel_rfl
set_option maxRecDepth 100000 in
theorem entry_flat_check (F : Nat) (Post : AVal UU → Prop) (a0_Rects : List Rect) (a0_Cuts : List Rect) (a0_Forms : List Rect) (a0_Bends : List Bend) : exec C_ref03_move_line Try.f28.ntmps M_flat_check F 0 (bo Try.f28) (initSt [.agg [.sl .rect a0_Rects, .sl .rect a0_Cuts, .sl .rect a0_Forms, .sl .bend a0_Bends]]) (AEnds C_ref03_move_line false Try.f28 Post) = g_flat_check_e a0_Rects a0_Cuts a0_Forms a0_Bends (fun r0 => Post (.int .i64 r0)) (fun t2 t19 t20 t21 c1_0 c1_1 c1_2 c1_3 => iter (exec C_ref03_move_line Try.f28.ntmps M_flat_check F 0 (cL (cB (cS (cF (cS (cS (bo Try.f28)))))))) (M_flat_check 0) F 0 (st_flat_check_0 t2 t19 t20 t21 c1_0 c1_1 c1_2 c1_3) (k_flat_check_0 F Post)) := by kernel_rfl
theorem loop_flat_check_1 (F : Nat) (K : AEx → ASt UU → Prop) : ∀ (n r : Nat) (t2 : Int) (t19 : List (List Rect)) (t20 : Int) (t21 : Int) (t28 : List Rect) (t29 : Int) (t30 : Int) (c1_0 : List Rect) (c1_1 : List Rect) (c1_2 : List Rect) (c1_3 : List Bend), iter (exec C_ref03_move_line Try.f28.ntmps M_flat_check F 2 (cL (cB (cS (cS (cS (cB (cF (cS (cS (cL (cB (cS (cF (cS (cS (bo Try.f28))))))))))))))))) (M_flat_check 2) n r (st_flat_check_1 t2 t19 t20 t21 t28 t29 t30 c1_0 c1_1 c1_2 c1_3) K = w_flat_check_1 F  (fun t2 t19 t20 t21 t28 t29 t30 c1_0 c1_1 c1_2 c1_3 => K .ret (st_flat_check_1 t2 t19 t20 t21 t28 t29 t30 c1_0 c1_1 c1_2 c1_3)) (fun t2 t19 t20 t21 t28 t29 t30 c1_0 c1_1 c1_2 c1_3 => K (.exit 2) (st_flat_check_1 t2 t19 t20 t21 t28 t29 t30 c1_0 c1_1 c1_2 c1_3)) n t2 t19 t20 t21 t28 t29 t30 c1_0 c1_1 c1_2 c1_3 := by
  intro n
  induction n with
  | zero => intros; rfl
  | succ n ih =>
    intro r t2 t19 t20 t21 t28 t29 t30 c1_0 c1_1 c1_2 c1_3
    have e : (fun t2 t19 t20 t21 t28 t29 t30 c1_0 c1_1 c1_2 c1_3 => iter (exec C_ref03_move_line Try.f28.ntmps M_flat_check F 2 (cL (cB (cS (cS (cS (cB (cF (cS (cS (cL (cB (cS (cF (cS (cS (bo Try.f28))))))))))))))))) (M_flat_check 2) n (r + 1) (st_flat_check_1 t2 t19 t20 t21 t28 t29 t30 c1_0 c1_1 c1_2 c1_3) K) = w_flat_check_1 F  (fun t2 t19 t20 t21 t28 t29 t30 c1_0 c1_1 c1_2 c1_3 => K .ret (st_flat_check_1 t2 t19 t20 t21 t28 t29 t30 c1_0 c1_1 c1_2 c1_3)) (fun t2 t19 t20 t21 t28 t29 t30 c1_0 c1_1 c1_2 c1_3 => K (.exit 2) (st_flat_check_1 t2 t19 t20 t21 t28 t29 t30 c1_0 c1_1 c1_2 c1_3)) n := by
      funext t2 t19 t20 t21 t28 t29 t30 c1_0 c1_1 c1_2 c1_3
      exact ih (r + 1) t2 t19 t20 t21 t28 t29 t30 c1_0 c1_1 c1_2 c1_3
    rw [step_flat_check_1, e]
    rfl
theorem nl_flat_check_1 (F n r : Nat) (K : AEx → ASt UU → Prop) (t2 : Int) (t19 : List (List Rect)) (t20 : Int) (t21 : Int) (t28 : List Rect) (t29 : Int) (t30 : Int) (c1_0 : List Rect) (c1_1 : List Rect) (c1_2 : List Rect) (c1_3 : List Bend) : iter (exec C_ref03_move_line Try.f28.ntmps M_flat_check F 2 (cL (cB (cS (cS (cS (cB (cF (cS (cS (cL (cB (cS (cF (cS (cS (bo Try.f28))))))))))))))))) (M_flat_check 2) F 0 (st_flat_check_1 t2 t19 t20 t21 t28 t29 t30 c1_0 c1_1 c1_2 c1_3) (k_flat_check_1 F n r K) = n_flat_check_1 F (fun t2 t19 t20 t21 c1_0 c1_1 c1_2 c1_3 => iter (exec C_ref03_move_line Try.f28.ntmps M_flat_check F 0 (cL (cB (cS (cF (cS (cS (bo Try.f28)))))))) (M_flat_check 0) n (r + 1) (st_flat_check_0 t2 t19 t20 t21 c1_0 c1_1 c1_2 c1_3) K) (fun t2 t19 t20 t21 c1_0 c1_1 c1_2 c1_3 => K .ret (st_flat_check_0 t2 t19 t20 t21 c1_0 c1_1 c1_2 c1_3)) (fun t2 t19 t20 t21 c1_0 c1_1 c1_2 c1_3 => K (.exit 0) (st_flat_check_0 t2 t19 t20 t21 c1_0 c1_1 c1_2 c1_3)) t2 t19 t20 t21 t28 t29 t30 c1_0 c1_1 c1_2 c1_3 := by
  rw [loop_flat_check_1]
  have h0 : (fun t2 t19 t20 t21 t28 t29 t30 c1_0 c1_1 c1_2 c1_3 => k_flat_check_1 F n r K .ret (st_flat_check_1 t2 t19 t20 t21 t28 t29 t30 c1_0 c1_1 c1_2 c1_3)) = (fun t2 t19 t20 t21 t28 t29 t30 c1_0 c1_1 c1_2 c1_3 => g_flat_check_c1_0 (fun t2 t19 t20 t21 c1_0 c1_1 c1_2 c1_3 => iter (exec C_ref03_move_line Try.f28.ntmps M_flat_check F 0 (cL (cB (cS (cF (cS (cS (bo Try.f28)))))))) (M_flat_check 0) n (r + 1) (st_flat_check_0 t2 t19 t20 t21 c1_0 c1_1 c1_2 c1_3) K) (fun t2 t19 t20 t21 c1_0 c1_1 c1_2 c1_3 => K .ret (st_flat_check_0 t2 t19 t20 t21 c1_0 c1_1 c1_2 c1_3)) (fun t2 t19 t20 t21 c1_0 c1_1 c1_2 c1_3 => K (.exit 0) (st_flat_check_0 t2 t19 t20 t21 c1_0 c1_1 c1_2 c1_3)) t2 t19 t20 t21 t28 t29 t30 c1_0 c1_1 c1_2 c1_3) := by
    funext t2 t19 t20 t21 t28 t29 t30 c1_0 c1_1 c1_2 c1_3
    rw [cont_flat_check_1_0]
  have h1 : (fun t2 t19 t20 t21 t28 t29 t30 c1_0 c1_1 c1_2 c1_3 => k_flat_check_1 F n r K (.exit 2) (st_flat_check_1 t2 t19 t20 t21 t28 t29 t30 c1_0 c1_1 c1_2 c1_3)) = (fun t2 t19 t20 t21 t28 t29 t30 c1_0 c1_1 c1_2 c1_3 => g_flat_check_c1_1 (fun t2 t19 t20 t21 c1_0 c1_1 c1_2 c1_3 => iter (exec C_ref03_move_line Try.f28.ntmps M_flat_check F 0 (cL (cB (cS (cF (cS (cS (bo Try.f28)))))))) (M_flat_check 0) n (r + 1) (st_flat_check_0 t2 t19 t20 t21 c1_0 c1_1 c1_2 c1_3) K) (fun t2 t19 t20 t21 c1_0 c1_1 c1_2 c1_3 => K .ret (st_flat_check_0 t2 t19 t20 t21 c1_0 c1_1 c1_2 c1_3)) (fun t2 t19 t20 t21 c1_0 c1_1 c1_2 c1_3 => K (.exit 0) (st_flat_check_0 t2 t19 t20 t21 c1_0 c1_1 c1_2 c1_3)) t2 t19 t20 t21 t28 t29 t30 c1_0 c1_1 c1_2 c1_3) := by
    funext t2 t19 t20 t21 t28 t29 t30 c1_0 c1_1 c1_2 c1_3
    rw [cont_flat_check_1_1]
  rw [h0, h1]
  rfl
theorem loop_flat_check_2 (F : Nat) (K : AEx → ASt UU → Prop) : ∀ (n r : Nat) (t2 : Int) (t40 : List Bend) (t41 : Int) (t42 : Int), iter (exec C_ref03_move_line Try.f28.ntmps M_flat_check F 4 (cL (cB (cS (cF (cS (cS (cS (bo Try.f28))))))))) (M_flat_check 4) n r (st_flat_check_2 t2 t40 t41 t42) K = w_flat_check_2 F  (fun t2 t40 t41 t42 => K .ret (st_flat_check_2 t2 t40 t41 t42)) (fun t2 t40 t41 t42 => K (.exit 4) (st_flat_check_2 t2 t40 t41 t42)) n t2 t40 t41 t42 := by
  intro n
  induction n with
  | zero => intros; rfl
  | succ n ih =>
    intro r t2 t40 t41 t42
    have e : (fun t2 t40 t41 t42 => iter (exec C_ref03_move_line Try.f28.ntmps M_flat_check F 4 (cL (cB (cS (cF (cS (cS (cS (bo Try.f28))))))))) (M_flat_check 4) n (r + 1) (st_flat_check_2 t2 t40 t41 t42) K) = w_flat_check_2 F  (fun t2 t40 t41 t42 => K .ret (st_flat_check_2 t2 t40 t41 t42)) (fun t2 t40 t41 t42 => K (.exit 4) (st_flat_check_2 t2 t40 t41 t42)) n := by
      funext t2 t40 t41 t42
      exact ih (r + 1) t2 t40 t41 t42
    rw [step_flat_check_2, e]
    rfl
theorem nl_flat_check_2 (F : Nat) (Post : AVal UU → Prop) (t2 : Int) (t40 : List Bend) (t41 : Int) (t42 : Int) : iter (exec C_ref03_move_line Try.f28.ntmps M_flat_check F 4 (cL (cB (cS (cF (cS (cS (cS (bo Try.f28))))))))) (M_flat_check 4) F 0 (st_flat_check_2 t2 t40 t41 t42) (k_flat_check_2 F Post) = n_flat_check_2 F (fun r0 => Post (.int .i64 r0)) t2 t40 t41 t42 := by
  rw [loop_flat_check_2]
  have h0 : (fun t2 t40 t41 t42 => k_flat_check_2 F Post .ret (st_flat_check_2 t2 t40 t41 t42)) = (fun t2 t40 t41 t42 => g_flat_check_c2_0 (fun r0 => Post (.int .i64 r0)) t2 t40 t41 t42) := by
    funext t2 t40 t41 t42
    rw [cont_flat_check_2_0]
  have h1 : (fun t2 t40 t41 t42 => k_flat_check_2 F Post (.exit 4) (st_flat_check_2 t2 t40 t41 t42)) = (fun t2 t40 t41 t42 => g_flat_check_c2_1 (fun r0 => Post (.int .i64 r0)) t2 t40 t41 t42) := by
    funext t2 t40 t41 t42
    rw [cont_flat_check_2_1]
  rw [h0, h1]
  rfl
theorem loop_flat_check_0 (F : Nat) (K : AEx → ASt UU → Prop) : ∀ (n r : Nat) (t2 : Int) (t19 : List (List Rect)) (t20 : Int) (t21 : Int) (c1_0 : List Rect) (c1_1 : List Rect) (c1_2 : List Rect) (c1_3 : List Bend), iter (exec C_ref03_move_line Try.f28.ntmps M_flat_check F 0 (cL (cB (cS (cF (cS (cS (bo Try.f28)))))))) (M_flat_check 0) n r (st_flat_check_0 t2 t19 t20 t21 c1_0 c1_1 c1_2 c1_3) K = w_flat_check_0 F  (fun t2 t19 t20 t21 c1_0 c1_1 c1_2 c1_3 => K .ret (st_flat_check_0 t2 t19 t20 t21 c1_0 c1_1 c1_2 c1_3)) (fun t2 t19 t20 t21 c1_0 c1_1 c1_2 c1_3 => K (.exit 0) (st_flat_check_0 t2 t19 t20 t21 c1_0 c1_1 c1_2 c1_3)) n t2 t19 t20 t21 c1_0 c1_1 c1_2 c1_3 := by
  intro n
  induction n with
  | zero => intros; rfl
  | succ n ih =>
    intro r t2 t19 t20 t21 c1_0 c1_1 c1_2 c1_3
    have e : (fun t2 t19 t20 t21 c1_0 c1_1 c1_2 c1_3 => iter (exec C_ref03_move_line Try.f28.ntmps M_flat_check F 0 (cL (cB (cS (cF (cS (cS (bo Try.f28)))))))) (M_flat_check 0) n (r + 1) (st_flat_check_0 t2 t19 t20 t21 c1_0 c1_1 c1_2 c1_3) K) = w_flat_check_0 F  (fun t2 t19 t20 t21 c1_0 c1_1 c1_2 c1_3 => K .ret (st_flat_check_0 t2 t19 t20 t21 c1_0 c1_1 c1_2 c1_3)) (fun t2 t19 t20 t21 c1_0 c1_1 c1_2 c1_3 => K (.exit 0) (st_flat_check_0 t2 t19 t20 t21 c1_0 c1_1 c1_2 c1_3)) n := by
      funext t2 t19 t20 t21 c1_0 c1_1 c1_2 c1_3
      exact ih (r + 1) t2 t19 t20 t21 c1_0 c1_1 c1_2 c1_3
    have e1 : (fun t2 t19 t20 t21 t28 t29 t30 c1_0 c1_1 c1_2 c1_3 => iter (exec C_ref03_move_line Try.f28.ntmps M_flat_check F 2 (cL (cB (cS (cS (cS (cB (cF (cS (cS (cL (cB (cS (cF (cS (cS (bo Try.f28))))))))))))))))) (M_flat_check 2) F 0 (st_flat_check_1 t2 t19 t20 t21 t28 t29 t30 c1_0 c1_1 c1_2 c1_3) (k_flat_check_1 F n r K)) = (n_flat_check_1 F (fun t2 t19 t20 t21 c1_0 c1_1 c1_2 c1_3 => iter (exec C_ref03_move_line Try.f28.ntmps M_flat_check F 0 (cL (cB (cS (cF (cS (cS (bo Try.f28)))))))) (M_flat_check 0) n (r + 1) (st_flat_check_0 t2 t19 t20 t21 c1_0 c1_1 c1_2 c1_3) K) (fun t2 t19 t20 t21 c1_0 c1_1 c1_2 c1_3 => K .ret (st_flat_check_0 t2 t19 t20 t21 c1_0 c1_1 c1_2 c1_3)) (fun t2 t19 t20 t21 c1_0 c1_1 c1_2 c1_3 => K (.exit 0) (st_flat_check_0 t2 t19 t20 t21 c1_0 c1_1 c1_2 c1_3))) := by
      funext t2 t19 t20 t21 t28 t29 t30 c1_0 c1_1 c1_2 c1_3
      exact nl_flat_check_1 F n r K t2 t19 t20 t21 t28 t29 t30 c1_0 c1_1 c1_2 c1_3
    rw [step_flat_check_0, e1, e]
    rfl
theorem nl_flat_check_0 (F : Nat) (Post : AVal UU → Prop) (t2 : Int) (t19 : List (List Rect)) (t20 : Int) (t21 : Int) (c1_0 : List Rect) (c1_1 : List Rect) (c1_2 : List Rect) (c1_3 : List Bend) : iter (exec C_ref03_move_line Try.f28.ntmps M_flat_check F 0 (cL (cB (cS (cF (cS (cS (bo Try.f28)))))))) (M_flat_check 0) F 0 (st_flat_check_0 t2 t19 t20 t21 c1_0 c1_1 c1_2 c1_3) (k_flat_check_0 F Post) = n_flat_check_0 F (fun r0 => Post (.int .i64 r0)) t2 t19 t20 t21 c1_0 c1_1 c1_2 c1_3 := by
  rw [loop_flat_check_0]
  have e2 : (fun t2 t40 t41 t42 => iter (exec C_ref03_move_line Try.f28.ntmps M_flat_check F 4 (cL (cB (cS (cF (cS (cS (cS (bo Try.f28))))))))) (M_flat_check 4) F 0 (st_flat_check_2 t2 t40 t41 t42) (k_flat_check_2 F Post)) = (n_flat_check_2 F (fun r0 => Post (.int .i64 r0))) := by
    funext t2 t40 t41 t42
    exact nl_flat_check_2 F Post t2 t40 t41 t42
  have h0 : (fun t2 t19 t20 t21 c1_0 c1_1 c1_2 c1_3 => k_flat_check_0 F Post .ret (st_flat_check_0 t2 t19 t20 t21 c1_0 c1_1 c1_2 c1_3)) = (fun t2 t19 t20 t21 c1_0 c1_1 c1_2 c1_3 => g_flat_check_c0_0 (fun r0 => Post (.int .i64 r0)) t2 t19 t20 t21 c1_0 c1_1 c1_2 c1_3) := by
    funext t2 t19 t20 t21 c1_0 c1_1 c1_2 c1_3
    rw [cont_flat_check_0_0]
  have h1 : (fun t2 t19 t20 t21 c1_0 c1_1 c1_2 c1_3 => k_flat_check_0 F Post (.exit 0) (st_flat_check_0 t2 t19 t20 t21 c1_0 c1_1 c1_2 c1_3)) = (fun t2 t19 t20 t21 c1_0 c1_1 c1_2 c1_3 => g_flat_check_c0_1 (fun r0 => Post (.int .i64 r0)) t2 t19 t20 t21 c1_0 c1_1 c1_2 c1_3 (n_flat_check_2 F (fun r0 => Post (.int .i64 r0)))) := by
    funext t2 t19 t20 t21 c1_0 c1_1 c1_2 c1_3
    rw [cont_flat_check_0_1, e2]
  rw [h0, h1]
  rfl
theorem exec_flat_check (F : Nat) (Post : AVal UU → Prop) (a0_Rects : List Rect) (a0_Cuts : List Rect) (a0_Forms : List Rect) (a0_Bends : List Bend) : exec C_ref03_move_line Try.f28.ntmps M_flat_check F 0 (bo Try.f28) (initSt [.agg [.sl .rect a0_Rects, .sl .rect a0_Cuts, .sl .rect a0_Forms, .sl .bend a0_Bends]]) (AEnds C_ref03_move_line false Try.f28 Post) = w_flat_check F a0_Rects a0_Cuts a0_Forms a0_Bends (fun r0 => Post (.int .i64 r0)) := by
  rw [entry_flat_check]
  have e0 : (fun t2 t19 t20 t21 c1_0 c1_1 c1_2 c1_3 => iter (exec C_ref03_move_line Try.f28.ntmps M_flat_check F 0 (cL (cB (cS (cF (cS (cS (bo Try.f28)))))))) (M_flat_check 0) F 0 (st_flat_check_0 t2 t19 t20 t21 c1_0 c1_1 c1_2 c1_3) (k_flat_check_0 F Post)) = (n_flat_check_0 F (fun r0 => Post (.int .i64 r0))) := by
    funext t2 t19 t20 t21 c1_0 c1_1 c1_2 c1_3
    exact nl_flat_check_0 F Post t2 t19 t20 t21 c1_0 c1_1 c1_2 c1_3
  rw [e0]
  rfl
def m_flat_check : Model UU
  | [.agg [.sl .rect a0_Rects, .sl .rect a0_Cuts, .sl .rect a0_Forms, .sl .bend a0_Bends]] => some ([pre_flat_check a0_Rects a0_Cuts a0_Forms a0_Bends], .int .i64 (sp_flat_check a0_Rects a0_Cuts a0_Forms a0_Bends))
  | _ => none
def C_flat_check : Cfg UU := C_ref03_move_line.add 28 m_flat_check
theorem s_flat_check : SumOK C_flat_check := by
  refine s_ref03_move_line.addD mixed (fn := Try.f28) (c := bo Try.f28) Try.func28 (by kernel_rfl) (by kernel_rfl) ?_
  intro xs cs r h hc
  unfold m_flat_check at h
  split at h
  · rename_i a0_Rects a0_Cuts a0_Forms a0_Bends
    cases h
    obtain ⟨F, hF⟩ := ok_flat_check a0_Rects a0_Cuts a0_Forms a0_Bends hc
    refine ⟨by kernel_rfl, M_flat_check, F, false, ⟨?_⟩⟩
    rw [exec_flat_check]
    refine hF _ ?_
    rfl
  · cases h
def k_ref03_Whole_0 (F : Nat) (Post : AVal UU → Prop) : AEx → ASt UU → Prop := kBlock 0 (kSeq C_flat_check Try.f30.ntmps M_ref03_Whole F 0 (cS (cS (cS (bo Try.f30)))) (AEnds C_flat_check false Try.f30 Post))
set_option maxRecDepth 100000 in
theorem step_ref03_Whole_0 (F n r : Nat) (K : AEx → ASt UU → Prop) (t2 : Bool) (t3 : Int) (c1_0 : List Rect) (c1_1 : List Rect) (c1_2 : List Rect) (c1_3 : List Bend) : iter (exec C_flat_check Try.f30.ntmps M_ref03_Whole F 0 (cL (cB (cS (cF (cS (cS (bo Try.f30)))))))) (M_ref03_Whole 0) (n + 1) r (st_ref03_Whole_0 t2 t3 c1_0 c1_1 c1_2 c1_3) K = g_ref03_Whole_s0 (fun t2 t3 c1_0 c1_1 c1_2 c1_3 => iter (exec C_flat_check Try.f30.ntmps M_ref03_Whole F 0 (cL (cB (cS (cF (cS (cS (bo Try.f30)))))))) (M_ref03_Whole 0) n (r + 1) (st_ref03_Whole_0 t2 t3 c1_0 c1_1 c1_2 c1_3) K) (fun t2 t3 c1_0 c1_1 c1_2 c1_3 => K .ret (st_ref03_Whole_0 t2 t3 c1_0 c1_1 c1_2 c1_3)) (fun t2 t3 c1_0 c1_1 c1_2 c1_3 => K (.exit 0) (st_ref03_Whole_0 t2 t3 c1_0 c1_1 c1_2 c1_3)) t2 t3 c1_0 c1_1 c1_2 c1_3 := by kernel_rfl
set_option maxRecDepth 100000 in
theorem cont_ref03_Whole_0_0 (F : Nat) (Post : AVal UU → Prop) (t2 : Bool) (t3 : Int) (c1_0 : List Rect) (c1_1 : List Rect) (c1_2 : List Rect) (c1_3 : List Bend) : k_ref03_Whole_0 F Post .ret (st_ref03_Whole_0 t2 t3 c1_0 c1_1 c1_2 c1_3) = g_ref03_Whole_c0_0 (fun r0 => Post (.bool r0)) t2 t3 c1_0 c1_1 c1_2 c1_3 := by kernel_rfl
set_option maxRecDepth 100000 in
theorem cont_ref03_Whole_0_1 (F : Nat) (Post : AVal UU → Prop) (t2 : Bool) (t3 : Int) (c1_0 : List Rect) (c1_1 : List Rect) (c1_2 : List Rect) (c1_3 : List Bend) : k_ref03_Whole_0 F Post (.exit 0) (st_ref03_Whole_0 t2 t3 c1_0 c1_1 c1_2 c1_3) = g_ref03_Whole_c0_1 (fun r0 => Post (.bool r0)) t2 t3 c1_0 c1_1 c1_2 c1_3 := by kernel_rfl
set_option maxRecDepth 100000 in
theorem entry_ref03_Whole (F : Nat) (Post : AVal UU → Prop) (a0_Rects : List Rect) (a0_Cuts : List Rect) (a0_Forms : List Rect) (a0_Bends : List Bend) : exec C_flat_check Try.f30.ntmps M_ref03_Whole F 0 (bo Try.f30) (initSt [.agg [.sl .rect a0_Rects, .sl .rect a0_Cuts, .sl .rect a0_Forms, .sl .bend a0_Bends]]) (AEnds C_flat_check false Try.f30 Post) = g_ref03_Whole_e a0_Rects a0_Cuts a0_Forms a0_Bends (fun r0 => Post (.bool r0)) (fun t2 t3 c1_0 c1_1 c1_2 c1_3 => iter (exec C_flat_check Try.f30.ntmps M_ref03_Whole F 0 (cL (cB (cS (cF (cS (cS (bo Try.f30)))))))) (M_ref03_Whole 0) F 0 (st_ref03_Whole_0 t2 t3 c1_0 c1_1 c1_2 c1_3) (k_ref03_Whole_0 F Post)) := by kernel_rfl
theorem loop_ref03_Whole_0 (F : Nat) (K : AEx → ASt UU → Prop) : ∀ (n r : Nat) (t2 : Bool) (t3 : Int) (c1_0 : List Rect) (c1_1 : List Rect) (c1_2 : List Rect) (c1_3 : List Bend), iter (exec C_flat_check Try.f30.ntmps M_ref03_Whole F 0 (cL (cB (cS (cF (cS (cS (bo Try.f30)))))))) (M_ref03_Whole 0) n r (st_ref03_Whole_0 t2 t3 c1_0 c1_1 c1_2 c1_3) K = w_ref03_Whole_0 F  (fun t2 t3 c1_0 c1_1 c1_2 c1_3 => K .ret (st_ref03_Whole_0 t2 t3 c1_0 c1_1 c1_2 c1_3)) (fun t2 t3 c1_0 c1_1 c1_2 c1_3 => K (.exit 0) (st_ref03_Whole_0 t2 t3 c1_0 c1_1 c1_2 c1_3)) n t2 t3 c1_0 c1_1 c1_2 c1_3 := by
  intro n
  induction n with
  | zero => intros; rfl
  | succ n ih =>
    intro r t2 t3 c1_0 c1_1 c1_2 c1_3
    have e : (fun t2 t3 c1_0 c1_1 c1_2 c1_3 => iter (exec C_flat_check Try.f30.ntmps M_ref03_Whole F 0 (cL (cB (cS (cF (cS (cS (bo Try.f30)))))))) (M_ref03_Whole 0) n (r + 1) (st_ref03_Whole_0 t2 t3 c1_0 c1_1 c1_2 c1_3) K) = w_ref03_Whole_0 F  (fun t2 t3 c1_0 c1_1 c1_2 c1_3 => K .ret (st_ref03_Whole_0 t2 t3 c1_0 c1_1 c1_2 c1_3)) (fun t2 t3 c1_0 c1_1 c1_2 c1_3 => K (.exit 0) (st_ref03_Whole_0 t2 t3 c1_0 c1_1 c1_2 c1_3)) n := by
      funext t2 t3 c1_0 c1_1 c1_2 c1_3
      exact ih (r + 1) t2 t3 c1_0 c1_1 c1_2 c1_3
    rw [step_ref03_Whole_0, e]
    rfl
theorem nl_ref03_Whole_0 (F : Nat) (Post : AVal UU → Prop) (t2 : Bool) (t3 : Int) (c1_0 : List Rect) (c1_1 : List Rect) (c1_2 : List Rect) (c1_3 : List Bend) : iter (exec C_flat_check Try.f30.ntmps M_ref03_Whole F 0 (cL (cB (cS (cF (cS (cS (bo Try.f30)))))))) (M_ref03_Whole 0) F 0 (st_ref03_Whole_0 t2 t3 c1_0 c1_1 c1_2 c1_3) (k_ref03_Whole_0 F Post) = n_ref03_Whole_0 F (fun r0 => Post (.bool r0)) t2 t3 c1_0 c1_1 c1_2 c1_3 := by
  rw [loop_ref03_Whole_0]
  have h0 : (fun t2 t3 c1_0 c1_1 c1_2 c1_3 => k_ref03_Whole_0 F Post .ret (st_ref03_Whole_0 t2 t3 c1_0 c1_1 c1_2 c1_3)) = (fun t2 t3 c1_0 c1_1 c1_2 c1_3 => g_ref03_Whole_c0_0 (fun r0 => Post (.bool r0)) t2 t3 c1_0 c1_1 c1_2 c1_3) := by
    funext t2 t3 c1_0 c1_1 c1_2 c1_3
    rw [cont_ref03_Whole_0_0]
  have h1 : (fun t2 t3 c1_0 c1_1 c1_2 c1_3 => k_ref03_Whole_0 F Post (.exit 0) (st_ref03_Whole_0 t2 t3 c1_0 c1_1 c1_2 c1_3)) = (fun t2 t3 c1_0 c1_1 c1_2 c1_3 => g_ref03_Whole_c0_1 (fun r0 => Post (.bool r0)) t2 t3 c1_0 c1_1 c1_2 c1_3) := by
    funext t2 t3 c1_0 c1_1 c1_2 c1_3
    rw [cont_ref03_Whole_0_1]
  rw [h0, h1]
  rfl
theorem exec_ref03_Whole (F : Nat) (Post : AVal UU → Prop) (a0_Rects : List Rect) (a0_Cuts : List Rect) (a0_Forms : List Rect) (a0_Bends : List Bend) : exec C_flat_check Try.f30.ntmps M_ref03_Whole F 0 (bo Try.f30) (initSt [.agg [.sl .rect a0_Rects, .sl .rect a0_Cuts, .sl .rect a0_Forms, .sl .bend a0_Bends]]) (AEnds C_flat_check false Try.f30 Post) = w_ref03_Whole F a0_Rects a0_Cuts a0_Forms a0_Bends (fun r0 => Post (.bool r0)) := by
  rw [entry_ref03_Whole]
  have e0 : (fun t2 t3 c1_0 c1_1 c1_2 c1_3 => iter (exec C_flat_check Try.f30.ntmps M_ref03_Whole F 0 (cL (cB (cS (cF (cS (cS (bo Try.f30)))))))) (M_ref03_Whole 0) F 0 (st_ref03_Whole_0 t2 t3 c1_0 c1_1 c1_2 c1_3) (k_ref03_Whole_0 F Post)) = (n_ref03_Whole_0 F (fun r0 => Post (.bool r0))) := by
    funext t2 t3 c1_0 c1_1 c1_2 c1_3
    exact nl_ref03_Whole_0 F Post t2 t3 c1_0 c1_1 c1_2 c1_3
  rw [e0]
  rfl
def m_ref03_Whole : Model UU
  | [.agg [.sl .rect a0_Rects, .sl .rect a0_Cuts, .sl .rect a0_Forms, .sl .bend a0_Bends]] => some ([pre_ref03_Whole a0_Rects a0_Cuts a0_Forms a0_Bends], .bool (sp_ref03_Whole a0_Rects a0_Cuts a0_Forms a0_Bends))
  | _ => none
def C_ref03_Whole : Cfg UU := C_flat_check.add 30 m_ref03_Whole
theorem s_ref03_Whole : SumOK C_ref03_Whole := by
  refine s_flat_check.addD mixed (fn := Try.f30) (c := bo Try.f30) Try.func30 (by kernel_rfl) (by kernel_rfl) ?_
  intro xs cs r h hc
  unfold m_ref03_Whole at h
  split at h
  · rename_i a0_Rects a0_Cuts a0_Forms a0_Bends
    cases h
    obtain ⟨F, hF⟩ := ok_ref03_Whole a0_Rects a0_Cuts a0_Forms a0_Bends hc
    refine ⟨by kernel_rfl, M_ref03_Whole, F, false, ⟨?_⟩⟩
    rw [exec_ref03_Whole]
    refine hF _ ?_
    rfl
  · cases h
def k_ref03_move_rects_0 (F : Nat) (Post : AVal UU → Prop) : AEx → ASt UU → Prop := kBlock 0 (kSeq C_ref03_Whole Try.f34.ntmps M_ref03_move_rects F 0 (cS (cS (cS (bo Try.f34)))) (AEnds C_ref03_Whole true Try.f34 Post))
set_option maxRecDepth 100000 in
theorem step_ref03_move_rects_0 (F n r : Nat) (K : AEx → ASt UU → Prop) (t1 : List Rect) (t6 : Int) (c2_0 : Int) (c2_1 : Int) (c2_2 : Int) (l23 : List Rect) : iter (exec C_ref03_Whole Try.f34.ntmps M_ref03_move_rects F 0 (cL (cB (cS (cF (cS (cS (bo Try.f34)))))))) (M_ref03_move_rects 0) (n + 1) r (st_ref03_move_rects_0 t1 t6 c2_0 c2_1 c2_2 l23) K = g_ref03_move_rects_s0 (fun t1 t6 c2_0 c2_1 c2_2 l23 => iter (exec C_ref03_Whole Try.f34.ntmps M_ref03_move_rects F 0 (cL (cB (cS (cF (cS (cS (bo Try.f34)))))))) (M_ref03_move_rects 0) n (r + 1) (st_ref03_move_rects_0 t1 t6 c2_0 c2_1 c2_2 l23) K) (fun t1 t6 c2_0 c2_1 c2_2 l23 => K (.exit 0) (st_ref03_move_rects_0 t1 t6 c2_0 c2_1 c2_2 l23)) t1 t6 c2_0 c2_1 c2_2 l23 := by kernel_rfl
set_option maxRecDepth 100000 in
theorem cont_ref03_move_rects_0_0 (F : Nat) (Post : AVal UU → Prop) (t1 : List Rect) (t6 : Int) (c2_0 : Int) (c2_1 : Int) (c2_2 : Int) (l23 : List Rect) : k_ref03_move_rects_0 F Post (.exit 0) (st_ref03_move_rects_0 t1 t6 c2_0 c2_1 c2_2 l23) = g_ref03_move_rects_c0_0 (fun r0 => Post (.new .rect r0)) t1 t6 c2_0 c2_1 c2_2 l23 := by kernel_rfl
set_option maxRecDepth 100000 in
theorem entry_ref03_move_rects (F : Nat) (Post : AVal UU → Prop) (a0_turns : Int) (a0_x : Int) (a0_y : Int) (a1 : List Rect) : exec C_ref03_Whole Try.f34.ntmps M_ref03_move_rects F 0 (bo Try.f34) (initSt [.agg [.int .i64 a0_turns, .int .i64 a0_x, .int .i64 a0_y], .sl .rect a1]) (AEnds C_ref03_Whole true Try.f34 Post) = g_ref03_move_rects_e a0_turns a0_x a0_y a1 (fun r0 => Post (.new .rect r0)) (fun t1 t6 c2_0 c2_1 c2_2 l23 => iter (exec C_ref03_Whole Try.f34.ntmps M_ref03_move_rects F 0 (cL (cB (cS (cF (cS (cS (bo Try.f34)))))))) (M_ref03_move_rects 0) F 0 (st_ref03_move_rects_0 t1 t6 c2_0 c2_1 c2_2 l23) (k_ref03_move_rects_0 F Post)) := by kernel_rfl
theorem loop_ref03_move_rects_0 (F : Nat) (K : AEx → ASt UU → Prop) : ∀ (n r : Nat) (t1 : List Rect) (t6 : Int) (c2_0 : Int) (c2_1 : Int) (c2_2 : Int) (l23 : List Rect), iter (exec C_ref03_Whole Try.f34.ntmps M_ref03_move_rects F 0 (cL (cB (cS (cF (cS (cS (bo Try.f34)))))))) (M_ref03_move_rects 0) n r (st_ref03_move_rects_0 t1 t6 c2_0 c2_1 c2_2 l23) K = w_ref03_move_rects_0 F  (fun t1 t6 c2_0 c2_1 c2_2 l23 => K (.exit 0) (st_ref03_move_rects_0 t1 t6 c2_0 c2_1 c2_2 l23)) n t1 t6 c2_0 c2_1 c2_2 l23 := by
  intro n
  induction n with
  | zero => intros; rfl
  | succ n ih =>
    intro r t1 t6 c2_0 c2_1 c2_2 l23
    have e : (fun t1 t6 c2_0 c2_1 c2_2 l23 => iter (exec C_ref03_Whole Try.f34.ntmps M_ref03_move_rects F 0 (cL (cB (cS (cF (cS (cS (bo Try.f34)))))))) (M_ref03_move_rects 0) n (r + 1) (st_ref03_move_rects_0 t1 t6 c2_0 c2_1 c2_2 l23) K) = w_ref03_move_rects_0 F  (fun t1 t6 c2_0 c2_1 c2_2 l23 => K (.exit 0) (st_ref03_move_rects_0 t1 t6 c2_0 c2_1 c2_2 l23)) n := by
      funext t1 t6 c2_0 c2_1 c2_2 l23
      exact ih (r + 1) t1 t6 c2_0 c2_1 c2_2 l23
    rw [step_ref03_move_rects_0, e]
    rfl
theorem nl_ref03_move_rects_0 (F : Nat) (Post : AVal UU → Prop) (t1 : List Rect) (t6 : Int) (c2_0 : Int) (c2_1 : Int) (c2_2 : Int) (l23 : List Rect) : iter (exec C_ref03_Whole Try.f34.ntmps M_ref03_move_rects F 0 (cL (cB (cS (cF (cS (cS (bo Try.f34)))))))) (M_ref03_move_rects 0) F 0 (st_ref03_move_rects_0 t1 t6 c2_0 c2_1 c2_2 l23) (k_ref03_move_rects_0 F Post) = n_ref03_move_rects_0 F (fun r0 => Post (.new .rect r0)) t1 t6 c2_0 c2_1 c2_2 l23 := by
  rw [loop_ref03_move_rects_0]
  have h0 : (fun t1 t6 c2_0 c2_1 c2_2 l23 => k_ref03_move_rects_0 F Post (.exit 0) (st_ref03_move_rects_0 t1 t6 c2_0 c2_1 c2_2 l23)) = (fun t1 t6 c2_0 c2_1 c2_2 l23 => g_ref03_move_rects_c0_0 (fun r0 => Post (.new .rect r0)) t1 t6 c2_0 c2_1 c2_2 l23) := by
    funext t1 t6 c2_0 c2_1 c2_2 l23
    rw [cont_ref03_move_rects_0_0]
  rw [h0]
  rfl
theorem exec_ref03_move_rects (F : Nat) (Post : AVal UU → Prop) (a0_turns : Int) (a0_x : Int) (a0_y : Int) (a1 : List Rect) : exec C_ref03_Whole Try.f34.ntmps M_ref03_move_rects F 0 (bo Try.f34) (initSt [.agg [.int .i64 a0_turns, .int .i64 a0_x, .int .i64 a0_y], .sl .rect a1]) (AEnds C_ref03_Whole true Try.f34 Post) = w_ref03_move_rects F a0_turns a0_x a0_y a1 (fun r0 => Post (.new .rect r0)) := by
  rw [entry_ref03_move_rects]
  have e0 : (fun t1 t6 c2_0 c2_1 c2_2 l23 => iter (exec C_ref03_Whole Try.f34.ntmps M_ref03_move_rects F 0 (cL (cB (cS (cF (cS (cS (bo Try.f34)))))))) (M_ref03_move_rects 0) F 0 (st_ref03_move_rects_0 t1 t6 c2_0 c2_1 c2_2 l23) (k_ref03_move_rects_0 F Post)) = (n_ref03_move_rects_0 F (fun r0 => Post (.new .rect r0))) := by
    funext t1 t6 c2_0 c2_1 c2_2 l23
    exact nl_ref03_move_rects_0 F Post t1 t6 c2_0 c2_1 c2_2 l23
  rw [e0]
  rfl
def m_ref03_move_rects : Model UU
  | [.agg [.int .i64 a0_turns, .int .i64 a0_x, .int .i64 a0_y], .sl .rect a1] => some ([pre_ref03_move_rects a0_turns a0_x a0_y a1], .new .rect (sp_ref03_move_rects a0_turns a0_x a0_y a1))
  | _ => none
def C_ref03_move_rects : Cfg UU := C_ref03_Whole.add 34 m_ref03_move_rects
theorem s_ref03_move_rects : SumOK C_ref03_move_rects := by
  refine s_ref03_Whole.addD mixed (fn := Try.f34) (c := bo Try.f34) Try.func34 (by kernel_rfl) (by kernel_rfl) ?_
  intro xs cs r h hc
  unfold m_ref03_move_rects at h
  split at h
  · rename_i a0_turns a0_x a0_y a1
    cases h
    obtain ⟨F, hF⟩ := ok_ref03_move_rects a0_turns a0_x a0_y a1 hc
    refine ⟨by kernel_rfl, M_ref03_move_rects, F, true, ⟨?_⟩⟩
    rw [exec_ref03_move_rects]
    refine hF _ ?_
    rfl
  · cases h
def k_ref03_Copy_0 (F : Nat) (Post : AVal UU → Prop) : AEx → ASt UU → Prop := kBlock 0 (kSeq C_ref03_move_rects Try.f10.ntmps M_ref03_Copy F 0 (cS (cS (cS (bo Try.f10)))) (AEnds C_ref03_move_rects true Try.f10 Post))
set_option maxRecDepth 100000 in
theorem step_ref03_Copy_0 (F n r : Nat) (K : AEx → ASt UU → Prop) (t4 : Int) (c1_0 : List Rect) (c1_1 : List Rect) (c1_2 : List Rect) (c1_3 : List Bend) (l33 : List Rect) (l34 : List Rect) (l35 : List Rect) (l36 : List Bend) : iter (exec C_ref03_move_rects Try.f10.ntmps M_ref03_Copy F 0 (cL (cB (cS (cF (cS (cS (bo Try.f10)))))))) (M_ref03_Copy 0) (n + 1) r (st_ref03_Copy_0 t4 c1_0 c1_1 c1_2 c1_3 l33 l34 l35 l36) K = g_ref03_Copy_s0 (fun t4 c1_0 c1_1 c1_2 c1_3 l33 l34 l35 l36 => iter (exec C_ref03_move_rects Try.f10.ntmps M_ref03_Copy F 0 (cL (cB (cS (cF (cS (cS (bo Try.f10)))))))) (M_ref03_Copy 0) n (r + 1) (st_ref03_Copy_0 t4 c1_0 c1_1 c1_2 c1_3 l33 l34 l35 l36) K) (fun t4 c1_0 c1_1 c1_2 c1_3 l33 l34 l35 l36 => K (.exit 0) (st_ref03_Copy_0 t4 c1_0 c1_1 c1_2 c1_3 l33 l34 l35 l36)) t4 c1_0 c1_1 c1_2 c1_3 l33 l34 l35 l36 := by kernel_rfl
set_option maxRecDepth 100000 in
theorem cont_ref03_Copy_0_0 (F : Nat) (Post : AVal UU → Prop) (t4 : Int) (c1_0 : List Rect) (c1_1 : List Rect) (c1_2 : List Rect) (c1_3 : List Bend) (l33 : List Rect) (l34 : List Rect) (l35 : List Rect) (l36 : List Bend) : k_ref03_Copy_0 F Post (.exit 0) (st_ref03_Copy_0 t4 c1_0 c1_1 c1_2 c1_3 l33 l34 l35 l36) = g_ref03_Copy_c0_0 (fun r0_Rects r0_Cuts r0_Forms r0_Bends => Post (.agg [.new .rect r0_Rects, .new .rect r0_Cuts, .new .rect r0_Forms, .new .bend r0_Bends])) t4 c1_0 c1_1 c1_2 c1_3 l33 l34 l35 l36 := by kernel_rfl
set_option maxRecDepth 100000 in
theorem entry_ref03_Copy (F : Nat) (Post : AVal UU → Prop) (a0_Rects : List Rect) (a0_Cuts : List Rect) (a0_Forms : List Rect) (a0_Bends : List Bend) : exec C_ref03_move_rects Try.f10.ntmps M_ref03_Copy F 0 (bo Try.f10) (initSt [.agg [.sl .rect a0_Rects, .sl .rect a0_Cuts, .sl .rect a0_Forms, .sl .bend a0_Bends]]) (AEnds C_ref03_move_rects true Try.f10 Post) = g_ref03_Copy_e a0_Rects a0_Cuts a0_Forms a0_Bends (fun r0_Rects r0_Cuts r0_Forms r0_Bends => Post (.agg [.new .rect r0_Rects, .new .rect r0_Cuts, .new .rect r0_Forms, .new .bend r0_Bends])) (fun t4 c1_0 c1_1 c1_2 c1_3 l33 l34 l35 l36 => iter (exec C_ref03_move_rects Try.f10.ntmps M_ref03_Copy F 0 (cL (cB (cS (cF (cS (cS (bo Try.f10)))))))) (M_ref03_Copy 0) F 0 (st_ref03_Copy_0 t4 c1_0 c1_1 c1_2 c1_3 l33 l34 l35 l36) (k_ref03_Copy_0 F Post)) := by kernel_rfl
theorem loop_ref03_Copy_0 (F : Nat) (K : AEx → ASt UU → Prop) : ∀ (n r : Nat) (t4 : Int) (c1_0 : List Rect) (c1_1 : List Rect) (c1_2 : List Rect) (c1_3 : List Bend) (l33 : List Rect) (l34 : List Rect) (l35 : List Rect) (l36 : List Bend), iter (exec C_ref03_move_rects Try.f10.ntmps M_ref03_Copy F 0 (cL (cB (cS (cF (cS (cS (bo Try.f10)))))))) (M_ref03_Copy 0) n r (st_ref03_Copy_0 t4 c1_0 c1_1 c1_2 c1_3 l33 l34 l35 l36) K = w_ref03_Copy_0 F  (fun t4 c1_0 c1_1 c1_2 c1_3 l33 l34 l35 l36 => K (.exit 0) (st_ref03_Copy_0 t4 c1_0 c1_1 c1_2 c1_3 l33 l34 l35 l36)) n t4 c1_0 c1_1 c1_2 c1_3 l33 l34 l35 l36 := by
  intro n
  induction n with
  | zero => intros; rfl
  | succ n ih =>
    intro r t4 c1_0 c1_1 c1_2 c1_3 l33 l34 l35 l36
    have e : (fun t4 c1_0 c1_1 c1_2 c1_3 l33 l34 l35 l36 => iter (exec C_ref03_move_rects Try.f10.ntmps M_ref03_Copy F 0 (cL (cB (cS (cF (cS (cS (bo Try.f10)))))))) (M_ref03_Copy 0) n (r + 1) (st_ref03_Copy_0 t4 c1_0 c1_1 c1_2 c1_3 l33 l34 l35 l36) K) = w_ref03_Copy_0 F  (fun t4 c1_0 c1_1 c1_2 c1_3 l33 l34 l35 l36 => K (.exit 0) (st_ref03_Copy_0 t4 c1_0 c1_1 c1_2 c1_3 l33 l34 l35 l36)) n := by
      funext t4 c1_0 c1_1 c1_2 c1_3 l33 l34 l35 l36
      exact ih (r + 1) t4 c1_0 c1_1 c1_2 c1_3 l33 l34 l35 l36
    rw [step_ref03_Copy_0, e]
    rfl
theorem nl_ref03_Copy_0 (F : Nat) (Post : AVal UU → Prop) (t4 : Int) (c1_0 : List Rect) (c1_1 : List Rect) (c1_2 : List Rect) (c1_3 : List Bend) (l33 : List Rect) (l34 : List Rect) (l35 : List Rect) (l36 : List Bend) : iter (exec C_ref03_move_rects Try.f10.ntmps M_ref03_Copy F 0 (cL (cB (cS (cF (cS (cS (bo Try.f10)))))))) (M_ref03_Copy 0) F 0 (st_ref03_Copy_0 t4 c1_0 c1_1 c1_2 c1_3 l33 l34 l35 l36) (k_ref03_Copy_0 F Post) = n_ref03_Copy_0 F (fun r0_Rects r0_Cuts r0_Forms r0_Bends => Post (.agg [.new .rect r0_Rects, .new .rect r0_Cuts, .new .rect r0_Forms, .new .bend r0_Bends])) t4 c1_0 c1_1 c1_2 c1_3 l33 l34 l35 l36 := by
  rw [loop_ref03_Copy_0]
  have h0 : (fun t4 c1_0 c1_1 c1_2 c1_3 l33 l34 l35 l36 => k_ref03_Copy_0 F Post (.exit 0) (st_ref03_Copy_0 t4 c1_0 c1_1 c1_2 c1_3 l33 l34 l35 l36)) = (fun t4 c1_0 c1_1 c1_2 c1_3 l33 l34 l35 l36 => g_ref03_Copy_c0_0 (fun r0_Rects r0_Cuts r0_Forms r0_Bends => Post (.agg [.new .rect r0_Rects, .new .rect r0_Cuts, .new .rect r0_Forms, .new .bend r0_Bends])) t4 c1_0 c1_1 c1_2 c1_3 l33 l34 l35 l36) := by
    funext t4 c1_0 c1_1 c1_2 c1_3 l33 l34 l35 l36
    rw [cont_ref03_Copy_0_0]
  rw [h0]
  rfl
theorem exec_ref03_Copy (F : Nat) (Post : AVal UU → Prop) (a0_Rects : List Rect) (a0_Cuts : List Rect) (a0_Forms : List Rect) (a0_Bends : List Bend) : exec C_ref03_move_rects Try.f10.ntmps M_ref03_Copy F 0 (bo Try.f10) (initSt [.agg [.sl .rect a0_Rects, .sl .rect a0_Cuts, .sl .rect a0_Forms, .sl .bend a0_Bends]]) (AEnds C_ref03_move_rects true Try.f10 Post) = w_ref03_Copy F a0_Rects a0_Cuts a0_Forms a0_Bends (fun r0_Rects r0_Cuts r0_Forms r0_Bends => Post (.agg [.new .rect r0_Rects, .new .rect r0_Cuts, .new .rect r0_Forms, .new .bend r0_Bends])) := by
  rw [entry_ref03_Copy]
  have e0 : (fun t4 c1_0 c1_1 c1_2 c1_3 l33 l34 l35 l36 => iter (exec C_ref03_move_rects Try.f10.ntmps M_ref03_Copy F 0 (cL (cB (cS (cF (cS (cS (bo Try.f10)))))))) (M_ref03_Copy 0) F 0 (st_ref03_Copy_0 t4 c1_0 c1_1 c1_2 c1_3 l33 l34 l35 l36) (k_ref03_Copy_0 F Post)) = (n_ref03_Copy_0 F (fun r0_Rects r0_Cuts r0_Forms r0_Bends => Post (.agg [.new .rect r0_Rects, .new .rect r0_Cuts, .new .rect r0_Forms, .new .bend r0_Bends]))) := by
    funext t4 c1_0 c1_1 c1_2 c1_3 l33 l34 l35 l36
    exact nl_ref03_Copy_0 F Post t4 c1_0 c1_1 c1_2 c1_3 l33 l34 l35 l36
  rw [e0]
  rfl
def m_ref03_Copy : Model UU
  | [.agg [.sl .rect a0_Rects, .sl .rect a0_Cuts, .sl .rect a0_Forms, .sl .bend a0_Bends]] => some ([pre_ref03_Copy a0_Rects a0_Cuts a0_Forms a0_Bends], .agg [.new .rect ((sp_ref03_Copy a0_Rects a0_Cuts a0_Forms a0_Bends).1), .new .rect ((sp_ref03_Copy a0_Rects a0_Cuts a0_Forms a0_Bends).2.1), .new .rect ((sp_ref03_Copy a0_Rects a0_Cuts a0_Forms a0_Bends).2.2.1), .new .bend ((sp_ref03_Copy a0_Rects a0_Cuts a0_Forms a0_Bends).2.2.2)])
  | _ => none
def C_ref03_Copy : Cfg UU := C_ref03_move_rects.add 10 m_ref03_Copy
theorem s_ref03_Copy : SumOK C_ref03_Copy := by
  refine s_ref03_move_rects.addD mixed (fn := Try.f10) (c := bo Try.f10) Try.func10 (by kernel_rfl) (by kernel_rfl) ?_
  intro xs cs r h hc
  unfold m_ref03_Copy at h
  split at h
  · rename_i a0_Rects a0_Cuts a0_Forms a0_Bends
    cases h
    obtain ⟨F, hF⟩ := ok_ref03_Copy a0_Rects a0_Cuts a0_Forms a0_Bends hc
    refine ⟨by kernel_rfl, M_ref03_Copy, F, true, ⟨?_⟩⟩
    rw [exec_ref03_Copy]
    refine hF _ ?_
    rfl
  · cases h
def k_ref03_SameFlat_0 (F : Nat) (Post : AVal UU → Prop) : AEx → ASt UU → Prop := kBlock 0 (kSeq C_ref03_Copy Try.f16.ntmps M_ref03_SameFlat F 0 (cS (cS (cS (bo Try.f16)))) (AEnds C_ref03_Copy false Try.f16 Post))
set_option maxRecDepth 100000 in
theorem step_ref03_SameFlat_0 (F n r : Nat) (K : AEx → ASt UU → Prop) (t4 : Bool) (t5 : Int) (c2_0 : List Rect) (c2_1 : List Rect) (c2_2 : List Rect) (c2_3 : List Bend) (c3_0 : List Rect) (c3_1 : List Rect) (c3_2 : List Rect) (c3_3 : List Bend) : iter (exec C_ref03_Copy Try.f16.ntmps M_ref03_SameFlat F 0 (cL (cB (cS (cF (cS (cS (bo Try.f16)))))))) (M_ref03_SameFlat 0) (n + 1) r (st_ref03_SameFlat_0 t4 t5 c2_0 c2_1 c2_2 c2_3 c3_0 c3_1 c3_2 c3_3) K = g_ref03_SameFlat_s0 (fun t4 t5 c2_0 c2_1 c2_2 c2_3 c3_0 c3_1 c3_2 c3_3 => iter (exec C_ref03_Copy Try.f16.ntmps M_ref03_SameFlat F 0 (cL (cB (cS (cF (cS (cS (bo Try.f16)))))))) (M_ref03_SameFlat 0) n (r + 1) (st_ref03_SameFlat_0 t4 t5 c2_0 c2_1 c2_2 c2_3 c3_0 c3_1 c3_2 c3_3) K) (fun t4 t5 c2_0 c2_1 c2_2 c2_3 c3_0 c3_1 c3_2 c3_3 => K .ret (st_ref03_SameFlat_0 t4 t5 c2_0 c2_1 c2_2 c2_3 c3_0 c3_1 c3_2 c3_3)) (fun t4 t5 c2_0 c2_1 c2_2 c2_3 c3_0 c3_1 c3_2 c3_3 => K (.exit 0) (st_ref03_SameFlat_0 t4 t5 c2_0 c2_1 c2_2 c2_3 c3_0 c3_1 c3_2 c3_3)) t4 t5 c2_0 c2_1 c2_2 c2_3 c3_0 c3_1 c3_2 c3_3 := by kernel_rfl
set_option maxRecDepth 100000 in
theorem cont_ref03_SameFlat_0_0 (F : Nat) (Post : AVal UU → Prop) (t4 : Bool) (t5 : Int) (c2_0 : List Rect) (c2_1 : List Rect) (c2_2 : List Rect) (c2_3 : List Bend) (c3_0 : List Rect) (c3_1 : List Rect) (c3_2 : List Rect) (c3_3 : List Bend) : k_ref03_SameFlat_0 F Post .ret (st_ref03_SameFlat_0 t4 t5 c2_0 c2_1 c2_2 c2_3 c3_0 c3_1 c3_2 c3_3) = g_ref03_SameFlat_c0_0 (fun r0 => Post (.bool r0)) t4 t5 c2_0 c2_1 c2_2 c2_3 c3_0 c3_1 c3_2 c3_3 := by kernel_rfl
set_option maxRecDepth 100000 in
theorem cont_ref03_SameFlat_0_1 (F : Nat) (Post : AVal UU → Prop) (t4 : Bool) (t5 : Int) (c2_0 : List Rect) (c2_1 : List Rect) (c2_2 : List Rect) (c2_3 : List Bend) (c3_0 : List Rect) (c3_1 : List Rect) (c3_2 : List Rect) (c3_3 : List Bend) : k_ref03_SameFlat_0 F Post (.exit 0) (st_ref03_SameFlat_0 t4 t5 c2_0 c2_1 c2_2 c2_3 c3_0 c3_1 c3_2 c3_3) = g_ref03_SameFlat_c0_1 (fun r0 => Post (.bool r0)) t4 t5 c2_0 c2_1 c2_2 c2_3 c3_0 c3_1 c3_2 c3_3 := by kernel_rfl
set_option maxRecDepth 100000 in
theorem entry_ref03_SameFlat (F : Nat) (Post : AVal UU → Prop) (a0_Rects : List Rect) (a0_Cuts : List Rect) (a0_Forms : List Rect) (a0_Bends : List Bend) (a1_Rects : List Rect) (a1_Cuts : List Rect) (a1_Forms : List Rect) (a1_Bends : List Bend) : exec C_ref03_Copy Try.f16.ntmps M_ref03_SameFlat F 0 (bo Try.f16) (initSt [.agg [.sl .rect a0_Rects, .sl .rect a0_Cuts, .sl .rect a0_Forms, .sl .bend a0_Bends], .agg [.sl .rect a1_Rects, .sl .rect a1_Cuts, .sl .rect a1_Forms, .sl .bend a1_Bends]]) (AEnds C_ref03_Copy false Try.f16 Post) = g_ref03_SameFlat_e a0_Rects a0_Cuts a0_Forms a0_Bends a1_Rects a1_Cuts a1_Forms a1_Bends (fun r0 => Post (.bool r0)) (fun t4 t5 c2_0 c2_1 c2_2 c2_3 c3_0 c3_1 c3_2 c3_3 => iter (exec C_ref03_Copy Try.f16.ntmps M_ref03_SameFlat F 0 (cL (cB (cS (cF (cS (cS (bo Try.f16)))))))) (M_ref03_SameFlat 0) F 0 (st_ref03_SameFlat_0 t4 t5 c2_0 c2_1 c2_2 c2_3 c3_0 c3_1 c3_2 c3_3) (k_ref03_SameFlat_0 F Post)) := by kernel_rfl
theorem loop_ref03_SameFlat_0 (F : Nat) (K : AEx → ASt UU → Prop) : ∀ (n r : Nat) (t4 : Bool) (t5 : Int) (c2_0 : List Rect) (c2_1 : List Rect) (c2_2 : List Rect) (c2_3 : List Bend) (c3_0 : List Rect) (c3_1 : List Rect) (c3_2 : List Rect) (c3_3 : List Bend), iter (exec C_ref03_Copy Try.f16.ntmps M_ref03_SameFlat F 0 (cL (cB (cS (cF (cS (cS (bo Try.f16)))))))) (M_ref03_SameFlat 0) n r (st_ref03_SameFlat_0 t4 t5 c2_0 c2_1 c2_2 c2_3 c3_0 c3_1 c3_2 c3_3) K = w_ref03_SameFlat_0 F  (fun t4 t5 c2_0 c2_1 c2_2 c2_3 c3_0 c3_1 c3_2 c3_3 => K .ret (st_ref03_SameFlat_0 t4 t5 c2_0 c2_1 c2_2 c2_3 c3_0 c3_1 c3_2 c3_3)) (fun t4 t5 c2_0 c2_1 c2_2 c2_3 c3_0 c3_1 c3_2 c3_3 => K (.exit 0) (st_ref03_SameFlat_0 t4 t5 c2_0 c2_1 c2_2 c2_3 c3_0 c3_1 c3_2 c3_3)) n t4 t5 c2_0 c2_1 c2_2 c2_3 c3_0 c3_1 c3_2 c3_3 := by
  intro n
  induction n with
  | zero => intros; rfl
  | succ n ih =>
    intro r t4 t5 c2_0 c2_1 c2_2 c2_3 c3_0 c3_1 c3_2 c3_3
    have e : (fun t4 t5 c2_0 c2_1 c2_2 c2_3 c3_0 c3_1 c3_2 c3_3 => iter (exec C_ref03_Copy Try.f16.ntmps M_ref03_SameFlat F 0 (cL (cB (cS (cF (cS (cS (bo Try.f16)))))))) (M_ref03_SameFlat 0) n (r + 1) (st_ref03_SameFlat_0 t4 t5 c2_0 c2_1 c2_2 c2_3 c3_0 c3_1 c3_2 c3_3) K) = w_ref03_SameFlat_0 F  (fun t4 t5 c2_0 c2_1 c2_2 c2_3 c3_0 c3_1 c3_2 c3_3 => K .ret (st_ref03_SameFlat_0 t4 t5 c2_0 c2_1 c2_2 c2_3 c3_0 c3_1 c3_2 c3_3)) (fun t4 t5 c2_0 c2_1 c2_2 c2_3 c3_0 c3_1 c3_2 c3_3 => K (.exit 0) (st_ref03_SameFlat_0 t4 t5 c2_0 c2_1 c2_2 c2_3 c3_0 c3_1 c3_2 c3_3)) n := by
      funext t4 t5 c2_0 c2_1 c2_2 c2_3 c3_0 c3_1 c3_2 c3_3
      exact ih (r + 1) t4 t5 c2_0 c2_1 c2_2 c2_3 c3_0 c3_1 c3_2 c3_3
    rw [step_ref03_SameFlat_0, e]
    rfl
theorem nl_ref03_SameFlat_0 (F : Nat) (Post : AVal UU → Prop) (t4 : Bool) (t5 : Int) (c2_0 : List Rect) (c2_1 : List Rect) (c2_2 : List Rect) (c2_3 : List Bend) (c3_0 : List Rect) (c3_1 : List Rect) (c3_2 : List Rect) (c3_3 : List Bend) : iter (exec C_ref03_Copy Try.f16.ntmps M_ref03_SameFlat F 0 (cL (cB (cS (cF (cS (cS (bo Try.f16)))))))) (M_ref03_SameFlat 0) F 0 (st_ref03_SameFlat_0 t4 t5 c2_0 c2_1 c2_2 c2_3 c3_0 c3_1 c3_2 c3_3) (k_ref03_SameFlat_0 F Post) = n_ref03_SameFlat_0 F (fun r0 => Post (.bool r0)) t4 t5 c2_0 c2_1 c2_2 c2_3 c3_0 c3_1 c3_2 c3_3 := by
  rw [loop_ref03_SameFlat_0]
  have h0 : (fun t4 t5 c2_0 c2_1 c2_2 c2_3 c3_0 c3_1 c3_2 c3_3 => k_ref03_SameFlat_0 F Post .ret (st_ref03_SameFlat_0 t4 t5 c2_0 c2_1 c2_2 c2_3 c3_0 c3_1 c3_2 c3_3)) = (fun t4 t5 c2_0 c2_1 c2_2 c2_3 c3_0 c3_1 c3_2 c3_3 => g_ref03_SameFlat_c0_0 (fun r0 => Post (.bool r0)) t4 t5 c2_0 c2_1 c2_2 c2_3 c3_0 c3_1 c3_2 c3_3) := by
    funext t4 t5 c2_0 c2_1 c2_2 c2_3 c3_0 c3_1 c3_2 c3_3
    rw [cont_ref03_SameFlat_0_0]
  have h1 : (fun t4 t5 c2_0 c2_1 c2_2 c2_3 c3_0 c3_1 c3_2 c3_3 => k_ref03_SameFlat_0 F Post (.exit 0) (st_ref03_SameFlat_0 t4 t5 c2_0 c2_1 c2_2 c2_3 c3_0 c3_1 c3_2 c3_3)) = (fun t4 t5 c2_0 c2_1 c2_2 c2_3 c3_0 c3_1 c3_2 c3_3 => g_ref03_SameFlat_c0_1 (fun r0 => Post (.bool r0)) t4 t5 c2_0 c2_1 c2_2 c2_3 c3_0 c3_1 c3_2 c3_3) := by
    funext t4 t5 c2_0 c2_1 c2_2 c2_3 c3_0 c3_1 c3_2 c3_3
    rw [cont_ref03_SameFlat_0_1]
  rw [h0, h1]
  rfl
theorem exec_ref03_SameFlat (F : Nat) (Post : AVal UU → Prop) (a0_Rects : List Rect) (a0_Cuts : List Rect) (a0_Forms : List Rect) (a0_Bends : List Bend) (a1_Rects : List Rect) (a1_Cuts : List Rect) (a1_Forms : List Rect) (a1_Bends : List Bend) : exec C_ref03_Copy Try.f16.ntmps M_ref03_SameFlat F 0 (bo Try.f16) (initSt [.agg [.sl .rect a0_Rects, .sl .rect a0_Cuts, .sl .rect a0_Forms, .sl .bend a0_Bends], .agg [.sl .rect a1_Rects, .sl .rect a1_Cuts, .sl .rect a1_Forms, .sl .bend a1_Bends]]) (AEnds C_ref03_Copy false Try.f16 Post) = w_ref03_SameFlat F a0_Rects a0_Cuts a0_Forms a0_Bends a1_Rects a1_Cuts a1_Forms a1_Bends (fun r0 => Post (.bool r0)) := by
  rw [entry_ref03_SameFlat]
  have e0 : (fun t4 t5 c2_0 c2_1 c2_2 c2_3 c3_0 c3_1 c3_2 c3_3 => iter (exec C_ref03_Copy Try.f16.ntmps M_ref03_SameFlat F 0 (cL (cB (cS (cF (cS (cS (bo Try.f16)))))))) (M_ref03_SameFlat 0) F 0 (st_ref03_SameFlat_0 t4 t5 c2_0 c2_1 c2_2 c2_3 c3_0 c3_1 c3_2 c3_3) (k_ref03_SameFlat_0 F Post)) = (n_ref03_SameFlat_0 F (fun r0 => Post (.bool r0))) := by
    funext t4 t5 c2_0 c2_1 c2_2 c2_3 c3_0 c3_1 c3_2 c3_3
    exact nl_ref03_SameFlat_0 F Post t4 t5 c2_0 c2_1 c2_2 c2_3 c3_0 c3_1 c3_2 c3_3
  rw [e0]
  rfl
def m_ref03_SameFlat : Model UU
  | [.agg [.sl .rect a0_Rects, .sl .rect a0_Cuts, .sl .rect a0_Forms, .sl .bend a0_Bends], .agg [.sl .rect a1_Rects, .sl .rect a1_Cuts, .sl .rect a1_Forms, .sl .bend a1_Bends]] => some ([pre_ref03_SameFlat a0_Rects a0_Cuts a0_Forms a0_Bends a1_Rects a1_Cuts a1_Forms a1_Bends], .bool (sp_ref03_SameFlat a0_Rects a0_Cuts a0_Forms a0_Bends a1_Rects a1_Cuts a1_Forms a1_Bends))
  | _ => none
def C_ref03_SameFlat : Cfg UU := C_ref03_Copy.add 16 m_ref03_SameFlat
theorem s_ref03_SameFlat : SumOK C_ref03_SameFlat := by
  refine s_ref03_Copy.addD mixed (fn := Try.f16) (c := bo Try.f16) Try.func16 (by kernel_rfl) (by kernel_rfl) ?_
  intro xs cs r h hc
  unfold m_ref03_SameFlat at h
  split at h
  · rename_i a0_Rects a0_Cuts a0_Forms a0_Bends a1_Rects a1_Cuts a1_Forms a1_Bends
    cases h
    obtain ⟨F, hF⟩ := ok_ref03_SameFlat a0_Rects a0_Cuts a0_Forms a0_Bends a1_Rects a1_Cuts a1_Forms a1_Bends hc
    refine ⟨by kernel_rfl, M_ref03_SameFlat, F, false, ⟨?_⟩⟩
    rw [exec_ref03_SameFlat]
    refine hF _ ?_
    rfl
  · cases h
end
end Go.Proofs.Ytohecfbnmmgimaa

namespace Go.Proofs.Ytohecfbnmmgimaa
open Go.Vm Go.RowKit
set_option linter.unusedVariables false
noncomputable section
set_option maxRecDepth 100000 in
theorem entry_law03_Long (F : Nat) (Post : AVal UU → Prop) (a0_Rects : List Rect) (a0_Cuts : List Rect) (a0_Forms : List Rect) (a0_Bends : List Bend) : exec C_ref03_SameFlat Try.f8.ntmps M_law03_Long F 0 (bo Try.f8) (initSt [.agg [.sl .rect a0_Rects, .sl .rect a0_Cuts, .sl .rect a0_Forms, .sl .bend a0_Bends]]) (AEnds C_ref03_SameFlat false Try.f8 Post) = g_law03_Long_e a0_Rects a0_Cuts a0_Forms a0_Bends (fun r0 => Post (.bool r0)) := by kernel_rfl
theorem exec_law03_Long (F : Nat) (Post : AVal UU → Prop) (a0_Rects : List Rect) (a0_Cuts : List Rect) (a0_Forms : List Rect) (a0_Bends : List Bend) : exec C_ref03_SameFlat Try.f8.ntmps M_law03_Long F 0 (bo Try.f8) (initSt [.agg [.sl .rect a0_Rects, .sl .rect a0_Cuts, .sl .rect a0_Forms, .sl .bend a0_Bends]]) (AEnds C_ref03_SameFlat false Try.f8 Post) = w_law03_Long F a0_Rects a0_Cuts a0_Forms a0_Bends (fun r0 => Post (.bool r0)) := by
  rw [entry_law03_Long]
  rfl
def m_law03_Long : Model UU
  | [.agg [.sl .rect a0_Rects, .sl .rect a0_Cuts, .sl .rect a0_Forms, .sl .bend a0_Bends]] => some ([], .bool (sp_law03_Long a0_Rects a0_Cuts a0_Forms a0_Bends))
  | _ => none
def C_law03_Long : Cfg UU := C_ref03_SameFlat.add 8 m_law03_Long
theorem s_law03_Long : SumOK C_law03_Long := by
  refine s_ref03_SameFlat.addD mixed (fn := Try.f8) (c := bo Try.f8) Try.func8 (by kernel_rfl) (by kernel_rfl) ?_
  intro xs cs r h hc
  unfold m_law03_Long at h
  split at h
  · rename_i a0_Rects a0_Cuts a0_Forms a0_Bends
    cases h
    obtain ⟨F, hF⟩ := ok_law03_Long a0_Rects a0_Cuts a0_Forms a0_Bends
    refine ⟨by kernel_rfl, M_law03_Long, F, false, ⟨?_⟩⟩
    rw [exec_law03_Long]
    refine hF _ ?_
    rfl
  · cases h
end
end Go.Proofs.Ytohecfbnmmgimaa

namespace Go.Proofs
open Go.Shelf
def Try.lays122_ren : Go.Shelf.Ren := ⟨fun | 122 => 85 | 215 => 93 | n => n, fun | 3 => 3 | 4 => 4 | n => n, fun | n => n⟩
theorem Try.lays122 : Go.Proofs.Lays.n122 Try.prog Try.lays122_ren := {
  mixed := by kernel_rfl
  f122 := Try.func85.trans (congrArg some (by kernel_rfl))
  f215 := Try.func93.trans (congrArg some (by kernel_rfl))
  t3 := Try.underlying3
  a3 := Try.isAgg3
  z3 := Try.sizeOf3
  v3 := Try.zeroValue3
  t4 := Try.underlying4
  a4 := Try.isAgg4
  z4 := Try.sizeOf4
  v4 := Try.zeroValue4 }
open Go.RowKit in
/-- cmp.Compare at int: "Compare returns -1 if x is less than y, 0 if x equals y, +1 if x is greater than y.": IT RETURNS 'Lib.compareInt x y'; the world is as it was. (LAID: no walk: one application.) -/
theorem Try.cmp_Compare_int (x y : Int) (w : World) :
    Calls Try.prog 85 #[.int .i64 x, .int .i64 y] w fun e w' => e = .returned (.int .i64 (Lib.compareInt x y)) ∧ w' = w := Any.cmp_Compare_int Try.lays122 x y w
def Try.laysNm215_ren : Go.Shelf.Ren := ⟨fun | 15 => 90 | n => n, fun | 22 => 81 | 3 => 3 | 4 => 4 | n => n, fun | n => n⟩
theorem Try.laysNm215 : Go.Proofs.Lays2.n15 Try.prog Try.laysNm215_ren := {
  mixed := by kernel_rfl
  f15 := Try.func90.trans (congrArg some (by kernel_rfl))
  t3 := Try.underlying3
  a3 := Try.isAgg3
  z3 := Try.sizeOf3
  v3 := Try.zeroValue3
  t4 := Try.underlying4
  a4 := Try.isAgg4
  z4 := Try.sizeOf4
  v4 := Try.zeroValue4
  t22 := Try.underlying81
  a22 := Try.isAgg81
  z22 := Try.sizeOf81
  v22 := Try.zeroValue81
  i3 := by kernel_rfl }
open Go.RowKit Go.Lib in
/-- slices.Clone at []int: "Clone returns a copy of the slice. The elements are copied using assignment, so this is a shallow clone. The result may have additional unused capacity. The result preserves the nilness of s.": OF A SLICE THAT IS NOT nil IT RETURNS A SLICE THAT IS NOT nil, OF THE SAME ELEMENTS, IN MEMORY OF THE CALL's OWN: in the how-to's words (6f): 'w'.ownsRow B e 1 v' n cells': v' begins at the head of a row among the blocks from B on (B: the heap's size at the call), not frozen, whose first cells are the elements · 'Below B w w'': below B all is as it was. The capacity is whatever the run-time gives. 'zs': what the cells behind the slice's address hold; 'zs.take n': its elements. (LAID: no walk: one application.) -/
theorem Try.slices_Clone_int (b off n c : Nat) (zs : List Int) (w : World) (hz : n ≤ zs.length) (hbig : n * 8 ≤ 140737488355328) (hc : ∀ j, j < zs.length → w.cell? ⟨b, off + j, none⟩ = some (.int .i64 (zs.getD j 0))) :
    Calls Try.prog 90 #[.slice (some ⟨b, off, none⟩) n c] w fun e w' => ∃ v', e = .returned v' ∧ w'.ownsRow w.heap.size 3 1 v' n ((zs.take n).map (Value.int .i64)) ∧ v' ≠ .slice none 0 0 ∧ Below w.heap.size w w' := Any.slices_Clone_int Try.laysNm215 b off n c zs w hz hbig hc
open Go.RowKit Go.Lib in
/-- The same at nil: nil comes back; the world is as it was. (LAID: no walk: one application.) -/
theorem Try.slices_Clone_int_nil (n c : Nat) (w : World) :
    Calls Try.prog 90 #[.slice none n c] w fun e w' => e = .returned (.slice none 0 0) ∧ w' = w := Any.slices_Clone_int_nil Try.laysNm215 n c w
open Go.RowKit Go.Lib in
/-- The same at a slice of length 0 that is not nil, WHATEVER ITS ADDRESS (no cell is asked for): a slice that is not nil and owns nothing comes back. (LAID: no walk: one application.) -/
theorem Try.slices_Clone_int_zero (a : Addr) (c : Nat) (w : World) :
    Calls Try.prog 90 #[.slice (some a) 0 c] w fun e w' => ∃ v', e = .returned v' ∧ w'.ownsRow w.heap.size 3 1 v' 0 [] ∧ v' ≠ .slice none 0 0 ∧ Below w.heap.size w w' := Any.slices_Clone_int_zero Try.laysNm215 a c w
def Try.laysNm220_ren : Go.Shelf.Ren := ⟨fun | 20 => 92 | n => n, fun | 22 => 81 | 3 => 3 | 4 => 4 | 0 => 0 | n => n, fun | n => n⟩
theorem Try.laysNm220 : Go.Proofs.Lays2.n20 Try.prog Try.laysNm220_ren := {
  mixed := by kernel_rfl
  f20 := Try.func92.trans (congrArg some (by kernel_rfl))
  t0 := Try.underlying0
  a0 := Try.isAgg0
  z0 := Try.sizeOf0
  v0 := Try.zeroValue0
  t3 := Try.underlying3
  a3 := Try.isAgg3
  z3 := Try.sizeOf3
  v3 := Try.zeroValue3
  t4 := Try.underlying4
  a4 := Try.isAgg4
  z4 := Try.sizeOf4
  v4 := Try.zeroValue4
  t22 := Try.underlying81
  a22 := Try.isAgg81
  z22 := Try.sizeOf81
  v22 := Try.zeroValue81
  i3 := by kernel_rfl }
open Go.RowKit Go.Lib Go.Sort in
/-- slices.Compact at []int, over an array: the library's two loops are walked. (LAID: no walk: one application.) -/
theorem Try.slices_Compact_int_arr (blk off cap : Nat) (d : Array Int) (w : World) (hH : Holds encI w blk off d) (hsz : d.size ≤ 9223372036854775807) (hcap : d.size ≤ cap) :
    Calls Try.prog 92 #[.slice (some ⟨blk, off, none⟩) d.size cap] w fun e w' => e = .returned (.slice (some ⟨blk, off, none⟩) (compactUpTo d d.size).length cap) ∧ ∃ q, w' = putRow encI (Sort.ahead w q) blk off (compactUpTo d d.size ++ List.replicate (d.size - (compactUpTo d d.size).length) 0).toArray := Any.slices_Compact_int_arr Try.laysNm220 blk off cap d w hH hsz hcap
open Go.RowKit Go.Lib Go.Sort in
/-- slices.Compact at []int: "Compact replaces consecutive runs of equal elements with a single copy. This is like the uniq command found on Unix. Compact modifies the contents of the slice s and returns the modified slice, which may have a smaller length. Compact zeroes the elements between the new length and the original length. The result preserves the nilness of s.": IT RETURNS THE SLICE CUT TO 'Lib.compact zs'; ITS CELLS HOLD 'Lib.compact zs', THEN ZERO VALUES up to the old length; all else is as it was, but for the count of draws. IN THE WORDS OF slices.Sort's CONTRACT ('Holds', 'putRow'): so the everyday 'slices.Sort(xs); xs = slices.Compact(xs)' goes from the one contract to the other. It asks 'zs.length ≤ cap' (every slice's: the reslicing 's[:k]' looks at it). Length 0, nil: '.._empty'. (LAID: no walk: one application.) -/
theorem Try.slices_Compact_int (blk off cap : Nat) (zs : List Int) (w : World) (hH : Holds (Value.int .i64) w blk off zs.toArray) (hsz : zs.length ≤ 9223372036854775807) (hcap : zs.length ≤ cap) :
    Calls Try.prog 92 #[.slice (some ⟨blk, off, none⟩) zs.length cap] w fun e w' => e = .returned (.slice (some ⟨blk, off, none⟩) (Lib.compact zs).length cap) ∧ ∃ q, w' = putRow (Value.int .i64) (Sort.ahead w q) blk off (Lib.compact zs ++ List.replicate (zs.length - (Lib.compact zs).length) 0).toArray := Any.slices_Compact_int Try.laysNm220 blk off cap zs w hH hsz hcap
open Go.RowKit Go.Lib Go.Sort in
/-- The same at a slice of length 0, a nil one too: it comes back as it is. (LAID: no walk: one application.) -/
theorem Try.slices_Compact_int_empty (a : Option Addr) (cap : Nat) (w : World) :
    Calls Try.prog 92 #[.slice a 0 cap] w fun e w' => e = .returned (.slice a 0 cap) ∧ w' = w := Any.slices_Compact_int_empty Try.laysNm220 a cap w
def Try.laysSlF6_f91_ren : Go.Shelf.Ren := ⟨fun | 6 => 91 | 15 => 100 | 14 => 99 | 28 => 111 | 29 => 112 | 20 => 103 | 21 => 104 | 22 => 105 | 23 => 106 | 24 => 107 | 25 => 108 | 26 => 109 | 27 => 110 | 46 => 113 | 47 => 114 | 48 => 115 | 49 => 116 | 50 => 117 | 57 => 118 | n => n, fun | 22 => 81 | 24 => 3 | 25 => 115 | 3 => 3 | 39 => 121 | 0 => 0 | 53 => 124 | 55 => 137 | 4 => 4 | 46 => 129 | 45 => 128 | 50 => 133 | 5 => 5 | 9 => 9 | 66 => 138 | 70 => 142 | 76 => 144 | 77 => 111 | n => n, fun | n => n⟩
theorem Try.laysSlF6_f91 : Go.Proofs.SlLaysF.n6 Try.prog Try.laysSlF6_f91_ren := {
  mixed := by kernel_rfl
  f6 := ⟨Try.f91.name, by decide, Try.func91.trans (congrArg some (by kernel_rfl))⟩
  f14 := ⟨Try.f99.name, by decide, Try.func99.trans (congrArg some (by kernel_rfl))⟩
  f15 := Try.func100.trans (congrArg some (by kernel_rfl))
  f20 := ⟨Try.f103.name, by decide, Try.func103.trans (congrArg some (by kernel_rfl))⟩
  f21 := ⟨Try.f104.name, by decide, Try.func104.trans (congrArg some (by kernel_rfl))⟩
  f22 := ⟨Try.f105.name, by decide, Try.func105.trans (congrArg some (by kernel_rfl))⟩
  f23 := ⟨Try.f106.name, by decide, Try.func106.trans (congrArg some (by kernel_rfl))⟩
  f24 := ⟨Try.f107.name, by decide, Try.func107.trans (congrArg some (by kernel_rfl))⟩
  f25 := ⟨Try.f108.name, by decide, Try.func108.trans (congrArg some (by kernel_rfl))⟩
  f26 := ⟨Try.f109.name, by decide, Try.func109.trans (congrArg some (by kernel_rfl))⟩
  f27 := ⟨Try.f110.name, by decide, Try.func110.trans (congrArg some (by kernel_rfl))⟩
  f28 := Try.func111.trans (congrArg some (by kernel_rfl))
  f29 := Try.func112.trans (congrArg some (by kernel_rfl))
  f46 := ⟨Try.f113.name, by decide, Try.func113.trans (congrArg some (by kernel_rfl))⟩
  f47 := Try.func114.trans (congrArg some (by kernel_rfl))
  f48 := Try.func115.trans (congrArg some (by kernel_rfl))
  f49 := ⟨Try.f116.name, by decide, Try.func116.trans (congrArg some (by kernel_rfl))⟩
  f50 := ⟨Try.f117.name, by decide, Try.func117.trans (congrArg some (by kernel_rfl))⟩
  f57 := ⟨Try.f118.name, by decide, Try.func118.trans (congrArg some (by kernel_rfl))⟩
  t0 := Try.underlying0
  a0 := Try.isAgg0
  z0 := Try.sizeOf0
  v0 := Try.zeroValue0
  t3 := Try.underlying3
  a3 := Try.isAgg3
  z3 := Try.sizeOf3
  v3 := Try.zeroValue3
  t4 := Try.underlying4
  a4 := Try.isAgg4
  z4 := Try.sizeOf4
  v4 := Try.zeroValue4
  t5 := Try.underlying5
  a5 := Try.isAgg5
  z5 := Try.sizeOf5
  v5 := Try.zeroValue5
  t9 := Try.underlying9
  a9 := Try.isAgg9
  z9 := Try.sizeOf9
  v9 := Try.zeroValue9
  t22 := Try.underlying81
  a22 := Try.isAgg81
  z22 := Try.sizeOf81
  v22 := Try.zeroValue81
  a24 := Try.isAgg3
  z24 := Try.sizeOf3
  t25 := Try.underlying115
  a25 := Try.isAgg115
  z25 := Try.sizeOf115
  v25 := Try.zeroValue115
  t39 := Try.underlying121
  a39 := Try.isAgg121
  z39 := Try.sizeOf121
  v39 := Try.zeroValue121
  t45 := Try.underlying128
  a45 := Try.isAgg128
  z45 := Try.sizeOf128
  v45 := Try.zeroValue128
  t46 := Try.underlying129
  a46 := Try.isAgg129
  z46 := Try.sizeOf129
  v46 := Try.zeroValue129
  t50 := Try.underlying133
  a50 := Try.isAgg133
  z50 := Try.sizeOf133
  v50 := Try.zeroValue133
  t53 := Try.underlying124
  a53 := Try.isAgg124
  z53 := Try.sizeOf124
  v53 := Try.zeroValue124
  t55 := Try.underlying137
  a55 := Try.isAgg137
  z55 := Try.sizeOf137
  v55 := Try.zeroValue137
  t66 := Try.underlying138
  a66 := Try.isAgg138
  z66 := Try.sizeOf138
  v66 := Try.zeroValue138
  t70 := Try.underlying142
  a70 := Try.isAgg142
  z70 := Try.sizeOf142
  v70 := Try.zeroValue142
  t76 := Try.underlying144
  a76 := Try.isAgg144
  z76 := Try.sizeOf144
  v76 := Try.zeroValue144
  t77 := Try.underlying111
  a77 := Try.isAgg111
  z77 := Try.sizeOf111
  v77 := Try.zeroValue111 }
def Try.laysSlF06_f91_ren : Go.Shelf.Ren := ⟨fun | 6 => 91 | 15 => 100 | 14 => 99 | 28 => 111 | 29 => 112 | 20 => 103 | 21 => 104 | 22 => 105 | 23 => 106 | 24 => 107 | 25 => 108 | 26 => 109 | 27 => 110 | 46 => 113 | 47 => 114 | 48 => 115 | 49 => 116 | 50 => 117 | 57 => 118 | n => n, fun | 22 => 81 | 24 => 3 | 25 => 115 | 3 => 3 | 39 => 121 | 0 => 0 | 53 => 124 | 55 => 137 | 4 => 4 | 46 => 129 | 45 => 128 | 50 => 133 | 5 => 5 | 9 => 9 | 66 => 138 | 70 => 142 | 76 => 144 | 77 => 111 | n => n, fun | n => n⟩
theorem Try.laysSlF06_f91 : Go.Proofs.SlLaysF0.n6 Try.prog Try.laysSlF06_f91_ren := {
  mixed := by kernel_rfl
  f6 := ⟨Try.f91.name, by decide, Try.func91.trans (congrArg some (by kernel_rfl))⟩
  f14 := ⟨Try.f99.name, by decide, Try.func99.trans (congrArg some (by kernel_rfl))⟩
  f15 := Try.func100.trans (congrArg some (by kernel_rfl))
  f20 := ⟨Try.f103.name, by decide, Try.func103.trans (congrArg some (by kernel_rfl))⟩
  f21 := ⟨Try.f104.name, by decide, Try.func104.trans (congrArg some (by kernel_rfl))⟩
  f22 := ⟨Try.f105.name, by decide, Try.func105.trans (congrArg some (by kernel_rfl))⟩
  f23 := ⟨Try.f106.name, by decide, Try.func106.trans (congrArg some (by kernel_rfl))⟩
  f24 := ⟨Try.f107.name, by decide, Try.func107.trans (congrArg some (by kernel_rfl))⟩
  f25 := ⟨Try.f108.name, by decide, Try.func108.trans (congrArg some (by kernel_rfl))⟩
  f26 := ⟨Try.f109.name, by decide, Try.func109.trans (congrArg some (by kernel_rfl))⟩
  f27 := ⟨Try.f110.name, by decide, Try.func110.trans (congrArg some (by kernel_rfl))⟩
  f28 := Try.func111.trans (congrArg some (by kernel_rfl))
  f29 := Try.func112.trans (congrArg some (by kernel_rfl))
  f46 := ⟨Try.f113.name, by decide, Try.func113.trans (congrArg some (by kernel_rfl))⟩
  f47 := Try.func114.trans (congrArg some (by kernel_rfl))
  f48 := Try.func115.trans (congrArg some (by kernel_rfl))
  f49 := ⟨Try.f116.name, by decide, Try.func116.trans (congrArg some (by kernel_rfl))⟩
  f50 := ⟨Try.f117.name, by decide, Try.func117.trans (congrArg some (by kernel_rfl))⟩
  f57 := ⟨Try.f118.name, by decide, Try.func118.trans (congrArg some (by kernel_rfl))⟩
  t0 := Try.underlying0
  a0 := Try.isAgg0
  z0 := Try.sizeOf0
  v0 := Try.zeroValue0
  t3 := Try.underlying3
  a3 := Try.isAgg3
  z3 := Try.sizeOf3
  v3 := Try.zeroValue3
  t4 := Try.underlying4
  a4 := Try.isAgg4
  z4 := Try.sizeOf4
  v4 := Try.zeroValue4
  t5 := Try.underlying5
  a5 := Try.isAgg5
  z5 := Try.sizeOf5
  v5 := Try.zeroValue5
  t9 := Try.underlying9
  a9 := Try.isAgg9
  z9 := Try.sizeOf9
  v9 := Try.zeroValue9
  t22 := Try.underlying81
  a22 := Try.isAgg81
  z22 := Try.sizeOf81
  v22 := Try.zeroValue81
  t25 := Try.underlying115
  a25 := Try.isAgg115
  z25 := Try.sizeOf115
  v25 := Try.zeroValue115
  t39 := Try.underlying121
  a39 := Try.isAgg121
  z39 := Try.sizeOf121
  v39 := Try.zeroValue121
  t45 := Try.underlying128
  a45 := Try.isAgg128
  z45 := Try.sizeOf128
  v45 := Try.zeroValue128
  t46 := Try.underlying129
  a46 := Try.isAgg129
  z46 := Try.sizeOf129
  v46 := Try.zeroValue129
  t50 := Try.underlying133
  a50 := Try.isAgg133
  z50 := Try.sizeOf133
  v50 := Try.zeroValue133
  t53 := Try.underlying124
  a53 := Try.isAgg124
  z53 := Try.sizeOf124
  v53 := Try.zeroValue124
  t55 := Try.underlying137
  a55 := Try.isAgg137
  z55 := Try.sizeOf137
  v55 := Try.zeroValue137
  t66 := Try.underlying138
  a66 := Try.isAgg138
  z66 := Try.sizeOf138
  v66 := Try.zeroValue138
  t70 := Try.underlying142
  a70 := Try.isAgg142
  z70 := Try.sizeOf142
  v70 := Try.zeroValue142
  t76 := Try.underlying144
  a76 := Try.isAgg144
  z76 := Try.sizeOf144
  v76 := Try.zeroValue144
  t77 := Try.underlying111
  a77 := Try.isAgg111
  z77 := Try.sizeOf111
  v77 := Try.zeroValue111 }
open Go.RowKit Go.Lib Go.Sort in
/-- **slices.SortFunc AT NO ELEMENT, A nil SLICE TOO: nothing turns.** (LAID AT THE INSTANCE 'slices.SortFunc[[]int,int]': no walk: one application.) -/
theorem Try.slices_SortFunc_none {α : Type} [Inhabited α] (p : Option Addr) (cap : Nat) (fv : Value) (w : World) :
    Calls Try.prog 91 #[.slice p 0 cap, fv] w fun e w' => e = .returned (.tuple #[]) ∧ w' = w := AnyF.slices_SortFunc_none Try.laysSlF06_f91 p cap fv w
open Go.RowKit Go.Lib Go.Sort in
/-- **slices.SortFunc AT ONE CELL, UNDER A 'cmp' THAT PARTS WHATEVER TWO THAT ARE NOT ONE: THE ROW HOLDS core's 'mergeSort'.** (LAID AT THE INSTANCE 'slices.SortFunc[[]int,int]': no walk: one application.) -/
theorem Try.slices_SortFunc_total {α : Type} [Inhabited α] (enc : α → Value) (h1 : OneCell enc) (cf : α → α → Int) (hO : SWO (ltOf cf)) (g : Nat) (cb : Array Value) (blk off cap : Nat) (d : Array α) (w : World) (eg : ∀ args w, (callFunc g args).run Try.prog w = .ok (.enter g args) w) (hcmp : CmpLays1 Try.prog g cb enc cf blk off d.size w) (hH : Holds enc w blk off d) (hblk : blk < w.heap.size) (hsz : d.size < 4611686018427387904) (hT : ∀ x y, (ltOf cf) x y = false → (ltOf cf) y x = false → x = y) :
    Calls Try.prog 91 #[.slice (some ⟨blk, off, none⟩) d.size cap, .func (.func g) #[] cb] w fun e w' =>
      e = .returned (.tuple #[]) ∧ ∃ n os, w' = sortWorld enc w blk off n (d.toList.mergeSort fun x y => !(ltOf cf) y x).toArray os := Any.slices_SortFunc_total Try.laysSlF6_f91 enc h1 cf hO g cb blk off cap d w eg hcmp hH hblk hsz hT
end Go.Proofs

namespace Go.Proofs
open Go.Shelf Go.RowKit Go.Lib Go.Sort

theorem sorted_lt (x y : Int) : ltOf Lib.compareInt x y = decide (x < y) := by
  unfold ltOf Lib.compareInt
  by_cases h1 : x < y
  · simp [h1]
  · by_cases h2 : y < x <;> simp [h1, h2]
theorem sorted_swo : SWO (ltOf Lib.compareInt) where
  irrefl x := by rw [sorted_lt]; simp
  trans x y z h1 h2 := by rw [sorted_lt] at *; simp at *; omega
  ntrans x y z h1 h2 := by rw [sorted_lt] at *; simp at *; omega
theorem sorted_tot (x y : Int) (h1 : ltOf Lib.compareInt x y = false) (h2 : ltOf Lib.compareInt y x = false) : x = y := by rw [sorted_lt] at *; simp at *; omega
theorem sorted_le : (fun x y : Int => !ltOf Lib.compareInt y x) = fun x y => decide (x ≤ y) := by
  funext x y
  rw [sorted_lt]
  by_cases h : x ≤ y
  · have h' : ¬ y < x := by omega
    simp [h, h']
  · have h' : y < x := by omega
    simp [h, h']
theorem sorted_cmp (blk off size : Nat) (w : World) : CmpReads Try.prog 85 #[] (Value.int .i64) Lib.compareInt blk off size w := fun _ _ _ _ x y => by
  refine (Try.cmp_Compare_int x y _).mono ?_
  rintro e w' ⟨rfl, rfl⟩
  exact ⟨rfl, 0, rfl⟩
theorem ownsRow_grow {w : World} {os : Array Obj} {base : Nat} {e : TypeId} {u : Value} {n : Nat} {cs : List Value} (h : w.ownsRow base e 1 u n cs) : (grow w os).ownsRow base e 1 u n cs := by
  refine ⟨h.1, ?_⟩
  rcases h.2 with hn | ⟨g, cap, cur, h1, h2, h3, rest⟩
  · exact .inl hn
  · exact .inr ⟨g, cap, cur, h1, h2, by rw [heap_grow_old _ _ (Array.getElem?_eq_some_iff.1 h3).1]; exact h3, rest⟩
theorem below_grow_ {B : Nat} {w0 w : World} {os : Array Obj} (h : Below B w0 w) (hB : B ≤ w.heap.size) : Below B w0 (grow w os) :=
  ⟨h.os, h.tape, h.output, by have := h.size; rw [size_grow]; omega, fun k hk => by rw [heap_grow_old _ _ (by omega)]; exact h.block k hk⟩

/-- The numbers of a list, in order, each once. -/
def srtC (l : List Int) : List Int := Lib.compact (l.mergeSort fun x y => decide (x ≤ y))

set_option maxHeartbeats 1000000 in
set_option maxRecDepth 100000 in
theorem sorted_none (p : Option Addr) (c : Nat) (w : World) (hp : p = none → c = 0) :
    Calls Try.prog 84 #[.slice p 0 c, .func (.func 85) #[] #[]] w fun e w' => ∃ v, e = .returned v ∧ (∀ a, v ≠ .pointer a) ∧ w'.ownsRow w.heap.size 3 1 v 0 [] ∧ Below w.heap.size w w' := by
  have hS := fun q c W => Try.slices_SortFunc_none (α := Int) q c (.func (.func 85) #[] #[]) W
  have hC := fun q c W => Try.slices_Compact_int_empty q c W
  cases p with
  | none =>
    obtain rfl := hp rfl
    clear hp
    have hK := Try.slices_Clone_int_nil 0 0 w
    go_enter Try.func84, Try.ntmps84
    go_wp2_with (first
      | (go_at_call 90; refine hK.mono ?_; rintro e w' ⟨rfl, rfl⟩)
      | (go_at_call 91; refine (hS _ _ _).mono ?_; rintro e w' ⟨rfl, rfl⟩)
      | (go_at_call 92; refine (hC _ _ _).mono ?_; rintro e w' ⟨rfl, rfl⟩))
    go_ret
    exact ⟨_, rfl, (fun a e => by cases e), World.ownsRow_nil _ _ _ _, Below.refl _ _⟩
  | some a =>
    clear hp
    have hK := Try.slices_Clone_int_zero a c w
    have hK' : Calls Try.prog 90 #[.slice (some a) 0 c] w fun e w' => ∃ g cap, e = .returned (.slice (some g) 0 cap) ∧ w'.ownsRow w.heap.size 3 1 (.slice (some g) 0 cap) 0 [] ∧ Below w.heap.size w w' := hK.mono (by
      rintro e w' ⟨v', rfl, h1, h2, h3⟩
      rcases h1.2 with ⟨h0, _⟩ | ⟨g, cap, cur, rfl, _⟩
      · exact absurd h0 h2
      · exact ⟨_, _, rfl, h1, h3⟩)
    go_enter Try.func84, Try.ntmps84
    go_wp2_with (first
      | (go_at_call 90; refine hK'.mono ?_; rintro e w' ⟨g, cap, rfl, h1, h3⟩)
      | (go_at_call 91; refine (hS _ _ _).mono ?_; rintro e w'' ⟨rfl, rfl⟩)
      | (go_at_call 92; refine (hC _ _ _).mono ?_; rintro e w'' ⟨rfl, rfl⟩))
    go_ret
    exact ⟨_, rfl, (fun a e => by cases e), h1, h3⟩

set_option maxHeartbeats 1000000 in
set_option maxRecDepth 100000 in
theorem sorted_some (b o c : Nat) (l : List Int) (w : World) (hl : l.length ≤ 1000) (hc : ∀ j, j < l.length → w.cell? ⟨b, o + j, none⟩ = some (.int .i64 (l.getD j 0))) :
    Calls Try.prog 84 #[.slice (some ⟨b, o, none⟩) l.length c, .func (.func 85) #[] #[]] w fun e w' => ∃ v, e = .returned v ∧ (∀ a, v ≠ .pointer a) ∧ w'.ownsRow w.heap.size 3 1 v (srtC l).length ((srtC l).map (Value.int .i64)) ∧ Below w.heap.size w w' := by
  have hK : Calls Try.prog 90 #[.slice (some ⟨b, o, none⟩) l.length c] w fun e w' => ∃ g cap, e = .returned (.slice (some ⟨g, 0, none⟩) l.length cap) ∧ w'.ownsRow w.heap.size 3 1 (.slice (some ⟨g, 0, none⟩) l.length cap) l.length (l.map (Value.int .i64)) ∧ w.heap.size ≤ g ∧ g < w'.heap.size ∧ l.length ≤ cap ∧ Holds (Value.int .i64) w' g 0 l.toArray ∧ Below w.heap.size w w' :=
    (Try.slices_Clone_int b o l.length c l w (Nat.le_refl _) (by omega) hc).mono (by
      rintro e w' ⟨v', rfl, h1, h2, h3⟩
      rw [List.take_length] at h1
      obtain ⟨g, cap, rfl, k1, k2, k3, k4, k5, k6⟩ := holds_of_ownsRow h1 h2
      exact ⟨g, cap, rfl, h1, k1, k2, k3, k6, h3⟩)
  have eg : ∀ args w, (callFunc 85 args).run Try.prog w = .ok (.enter 85 args) w := enters_of Try.func85 (by kernel_rfl) rfl
  have hS : ∀ (g cap : Nat) (W : World), Holds (Value.int .i64) W g 0 l.toArray → g < W.heap.size → Calls Try.prog 91 #[.slice (some ⟨g, 0, none⟩) l.length cap, .func (.func 85) #[] #[]] W fun e w' => e = .returned (.tuple #[]) ∧ ∃ n os, w' = grow (putRow (Value.int .i64) (Sort.ahead W n) g 0 (l.mergeSort fun x y => decide (x ≤ y)).toArray) os := fun g cap W hH hg => by
    have := Try.slices_SortFunc_total (Value.int .i64) (fun _ => rfl) Lib.compareInt sorted_swo 85 #[] g 0 cap l.toArray W eg (sorted_cmp g 0 _ W).lays hH hg (by simp; omega) sorted_tot
    rw [sorted_le] at this
    simpa [sortWorld] using this
  have hlen : (l.mergeSort fun x y => decide (x ≤ y)).length = l.length := List.length_mergeSort ..
  have hM : ∀ (g cap n1 : Nat) (os : Array Obj) (W0 : World), Holds (Value.int .i64) W0 g 0 l.toArray → g < W0.heap.size → l.length ≤ cap → Calls Try.prog 92 #[.slice (some ⟨g, 0, none⟩) l.length cap] (grow (putRow (Value.int .i64) (Sort.ahead W0 n1) g 0 (l.mergeSort fun x y => decide (x ≤ y)).toArray) os) fun e w' => e = .returned (.slice (some ⟨g, 0, none⟩) (srtC l).length cap) ∧ ∃ q, w' = putRow (Value.int .i64) (Sort.ahead (grow (putRow (Value.int .i64) (Sort.ahead W0 n1) g 0 (l.mergeSort fun x y => decide (x ≤ y)).toArray) os) q) g 0 (srtC l ++ List.replicate (l.length - (srtC l).length) 0).toArray := fun g cap n1 os W0 hH0 hg hcap => by
    generalize hW : grow (putRow (Value.int .i64) (Sort.ahead W0 n1) g 0 (l.mergeSort fun x y => decide (x ≤ y)).toArray) os = W
    have hH : Holds (Value.int .i64) W g 0 (l.mergeSort fun x y => decide (x ≤ y)).toArray := by
      rw [← hW]
      refine holds_grow _ _ _ _ _ _ (by simpa using hg) ?_
      exact holds_putRow _ _ _ _ l.toArray _ hH0 (by simp)
    have := Try.slices_Compact_int g 0 cap (l.mergeSort fun x y => decide (x ≤ y)) W hH (by rw [hlen]; omega) (by rw [hlen]; exact hcap)
    rw [hlen] at this
    exact this
  have hle : (srtC l).length ≤ l.length := by
    rw [← hlen]
    unfold srtC Lib.compact Lib.compactUpTo
    rw [List.length_map]
    refine Nat.le_trans (List.length_filter_le _ _) ?_
    simp
  generalize hsq : srtC l = sc at hM hle ⊢
  generalize hms : (l.mergeSort fun x y => decide (x ≤ y)) = ms at hS hM hlen
  clear hc hsq hms
  have A : Aside (sc.length ≤ l.length ∧ ms.length = l.length) := ⟨hle, hlen⟩
  clear hle hlen
  generalize hn : l.length = n at hK hS hM A hl
  generalize hla : l.toArray = la at hK hS hM
  generalize hlm : l.map (Value.int .i64) = lm at hK
  go_enter Try.func84, Try.ntmps84
  go_wp2_with (first
    | (go_at_call 90; refine hK.mono ?_; rintro e w1 ⟨g, cap, rfl, h1, h2, h3, h4, h5, h6⟩)
    | (go_at_call 91; refine (hS _ _ _ h5 h3).mono ?_; rintro e w2 ⟨rfl, n1, os, rfl⟩)
    | (go_at_call 92; refine (hM _ _ _ _ _ h5 h3 h4).mono ?_; rintro e w3 ⟨rfl, q, rfl⟩))
  go_ret
  obtain ⟨a1, a2⟩ := A.out
  rw [← hlm] at h1
  have s1 := ownsRow_putRow (q := n1) (k := n) (ys := ms) h1 a2 (Nat.le_refl _)
  rw [← a2, List.take_length, a2] at s1
  have s2 := ownsRow_grow (os := os) s1
  have s3 := ownsRow_putRow (q := q) (k := sc.length) (ys := sc ++ List.replicate (n - sc.length) 0) s2 (by simp; omega) a1
  rw [List.take_left] at s3
  refine ⟨_, rfl, (fun a e => by cases e), s3, ?_⟩
  exact below_putRow (below_grow_ (below_putRow h6 h2) (by simp; omega)) h2
end Go.Proofs
namespace Go.Proofs.Ytohecfbnmmgimaa
open Go.Vm Go.RowKit
set_option linter.unusedVariables false
noncomputable section
theorem asc_ext : ∀ (a b : List Int), asc a → asc b → (∀ x, x ∈ a ↔ x ∈ b) → a = b := by
  intro a
  induction a with
  | nil =>
    intro b _ _ h
    cases b with
    | nil => rfl
    | cons y b => exact absurd ((h y).2 (List.mem_cons_self ..)) (by simp)
  | cons x a ih =>
    intro b ha hb h
    cases b with
    | nil => exact absurd ((h x).1 (List.mem_cons_self ..)) (by simp)
    | cons y b =>
      have ha' := List.pairwise_cons.1 ha
      have hb' := List.pairwise_cons.1 hb
      have hxy : x = y := by
        have h1 := (h x).1 (List.mem_cons_self ..)
        have h2 := (h y).2 (List.mem_cons_self ..)
        rcases List.mem_cons.1 h1 with h1 | h1
        · exact h1
        · rcases List.mem_cons.1 h2 with h2 | h2
          · exact h2.symm
          · have := hb'.1 x h1
            have := ha'.1 y h2
            omega
      subst hxy
      congr 1
      refine ih b ha'.2 hb'.2 fun z => ?_
      constructor
      · intro hz
        rcases List.mem_cons.1 ((h z).1 (List.mem_cons_of_mem _ hz)) with e | hz'
        · have := ha'.1 z hz
          omega
        · exact hz'
      · intro hz
        rcases List.mem_cons.1 ((h z).2 (List.mem_cons_of_mem _ hz)) with e | hz'
        · have := hb'.1 z hz
          omega
        · exact hz'
theorem compact_asc (zs : List Int) (h : zs.Pairwise (· ≤ ·)) : asc (Lib.compact zs) := by
  unfold asc Lib.compact Lib.compactUpTo
  rw [List.pairwise_map]
  have hp : (List.range zs.length).Pairwise (· < ·) := List.pairwise_lt_range
  refine List.Pairwise.imp_of_mem ?_ (hp.filter _)
  intro i j hi hj hij
  obtain ⟨hj1, hj2⟩ := List.mem_filter.1 hj
  have hjl : j < zs.length := List.mem_range.1 hj1
  have hk := of_decide_eq_true hj2
  have e : ∀ k (hk : k < zs.length), zs.toArray[k]! = zs[k] := fun k hk => by simp [hk]
  rcases hk with rfl | hk
  · omega
  · rw [e j hjl, e (j - 1) (by omega)] at hk
    rw [e i (by omega), e j hjl]
    have h1 : zs[j - 1] ≤ zs[j] := List.pairwise_iff_getElem.1 h (j - 1) j (by omega) hjl (by omega)
    have h2 : zs[i] ≤ zs[j - 1] := by
      by_cases hi1 : i = j - 1
      · subst hi1
        exact Int.le_refl _
      · exact List.pairwise_iff_getElem.1 h i (j - 1) (by omega) (by omega) (by omega)
    omega
theorem compact_mem (zs : List Int) (x : Int) : x ∈ Lib.compact zs ↔ x ∈ zs := by
  have e : ∀ k (hk : k < zs.length), zs.toArray[k]! = zs[k] := fun k hk => by simp [hk]
  unfold Lib.compact Lib.compactUpTo
  rw [List.mem_map]
  constructor
  · rintro ⟨i, hi, rfl⟩
    have hil := List.mem_range.1 (List.mem_filter.1 hi).1
    rw [e i hil]
    exact List.getElem_mem hil
  · intro hx
    obtain ⟨i, hi, rfl⟩ := List.getElem_of_mem hx
    have key : ∀ i (hi : i < zs.length), ∃ a ∈ (List.range zs.length).filter (Lib.keeps zs.toArray), zs.toArray[a]! = zs[i] := by
      intro i
      induction i with
      | zero => exact fun hi => ⟨0, List.mem_filter.2 ⟨List.mem_range.2 hi, by simp [Lib.keeps]⟩, e 0 hi⟩
      | succ i ih =>
        intro hi
        by_cases hk : Lib.keeps zs.toArray (i + 1) = true
        · exact ⟨i + 1, List.mem_filter.2 ⟨List.mem_range.2 hi, hk⟩, e _ hi⟩
        · have hk' : zs.toArray[i + 1]! = zs.toArray[i]! := by
            unfold Lib.keeps at hk
            rw [decide_eq_true_eq] at hk
            have := not_or.1 hk
            simpa using this.2
          obtain ⟨a, h1, h2⟩ := ih (by omega)
          refine ⟨a, h1, ?_⟩
          rw [h2, ← e i (by omega), ← hk', e _ hi]
    exact key i hi
theorem srt_asc (l : List Int) : asc (srt l) := by
  unfold srt
  induction l with
  | nil => exact List.Pairwise.nil
  | cons a l ih => exact asc_insR _ _ ih
theorem srt_mem (l : List Int) (x : Int) : x ∈ srt l ↔ x ∈ l := by
  unfold srt
  induction l with
  | nil => simp
  | cons a l ih => rw [List.foldr_cons, mem_insR, ih, List.mem_cons]
theorem srtC_srt (l : List Int) : srtC l = srt l := by
  refine asc_ext _ _ ?_ (srt_asc l) fun x => ?_
  · unfold srtC
    refine compact_asc _ ?_
    have := List.pairwise_mergeSort (le := fun x y : Int => decide (x ≤ y)) (fun a b c h1 h2 => by simp at *; omega) (fun a b => by simp; omega) l
    exact this.imp (fun h => by simpa using h)
  · unfold srtC
    rw [compact_mem, List.mem_mergeSort, srt_mem]

def m_sorted : Model UU
  | [.sl .int l, .fn 85 []] => some ([l.length ≤ 1000], .new .int (srt l))
  | _ => none
def C_sorted : Cfg UU := C_law03_Long.add 84 m_sorted
theorem s_sorted : SumOK C_sorted := by
  refine s_law03_Long.put ⟨fun args w => callFunc_run (P := Try.prog) (fn := Try.f84) (c := bo Try.f84) Try.func84 (by kernel_rfl) (by kernel_rfl) args w, ?_⟩
  intro N w args xs cs r hinv hN hargs hm hc
  unfold m_sorted at hm
  split at hm
  · rename_i l
    cases hm
    have hl : l.length ≤ 1000 := hc
    obtain ⟨hsz, hrel⟩ := hargs
    have h0 := hrel 0 (by simp)
    have h1 := hrel 1 (by simp)
    simp only [List.getElem_cons_zero, List.getElem_cons_succ] at h0 h1
    have hargs2 : args = #[args.getD 0 undef, args.getD 1 undef] := by
      have hsz' : args.size = 2 := by simpa using hsz
      apply Array.ext
      · simpa using hsz'
      · intro i hi hi'
        have : i = 0 ∨ i = 1 := by omega
        rcases this with rfl | rfl <;> simp [hi]
    rw [hargs2]
    generalize args.getD 0 undef = v0 at h0
    generalize args.getD 1 undef = v1 at h1
    have hv1 : v1 = .func (.func 85) #[] #[] := by
      cases h1 with
      | fn _ _ vs hn _ =>
        have : vs = #[] := Array.eq_empty_of_size_eq_zero (by simpa using hn)
        rw [this]
    subst hv1
    have key : Calls Try.prog 84 #[v0, .func (.func 85) #[] #[]] w fun e w' => ∃ v, e = .returned v ∧ (∀ a, v ≠ .pointer a) ∧ w'.ownsRow w.heap.size 3 1 v (srt l).length ((srt l).map (Value.int .i64)) ∧ Below w.heap.size w w' := by
      cases h0 with
      | sl0 _ => exact sorted_none none 0 w (fun _ => rfl)
      | sl _ _ b o cap f hb hcap hcc hll =>
        have := sorted_some b o cap l w hl (fun j hj => by
          have q1 := hcc j (by simpa using hj)
          have q2 := hll j hj 0 (show 0 < 1 by omega)
          rw [q1]
          have q3 : Rel EE w noOwn (Out' N w) (.int .i64 l[j]) (f (j * 1 + 0)) := q2
          rw [Nat.mul_one, Nat.add_zero] at q3
          generalize f j = fj at q3
          cases q3
          simp [List.getD, hj])
        rw [srtC_srt] at this
        exact this
    refine key.mono ?_
    rintro e w' ⟨v, rfl, hp, hown, hbel⟩
    refine ⟨v, rfl, ⟨fun k => if k = .ob 0 then some (0, v) else none, .osl 0 0 v (by simp) hp, fun k x hk => ?_, fun k g u hk => ?_, fun i j g g' u u' b hi hj hne => ?_⟩, hbel⟩
    · cases k with
      | zero =>
        have : (⟨false, .int, srt l⟩ : NewRow UU) = x := by simpa [AVal.news, news2, news1] using hk
        subst this
        refine ⟨v, _, by simp, hp, hown, fun i hi k hk' => ?_⟩
        have hk0 : k = 0 := by
          have : k < 1 := hk'
          omega
        subst hk0
        show Rel EE w' _ _ (.int .i64 (srt l)[i]) _
        have e1 : ((srt l).map (Value.int .i64)).getD (i * 1 + 0) undef = .int .i64 (srt l)[i] := by simp [hi]
        rw [show UU.size .int = 1 from rfl, e1]
        exact .int _ _
      | succ k => simp [AVal.news, news2, news1] at hk
    · by_cases hk0 : k = .ob 0
      · subst hk0
        exact ⟨⟨false, .int, srt l⟩, by simp [AVal.news, news2, news1, Name.id], fun _ => ⟨0, rfl⟩⟩
      · simp [hk0] at hk
    · by_cases hi0 : i = .ob 0
      · by_cases hj0 : j = .ob 0
        · exact absurd (hi0.trans hj0.symm) hne
        · simp [hj0] at hj
      · simp [hi0] at hi
  · cases hm
end
end Go.Proofs.Ytohecfbnmmgimaa

namespace Go.Proofs.Ytohecfbnmmgimaa
open Go.Vm Go.RowKit
set_option linter.unusedVariables false
noncomputable section
def k_geom_rects_0 (F : Nat) (Post : AVal UU → Prop) : AEx → ASt UU → Prop := kBlock 0 (kSeq C_sorted Try.f71.ntmps M_geom_rects F 0 (cS (cS (bo Try.f71))) (AEnds C_sorted false Try.f71 Post))
def k_geom_rects_1 (F : Nat) (Post : AVal UU → Prop) : AEx → ASt UU → Prop := kBlock 2 (kSeq C_sorted Try.f71.ntmps M_geom_rects F 0 (cS (cS (cS (bo Try.f71)))) (AEnds C_sorted false Try.f71 Post))
def k_geom_rects_2 (F n r : Nat) (K : AEx → ASt UU → Prop) : AEx → ASt UU → Prop := kBlock 4 (kBlock 3 (kSeq C_sorted Try.f71.ntmps M_geom_rects F 2 (cS (cS (cS (cL (cB (cS (cF (cS (cS (bo Try.f71)))))))))) (kIter (exec C_sorted Try.f71.ntmps M_geom_rects F 2 (cL (cB (cS (cF (cS (cS (bo Try.f71)))))))) (M_geom_rects 2) n r K)))
set_option maxRecDepth 100000 in
theorem step_geom_rects_0 (F n r : Nat) (K : AEx → ASt UU → Prop) (t0 : List (List Rect)) (t2 : Int) (t9 : List (List Rect)) (t10 : Int) (t11 : Int) : iter (exec C_sorted Try.f71.ntmps M_geom_rects F 0 (cL (cB (cS (cF (cS (bo Try.f71))))))) (M_geom_rects 0) (n + 1) r (st_geom_rects_0 t0 t2 t9 t10 t11) K = g_geom_rects_s0 (fun t0 t2 t9 t10 t11 => iter (exec C_sorted Try.f71.ntmps M_geom_rects F 0 (cL (cB (cS (cF (cS (bo Try.f71))))))) (M_geom_rects 0) n (r + 1) (st_geom_rects_0 t0 t2 t9 t10 t11) K) (fun t0 t2 t9 t10 t11 => K .ret (st_geom_rects_0 t0 t2 t9 t10 t11)) (fun t0 t2 t9 t10 t11 => K (.exit 0) (st_geom_rects_0 t0 t2 t9 t10 t11)) t0 t2 t9 t10 t11 := by kernel_rfl
set_option maxRecDepth 100000 in
theorem cont_geom_rects_0_0 (F : Nat) (Post : AVal UU → Prop) (t0 : List (List Rect)) (t2 : Int) (t9 : List (List Rect)) (t10 : Int) (t11 : Int) : k_geom_rects_0 F Post .ret (st_geom_rects_0 t0 t2 t9 t10 t11) = g_geom_rects_c0_0 (fun r0 => Post (.int .i64 r0)) t0 t2 t9 t10 t11 := by kernel_rfl
set_option maxRecDepth 100000 in
theorem cont_geom_rects_0_1 (F : Nat) (Post : AVal UU → Prop) (t0 : List (List Rect)) (t2 : Int) (t9 : List (List Rect)) (t10 : Int) (t11 : Int) : k_geom_rects_0 F Post (.exit 0) (st_geom_rects_0 t0 t2 t9 t10 t11) = g_geom_rects_c0_1 (fun r0 => Post (.int .i64 r0)) t0 t2 t9 t10 t11 (fun t2 t19 t20 t21 => iter (exec C_sorted Try.f71.ntmps M_geom_rects F 2 (cL (cB (cS (cF (cS (cS (bo Try.f71)))))))) (M_geom_rects 2) F 0 (st_geom_rects_1 t2 t19 t20 t21) (k_geom_rects_1 F Post)) := by kernel_rfl
set_option maxRecDepth 100000 in
theorem step_geom_rects_1 (F n r : Nat) (K : AEx → ASt UU → Prop) (t2 : Int) (t19 : List (List Rect)) (t20 : Int) (t21 : Int) : iter (exec C_sorted Try.f71.ntmps M_geom_rects F 2 (cL (cB (cS (cF (cS (cS (bo Try.f71)))))))) (M_geom_rects 2) (n + 1) r (st_geom_rects_1 t2 t19 t20 t21) K = g_geom_rects_s1 (fun t2 t19 t20 t21 => iter (exec C_sorted Try.f71.ntmps M_geom_rects F 2 (cL (cB (cS (cF (cS (cS (bo Try.f71)))))))) (M_geom_rects 2) n (r + 1) (st_geom_rects_1 t2 t19 t20 t21) K) (fun t2 t19 t20 t21 => K (.exit 2) (st_geom_rects_1 t2 t19 t20 t21)) (fun t2 t19 t20 t21 => K .ret (st_geom_rects_1 t2 t19 t20 t21)) t2 t19 t20 t21 (fun t2 t19 t20 t21 t25 t26 t27 => iter (exec C_sorted Try.f71.ntmps M_geom_rects F 4 (cL (cB (cS (cS (cB (cF (cS (cS (cL (cB (cS (cF (cS (cS (bo Try.f71)))))))))))))))) (M_geom_rects 4) F 0 (st_geom_rects_2 t2 t19 t20 t21 t25 t26 t27) (k_geom_rects_2 F n r K)) := by kernel_rfl
set_option maxRecDepth 100000 in
theorem cont_geom_rects_1_0 (F : Nat) (Post : AVal UU → Prop) (t2 : Int) (t19 : List (List Rect)) (t20 : Int) (t21 : Int) : k_geom_rects_1 F Post (.exit 2) (st_geom_rects_1 t2 t19 t20 t21) = g_geom_rects_c1_0 (fun r0 => Post (.int .i64 r0)) t2 t19 t20 t21 := by kernel_rfl
set_option maxRecDepth 100000 in
theorem cont_geom_rects_1_1 (F : Nat) (Post : AVal UU → Prop) (t2 : Int) (t19 : List (List Rect)) (t20 : Int) (t21 : Int) : k_geom_rects_1 F Post .ret (st_geom_rects_1 t2 t19 t20 t21) = g_geom_rects_c1_1 (fun r0 => Post (.int .i64 r0)) t2 t19 t20 t21 := by kernel_rfl
set_option maxRecDepth 100000 in
theorem step_geom_rects_2 (F n r : Nat) (K : AEx → ASt UU → Prop) (t2 : Int) (t19 : List (List Rect)) (t20 : Int) (t21 : Int) (t25 : List Rect) (t26 : Int) (t27 : Int) : iter (exec C_sorted Try.f71.ntmps M_geom_rects F 4 (cL (cB (cS (cS (cB (cF (cS (cS (cL (cB (cS (cF (cS (cS (bo Try.f71)))))))))))))))) (M_geom_rects 4) (n + 1) r (st_geom_rects_2 t2 t19 t20 t21 t25 t26 t27) K = g_geom_rects_s2 (fun t2 t19 t20 t21 t25 t26 t27 => iter (exec C_sorted Try.f71.ntmps M_geom_rects F 4 (cL (cB (cS (cS (cB (cF (cS (cS (cL (cB (cS (cF (cS (cS (bo Try.f71)))))))))))))))) (M_geom_rects 4) n (r + 1) (st_geom_rects_2 t2 t19 t20 t21 t25 t26 t27) K) (fun t2 t19 t20 t21 t25 t26 t27 => K .ret (st_geom_rects_2 t2 t19 t20 t21 t25 t26 t27)) (fun t2 t19 t20 t21 t25 t26 t27 => K (.exit 4) (st_geom_rects_2 t2 t19 t20 t21 t25 t26 t27)) t2 t19 t20 t21 t25 t26 t27 := by kernel_rfl
set_option maxRecDepth 100000 in
theorem cont_geom_rects_2_0 (F n r : Nat) (K : AEx → ASt UU → Prop) (t2 : Int) (t19 : List (List Rect)) (t20 : Int) (t21 : Int) (t25 : List Rect) (t26 : Int) (t27 : Int) : k_geom_rects_2 F n r K .ret (st_geom_rects_2 t2 t19 t20 t21 t25 t26 t27) = g_geom_rects_c2_0 (fun t2 t19 t20 t21 => iter (exec C_sorted Try.f71.ntmps M_geom_rects F 2 (cL (cB (cS (cF (cS (cS (bo Try.f71)))))))) (M_geom_rects 2) n (r + 1) (st_geom_rects_1 t2 t19 t20 t21) K) (fun t2 t19 t20 t21 => K (.exit 2) (st_geom_rects_1 t2 t19 t20 t21)) (fun t2 t19 t20 t21 => K .ret (st_geom_rects_1 t2 t19 t20 t21)) t2 t19 t20 t21 t25 t26 t27 := by kernel_rfl
set_option maxRecDepth 100000 in
theorem cont_geom_rects_2_1 (F n r : Nat) (K : AEx → ASt UU → Prop) (t2 : Int) (t19 : List (List Rect)) (t20 : Int) (t21 : Int) (t25 : List Rect) (t26 : Int) (t27 : Int) : k_geom_rects_2 F n r K (.exit 4) (st_geom_rects_2 t2 t19 t20 t21 t25 t26 t27) = g_geom_rects_c2_1 (fun t2 t19 t20 t21 => iter (exec C_sorted Try.f71.ntmps M_geom_rects F 2 (cL (cB (cS (cF (cS (cS (bo Try.f71)))))))) (M_geom_rects 2) n (r + 1) (st_geom_rects_1 t2 t19 t20 t21) K) (fun t2 t19 t20 t21 => K (.exit 2) (st_geom_rects_1 t2 t19 t20 t21)) (fun t2 t19 t20 t21 => K .ret (st_geom_rects_1 t2 t19 t20 t21)) t2 t19 t20 t21 t25 t26 t27 := by kernel_rfl
set_option maxRecDepth 100000 in
theorem entry_geom_rects (F : Nat) (Post : AVal UU → Prop) (a0 : List (List Rect)) : exec C_sorted Try.f71.ntmps M_geom_rects F 0 (bo Try.f71) (initSt [.sl .rects a0]) (AEnds C_sorted false Try.f71 Post) = g_geom_rects_e a0 (fun r0 => Post (.int .i64 r0)) (fun t0 t2 t9 t10 t11 => iter (exec C_sorted Try.f71.ntmps M_geom_rects F 0 (cL (cB (cS (cF (cS (bo Try.f71))))))) (M_geom_rects 0) F 0 (st_geom_rects_0 t0 t2 t9 t10 t11) (k_geom_rects_0 F Post)) := by kernel_rfl
theorem loop_geom_rects_2 (F : Nat) (K : AEx → ASt UU → Prop) : ∀ (n r : Nat) (t2 : Int) (t19 : List (List Rect)) (t20 : Int) (t21 : Int) (t25 : List Rect) (t26 : Int) (t27 : Int), iter (exec C_sorted Try.f71.ntmps M_geom_rects F 4 (cL (cB (cS (cS (cB (cF (cS (cS (cL (cB (cS (cF (cS (cS (bo Try.f71)))))))))))))))) (M_geom_rects 4) n r (st_geom_rects_2 t2 t19 t20 t21 t25 t26 t27) K = w_geom_rects_2 F  (fun t2 t19 t20 t21 t25 t26 t27 => K .ret (st_geom_rects_2 t2 t19 t20 t21 t25 t26 t27)) (fun t2 t19 t20 t21 t25 t26 t27 => K (.exit 4) (st_geom_rects_2 t2 t19 t20 t21 t25 t26 t27)) n t2 t19 t20 t21 t25 t26 t27 := by
  intro n
  induction n with
  | zero => intros; rfl
  | succ n ih =>
    intro r t2 t19 t20 t21 t25 t26 t27
    have e : (fun t2 t19 t20 t21 t25 t26 t27 => iter (exec C_sorted Try.f71.ntmps M_geom_rects F 4 (cL (cB (cS (cS (cB (cF (cS (cS (cL (cB (cS (cF (cS (cS (bo Try.f71)))))))))))))))) (M_geom_rects 4) n (r + 1) (st_geom_rects_2 t2 t19 t20 t21 t25 t26 t27) K) = w_geom_rects_2 F  (fun t2 t19 t20 t21 t25 t26 t27 => K .ret (st_geom_rects_2 t2 t19 t20 t21 t25 t26 t27)) (fun t2 t19 t20 t21 t25 t26 t27 => K (.exit 4) (st_geom_rects_2 t2 t19 t20 t21 t25 t26 t27)) n := by
      funext t2 t19 t20 t21 t25 t26 t27
      exact ih (r + 1) t2 t19 t20 t21 t25 t26 t27
    rw [step_geom_rects_2, e]
    rfl
theorem nl_geom_rects_2 (F n r : Nat) (K : AEx → ASt UU → Prop) (t2 : Int) (t19 : List (List Rect)) (t20 : Int) (t21 : Int) (t25 : List Rect) (t26 : Int) (t27 : Int) : iter (exec C_sorted Try.f71.ntmps M_geom_rects F 4 (cL (cB (cS (cS (cB (cF (cS (cS (cL (cB (cS (cF (cS (cS (bo Try.f71)))))))))))))))) (M_geom_rects 4) F 0 (st_geom_rects_2 t2 t19 t20 t21 t25 t26 t27) (k_geom_rects_2 F n r K) = n_geom_rects_2 F (fun t2 t19 t20 t21 => iter (exec C_sorted Try.f71.ntmps M_geom_rects F 2 (cL (cB (cS (cF (cS (cS (bo Try.f71)))))))) (M_geom_rects 2) n (r + 1) (st_geom_rects_1 t2 t19 t20 t21) K) (fun t2 t19 t20 t21 => K (.exit 2) (st_geom_rects_1 t2 t19 t20 t21)) (fun t2 t19 t20 t21 => K .ret (st_geom_rects_1 t2 t19 t20 t21)) t2 t19 t20 t21 t25 t26 t27 := by
  rw [loop_geom_rects_2]
  have h0 : (fun t2 t19 t20 t21 t25 t26 t27 => k_geom_rects_2 F n r K .ret (st_geom_rects_2 t2 t19 t20 t21 t25 t26 t27)) = (fun t2 t19 t20 t21 t25 t26 t27 => g_geom_rects_c2_0 (fun t2 t19 t20 t21 => iter (exec C_sorted Try.f71.ntmps M_geom_rects F 2 (cL (cB (cS (cF (cS (cS (bo Try.f71)))))))) (M_geom_rects 2) n (r + 1) (st_geom_rects_1 t2 t19 t20 t21) K) (fun t2 t19 t20 t21 => K (.exit 2) (st_geom_rects_1 t2 t19 t20 t21)) (fun t2 t19 t20 t21 => K .ret (st_geom_rects_1 t2 t19 t20 t21)) t2 t19 t20 t21 t25 t26 t27) := by
    funext t2 t19 t20 t21 t25 t26 t27
    rw [cont_geom_rects_2_0]
  have h1 : (fun t2 t19 t20 t21 t25 t26 t27 => k_geom_rects_2 F n r K (.exit 4) (st_geom_rects_2 t2 t19 t20 t21 t25 t26 t27)) = (fun t2 t19 t20 t21 t25 t26 t27 => g_geom_rects_c2_1 (fun t2 t19 t20 t21 => iter (exec C_sorted Try.f71.ntmps M_geom_rects F 2 (cL (cB (cS (cF (cS (cS (bo Try.f71)))))))) (M_geom_rects 2) n (r + 1) (st_geom_rects_1 t2 t19 t20 t21) K) (fun t2 t19 t20 t21 => K (.exit 2) (st_geom_rects_1 t2 t19 t20 t21)) (fun t2 t19 t20 t21 => K .ret (st_geom_rects_1 t2 t19 t20 t21)) t2 t19 t20 t21 t25 t26 t27) := by
    funext t2 t19 t20 t21 t25 t26 t27
    rw [cont_geom_rects_2_1]
  rw [h0, h1]
  rfl
theorem loop_geom_rects_1 (F : Nat) (K : AEx → ASt UU → Prop) : ∀ (n r : Nat) (t2 : Int) (t19 : List (List Rect)) (t20 : Int) (t21 : Int), iter (exec C_sorted Try.f71.ntmps M_geom_rects F 2 (cL (cB (cS (cF (cS (cS (bo Try.f71)))))))) (M_geom_rects 2) n r (st_geom_rects_1 t2 t19 t20 t21) K = w_geom_rects_1 F  (fun t2 t19 t20 t21 => K (.exit 2) (st_geom_rects_1 t2 t19 t20 t21)) (fun t2 t19 t20 t21 => K .ret (st_geom_rects_1 t2 t19 t20 t21)) n t2 t19 t20 t21 := by
  intro n
  induction n with
  | zero => intros; rfl
  | succ n ih =>
    intro r t2 t19 t20 t21
    have e : (fun t2 t19 t20 t21 => iter (exec C_sorted Try.f71.ntmps M_geom_rects F 2 (cL (cB (cS (cF (cS (cS (bo Try.f71)))))))) (M_geom_rects 2) n (r + 1) (st_geom_rects_1 t2 t19 t20 t21) K) = w_geom_rects_1 F  (fun t2 t19 t20 t21 => K (.exit 2) (st_geom_rects_1 t2 t19 t20 t21)) (fun t2 t19 t20 t21 => K .ret (st_geom_rects_1 t2 t19 t20 t21)) n := by
      funext t2 t19 t20 t21
      exact ih (r + 1) t2 t19 t20 t21
    have e2 : (fun t2 t19 t20 t21 t25 t26 t27 => iter (exec C_sorted Try.f71.ntmps M_geom_rects F 4 (cL (cB (cS (cS (cB (cF (cS (cS (cL (cB (cS (cF (cS (cS (bo Try.f71)))))))))))))))) (M_geom_rects 4) F 0 (st_geom_rects_2 t2 t19 t20 t21 t25 t26 t27) (k_geom_rects_2 F n r K)) = (n_geom_rects_2 F (fun t2 t19 t20 t21 => iter (exec C_sorted Try.f71.ntmps M_geom_rects F 2 (cL (cB (cS (cF (cS (cS (bo Try.f71)))))))) (M_geom_rects 2) n (r + 1) (st_geom_rects_1 t2 t19 t20 t21) K) (fun t2 t19 t20 t21 => K (.exit 2) (st_geom_rects_1 t2 t19 t20 t21)) (fun t2 t19 t20 t21 => K .ret (st_geom_rects_1 t2 t19 t20 t21))) := by
      funext t2 t19 t20 t21 t25 t26 t27
      exact nl_geom_rects_2 F n r K t2 t19 t20 t21 t25 t26 t27
    rw [step_geom_rects_1, e2, e]
    rfl
theorem nl_geom_rects_1 (F : Nat) (Post : AVal UU → Prop) (t2 : Int) (t19 : List (List Rect)) (t20 : Int) (t21 : Int) : iter (exec C_sorted Try.f71.ntmps M_geom_rects F 2 (cL (cB (cS (cF (cS (cS (bo Try.f71)))))))) (M_geom_rects 2) F 0 (st_geom_rects_1 t2 t19 t20 t21) (k_geom_rects_1 F Post) = n_geom_rects_1 F (fun r0 => Post (.int .i64 r0)) t2 t19 t20 t21 := by
  rw [loop_geom_rects_1]
  have h0 : (fun t2 t19 t20 t21 => k_geom_rects_1 F Post (.exit 2) (st_geom_rects_1 t2 t19 t20 t21)) = (fun t2 t19 t20 t21 => g_geom_rects_c1_0 (fun r0 => Post (.int .i64 r0)) t2 t19 t20 t21) := by
    funext t2 t19 t20 t21
    rw [cont_geom_rects_1_0]
  have h1 : (fun t2 t19 t20 t21 => k_geom_rects_1 F Post .ret (st_geom_rects_1 t2 t19 t20 t21)) = (fun t2 t19 t20 t21 => g_geom_rects_c1_1 (fun r0 => Post (.int .i64 r0)) t2 t19 t20 t21) := by
    funext t2 t19 t20 t21
    rw [cont_geom_rects_1_1]
  rw [h0, h1]
  rfl
theorem loop_geom_rects_0 (F : Nat) (K : AEx → ASt UU → Prop) : ∀ (n r : Nat) (t0 : List (List Rect)) (t2 : Int) (t9 : List (List Rect)) (t10 : Int) (t11 : Int), iter (exec C_sorted Try.f71.ntmps M_geom_rects F 0 (cL (cB (cS (cF (cS (bo Try.f71))))))) (M_geom_rects 0) n r (st_geom_rects_0 t0 t2 t9 t10 t11) K = w_geom_rects_0 F  (fun t0 t2 t9 t10 t11 => K .ret (st_geom_rects_0 t0 t2 t9 t10 t11)) (fun t0 t2 t9 t10 t11 => K (.exit 0) (st_geom_rects_0 t0 t2 t9 t10 t11)) n t0 t2 t9 t10 t11 := by
  intro n
  induction n with
  | zero => intros; rfl
  | succ n ih =>
    intro r t0 t2 t9 t10 t11
    have e : (fun t0 t2 t9 t10 t11 => iter (exec C_sorted Try.f71.ntmps M_geom_rects F 0 (cL (cB (cS (cF (cS (bo Try.f71))))))) (M_geom_rects 0) n (r + 1) (st_geom_rects_0 t0 t2 t9 t10 t11) K) = w_geom_rects_0 F  (fun t0 t2 t9 t10 t11 => K .ret (st_geom_rects_0 t0 t2 t9 t10 t11)) (fun t0 t2 t9 t10 t11 => K (.exit 0) (st_geom_rects_0 t0 t2 t9 t10 t11)) n := by
      funext t0 t2 t9 t10 t11
      exact ih (r + 1) t0 t2 t9 t10 t11
    rw [step_geom_rects_0, e]
    rfl
theorem nl_geom_rects_0 (F : Nat) (Post : AVal UU → Prop) (t0 : List (List Rect)) (t2 : Int) (t9 : List (List Rect)) (t10 : Int) (t11 : Int) : iter (exec C_sorted Try.f71.ntmps M_geom_rects F 0 (cL (cB (cS (cF (cS (bo Try.f71))))))) (M_geom_rects 0) F 0 (st_geom_rects_0 t0 t2 t9 t10 t11) (k_geom_rects_0 F Post) = n_geom_rects_0 F (fun r0 => Post (.int .i64 r0)) t0 t2 t9 t10 t11 := by
  rw [loop_geom_rects_0]
  have e1 : (fun t2 t19 t20 t21 => iter (exec C_sorted Try.f71.ntmps M_geom_rects F 2 (cL (cB (cS (cF (cS (cS (bo Try.f71)))))))) (M_geom_rects 2) F 0 (st_geom_rects_1 t2 t19 t20 t21) (k_geom_rects_1 F Post)) = (n_geom_rects_1 F (fun r0 => Post (.int .i64 r0))) := by
    funext t2 t19 t20 t21
    exact nl_geom_rects_1 F Post t2 t19 t20 t21
  have h0 : (fun t0 t2 t9 t10 t11 => k_geom_rects_0 F Post .ret (st_geom_rects_0 t0 t2 t9 t10 t11)) = (fun t0 t2 t9 t10 t11 => g_geom_rects_c0_0 (fun r0 => Post (.int .i64 r0)) t0 t2 t9 t10 t11) := by
    funext t0 t2 t9 t10 t11
    rw [cont_geom_rects_0_0]
  have h1 : (fun t0 t2 t9 t10 t11 => k_geom_rects_0 F Post (.exit 0) (st_geom_rects_0 t0 t2 t9 t10 t11)) = (fun t0 t2 t9 t10 t11 => g_geom_rects_c0_1 (fun r0 => Post (.int .i64 r0)) t0 t2 t9 t10 t11 (n_geom_rects_1 F (fun r0 => Post (.int .i64 r0)))) := by
    funext t0 t2 t9 t10 t11
    rw [cont_geom_rects_0_1, e1]
  rw [h0, h1]
  rfl
theorem exec_geom_rects (F : Nat) (Post : AVal UU → Prop) (a0 : List (List Rect)) : exec C_sorted Try.f71.ntmps M_geom_rects F 0 (bo Try.f71) (initSt [.sl .rects a0]) (AEnds C_sorted false Try.f71 Post) = w_geom_rects F a0 (fun r0 => Post (.int .i64 r0)) := by
  rw [entry_geom_rects]
  have e0 : (fun t0 t2 t9 t10 t11 => iter (exec C_sorted Try.f71.ntmps M_geom_rects F 0 (cL (cB (cS (cF (cS (bo Try.f71))))))) (M_geom_rects 0) F 0 (st_geom_rects_0 t0 t2 t9 t10 t11) (k_geom_rects_0 F Post)) = (n_geom_rects_0 F (fun r0 => Post (.int .i64 r0))) := by
    funext t0 t2 t9 t10 t11
    exact nl_geom_rects_0 F Post t0 t2 t9 t10 t11
  rw [e0]
  rfl
def m_geom_rects : Model UU
  | [.sl .rects a0] => some ([pre_geom_rects a0], .int .i64 (sp_geom_rects a0))
  | _ => none
def C_geom_rects : Cfg UU := C_sorted.add 71 m_geom_rects
theorem s_geom_rects : SumOK C_geom_rects := by
  refine s_sorted.addD mixed (fn := Try.f71) (c := bo Try.f71) Try.func71 (by kernel_rfl) (by kernel_rfl) ?_
  intro xs cs r h hc
  unfold m_geom_rects at h
  split at h
  · rename_i a0
    cases h
    obtain ⟨F, hF⟩ := ok_geom_rects a0 hc
    refine ⟨by kernel_rfl, M_geom_rects, F, false, ⟨?_⟩⟩
    rw [exec_geom_rects]
    refine hF _ ?_
    rfl
  · cases h
set_option maxRecDepth 100000 in
theorem entry_flat_meet (F : Nat) (Post : AVal UU → Prop) (a0_X : Int) (a0_Y : Int) (a0_W : Int) (a0_H : Int) (a1_X : Int) (a1_Y : Int) (a1_W : Int) (a1_H : Int) : exec C_geom_rects Try.f74.ntmps M_flat_meet F 0 (bo Try.f74) (initSt [.agg [.int .i64 a0_X, .int .i64 a0_Y, .int .i64 a0_W, .int .i64 a0_H], .agg [.int .i64 a1_X, .int .i64 a1_Y, .int .i64 a1_W, .int .i64 a1_H]]) (AEnds C_geom_rects false Try.f74 Post) = g_flat_meet_e a0_X a0_Y a0_W a0_H a1_X a1_Y a1_W a1_H (fun r0_X r0_Y r0_W r0_H r1 => Post (.tup [.agg [.int .i64 r0_X, .int .i64 r0_Y, .int .i64 r0_W, .int .i64 r0_H], .bool r1])) := by kernel_rfl
theorem exec_flat_meet (F : Nat) (Post : AVal UU → Prop) (a0_X : Int) (a0_Y : Int) (a0_W : Int) (a0_H : Int) (a1_X : Int) (a1_Y : Int) (a1_W : Int) (a1_H : Int) : exec C_geom_rects Try.f74.ntmps M_flat_meet F 0 (bo Try.f74) (initSt [.agg [.int .i64 a0_X, .int .i64 a0_Y, .int .i64 a0_W, .int .i64 a0_H], .agg [.int .i64 a1_X, .int .i64 a1_Y, .int .i64 a1_W, .int .i64 a1_H]]) (AEnds C_geom_rects false Try.f74 Post) = w_flat_meet F a0_X a0_Y a0_W a0_H a1_X a1_Y a1_W a1_H (fun r0_X r0_Y r0_W r0_H r1 => Post (.tup [.agg [.int .i64 r0_X, .int .i64 r0_Y, .int .i64 r0_W, .int .i64 r0_H], .bool r1])) := by
  rw [entry_flat_meet]
  rfl
def m_flat_meet : Model UU
  | [.agg [.int .i64 a0_X, .int .i64 a0_Y, .int .i64 a0_W, .int .i64 a0_H], .agg [.int .i64 a1_X, .int .i64 a1_Y, .int .i64 a1_W, .int .i64 a1_H]] => some ([], .tup [.agg [.int .i64 ((sp_flat_meet a0_X a0_Y a0_W a0_H a1_X a1_Y a1_W a1_H).1), .int .i64 ((sp_flat_meet a0_X a0_Y a0_W a0_H a1_X a1_Y a1_W a1_H).2.1), .int .i64 ((sp_flat_meet a0_X a0_Y a0_W a0_H a1_X a1_Y a1_W a1_H).2.2.1), .int .i64 ((sp_flat_meet a0_X a0_Y a0_W a0_H a1_X a1_Y a1_W a1_H).2.2.2.1)], .bool ((sp_flat_meet a0_X a0_Y a0_W a0_H a1_X a1_Y a1_W a1_H).2.2.2.2)])
  | _ => none
def C_flat_meet : Cfg UU := C_geom_rects.add 74 m_flat_meet
theorem s_flat_meet : SumOK C_flat_meet := by
  refine s_geom_rects.addD mixed (fn := Try.f74) (c := bo Try.f74) Try.func74 (by kernel_rfl) (by kernel_rfl) ?_
  intro xs cs r h hc
  unfold m_flat_meet at h
  split at h
  · rename_i a0_X a0_Y a0_W a0_H a1_X a1_Y a1_W a1_H
    cases h
    obtain ⟨F, hF⟩ := ok_flat_meet a0_X a0_Y a0_W a0_H a1_X a1_Y a1_W a1_H
    refine ⟨by kernel_rfl, M_flat_meet, F, false, ⟨?_⟩⟩
    rw [exec_flat_meet]
    refine hF _ ?_
    rfl
  · cases h
def k_flat_insert_0 (F : Nat) (Post : AVal UU → Prop) : AEx → ASt UU → Prop := kBlock 0 (kSeq C_flat_meet Try.f86.ntmps M_flat_insert F 0 (cS (cS (cS (bo Try.f86)))) (AEnds C_flat_meet false Try.f86 Post))
set_option maxRecDepth 100000 in
theorem step_flat_insert_0 (F n r : Nat) (K : AEx → ASt UU → Prop) (t0 : List Int) (t1 : Int) (t5 : Int) : iter (exec C_flat_meet Try.f86.ntmps M_flat_insert F 0 (cL (cB (cF (cS (cS (bo Try.f86))))))) (M_flat_insert 0) (n + 1) r (st_flat_insert_0 t0 t1 t5) K = g_flat_insert_s0 (fun t0 t1 t5 => iter (exec C_flat_meet Try.f86.ntmps M_flat_insert F 0 (cL (cB (cF (cS (cS (bo Try.f86))))))) (M_flat_insert 0) n (r + 1) (st_flat_insert_0 t0 t1 t5) K) (fun t0 t1 t5 => K (.exit 0) (st_flat_insert_0 t0 t1 t5)) t0 t1 t5 := by kernel_rfl
set_option maxRecDepth 100000 in
theorem cont_flat_insert_0_0 (F : Nat) (Post : AVal UU → Prop) (t0 : List Int) (t1 : Int) (t5 : Int) : k_flat_insert_0 F Post (.exit 0) (st_flat_insert_0 t0 t1 t5) = g_flat_insert_c0_0 (fun r0 => Post (.sl .int r0)) t0 t1 t5 := by kernel_rfl
set_option maxRecDepth 100000 in
theorem entry_flat_insert (F : Nat) (Post : AVal UU → Prop) (a0 : List Int) (a1 : Int) : exec C_flat_meet Try.f86.ntmps M_flat_insert F 0 (bo Try.f86) (initSt [.sl .int a0, .int .i64 a1]) (AEnds C_flat_meet false Try.f86 Post) = g_flat_insert_e a0 a1 (fun r0 => Post (.sl .int r0)) (fun t0 t1 t5 => iter (exec C_flat_meet Try.f86.ntmps M_flat_insert F 0 (cL (cB (cF (cS (cS (bo Try.f86))))))) (M_flat_insert 0) F 0 (st_flat_insert_0 t0 t1 t5) (k_flat_insert_0 F Post)) := by kernel_rfl
theorem loop_flat_insert_0 (F : Nat) (K : AEx → ASt UU → Prop) : ∀ (n r : Nat) (t0 : List Int) (t1 : Int) (t5 : Int), iter (exec C_flat_meet Try.f86.ntmps M_flat_insert F 0 (cL (cB (cF (cS (cS (bo Try.f86))))))) (M_flat_insert 0) n r (st_flat_insert_0 t0 t1 t5) K = w_flat_insert_0 F  (fun t0 t1 t5 => K (.exit 0) (st_flat_insert_0 t0 t1 t5)) n t0 t1 t5 := by
  intro n
  induction n with
  | zero => intros; rfl
  | succ n ih =>
    intro r t0 t1 t5
    have e : (fun t0 t1 t5 => iter (exec C_flat_meet Try.f86.ntmps M_flat_insert F 0 (cL (cB (cF (cS (cS (bo Try.f86))))))) (M_flat_insert 0) n (r + 1) (st_flat_insert_0 t0 t1 t5) K) = w_flat_insert_0 F  (fun t0 t1 t5 => K (.exit 0) (st_flat_insert_0 t0 t1 t5)) n := by
      funext t0 t1 t5
      exact ih (r + 1) t0 t1 t5
    rw [step_flat_insert_0, e]
    rfl
theorem nl_flat_insert_0 (F : Nat) (Post : AVal UU → Prop) (t0 : List Int) (t1 : Int) (t5 : Int) : iter (exec C_flat_meet Try.f86.ntmps M_flat_insert F 0 (cL (cB (cF (cS (cS (bo Try.f86))))))) (M_flat_insert 0) F 0 (st_flat_insert_0 t0 t1 t5) (k_flat_insert_0 F Post) = n_flat_insert_0 F (fun r0 => Post (.sl .int r0)) t0 t1 t5 := by
  rw [loop_flat_insert_0]
  have h0 : (fun t0 t1 t5 => k_flat_insert_0 F Post (.exit 0) (st_flat_insert_0 t0 t1 t5)) = (fun t0 t1 t5 => g_flat_insert_c0_0 (fun r0 => Post (.sl .int r0)) t0 t1 t5) := by
    funext t0 t1 t5
    rw [cont_flat_insert_0_0]
  rw [h0]
  rfl
theorem exec_flat_insert (F : Nat) (Post : AVal UU → Prop) (a0 : List Int) (a1 : Int) : exec C_flat_meet Try.f86.ntmps M_flat_insert F 0 (bo Try.f86) (initSt [.sl .int a0, .int .i64 a1]) (AEnds C_flat_meet false Try.f86 Post) = w_flat_insert F a0 a1 (fun r0 => Post (.sl .int r0)) := by
  rw [entry_flat_insert]
  have e0 : (fun t0 t1 t5 => iter (exec C_flat_meet Try.f86.ntmps M_flat_insert F 0 (cL (cB (cF (cS (cS (bo Try.f86))))))) (M_flat_insert 0) F 0 (st_flat_insert_0 t0 t1 t5) (k_flat_insert_0 F Post)) = (n_flat_insert_0 F (fun r0 => Post (.sl .int r0))) := by
    funext t0 t1 t5
    exact nl_flat_insert_0 F Post t0 t1 t5
  rw [e0]
  rfl
def m_flat_insert : Model UU
  | [.sl .int a0, .int .i64 a1] => some ([pre_flat_insert a0 a1], .sl .int (sp_flat_insert a0 a1))
  | _ => none
def C_flat_insert : Cfg UU := C_flat_meet.add 86 m_flat_insert
theorem s_flat_insert : SumOK C_flat_insert := by
  refine s_flat_meet.addD mixed (fn := Try.f86) (c := bo Try.f86) Try.func86 (by kernel_rfl) (by kernel_rfl) ?_
  intro xs cs r h hc
  unfold m_flat_insert at h
  split at h
  · rename_i a0 a1
    cases h
    obtain ⟨F, hF⟩ := ok_flat_insert a0 a1 hc
    refine ⟨by kernel_rfl, M_flat_insert, F, false, ⟨?_⟩⟩
    rw [exec_flat_insert]
    refine hF _ ?_
    rfl
  · cases h
def k_law03_ordered_0 (F : Nat) (Post : AVal UU → Prop) : AEx → ASt UU → Prop := kBlock 0 (kSeq C_flat_insert Try.f25.ntmps M_law03_ordered F 0 (cS (cS (bo Try.f25))) (AEnds C_flat_insert false Try.f25 Post))
set_option maxRecDepth 100000 in
theorem step_law03_ordered_0 (F n r : Nat) (K : AEx → ASt UU → Prop) (t2 : Bool) (t3 : Int) (c1_0 : List Rect) (c1_1 : List Rect) (c1_2 : List Rect) (c1_3 : List Bend) : iter (exec C_flat_insert Try.f25.ntmps M_law03_ordered F 0 (cL (cB (cS (cF (cS (bo Try.f25))))))) (M_law03_ordered 0) (n + 1) r (st_law03_ordered_0 t2 t3 c1_0 c1_1 c1_2 c1_3) K = g_law03_ordered_s0 (fun t2 t3 c1_0 c1_1 c1_2 c1_3 => iter (exec C_flat_insert Try.f25.ntmps M_law03_ordered F 0 (cL (cB (cS (cF (cS (bo Try.f25))))))) (M_law03_ordered 0) n (r + 1) (st_law03_ordered_0 t2 t3 c1_0 c1_1 c1_2 c1_3) K) (fun t2 t3 c1_0 c1_1 c1_2 c1_3 => K .ret (st_law03_ordered_0 t2 t3 c1_0 c1_1 c1_2 c1_3)) (fun t2 t3 c1_0 c1_1 c1_2 c1_3 => K (.exit 0) (st_law03_ordered_0 t2 t3 c1_0 c1_1 c1_2 c1_3)) t2 t3 c1_0 c1_1 c1_2 c1_3 := by kernel_rfl
set_option maxRecDepth 100000 in
theorem cont_law03_ordered_0_0 (F : Nat) (Post : AVal UU → Prop) (t2 : Bool) (t3 : Int) (c1_0 : List Rect) (c1_1 : List Rect) (c1_2 : List Rect) (c1_3 : List Bend) : k_law03_ordered_0 F Post .ret (st_law03_ordered_0 t2 t3 c1_0 c1_1 c1_2 c1_3) = g_law03_ordered_c0_0 (fun r0 => Post (.bool r0)) t2 t3 c1_0 c1_1 c1_2 c1_3 := by kernel_rfl
set_option maxRecDepth 100000 in
theorem cont_law03_ordered_0_1 (F : Nat) (Post : AVal UU → Prop) (t2 : Bool) (t3 : Int) (c1_0 : List Rect) (c1_1 : List Rect) (c1_2 : List Rect) (c1_3 : List Bend) : k_law03_ordered_0 F Post (.exit 0) (st_law03_ordered_0 t2 t3 c1_0 c1_1 c1_2 c1_3) = g_law03_ordered_c0_1 (fun r0 => Post (.bool r0)) t2 t3 c1_0 c1_1 c1_2 c1_3 := by kernel_rfl
set_option maxRecDepth 100000 in
theorem entry_law03_ordered (F : Nat) (Post : AVal UU → Prop) (a0_Rects : List Rect) (a0_Cuts : List Rect) (a0_Forms : List Rect) (a0_Bends : List Bend) : exec C_flat_insert Try.f25.ntmps M_law03_ordered F 0 (bo Try.f25) (initSt [.agg [.sl .rect a0_Rects, .sl .rect a0_Cuts, .sl .rect a0_Forms, .sl .bend a0_Bends]]) (AEnds C_flat_insert false Try.f25 Post) = g_law03_ordered_e a0_Rects a0_Cuts a0_Forms a0_Bends (fun r0 => Post (.bool r0)) (fun t2 t3 c1_0 c1_1 c1_2 c1_3 => iter (exec C_flat_insert Try.f25.ntmps M_law03_ordered F 0 (cL (cB (cS (cF (cS (bo Try.f25))))))) (M_law03_ordered 0) F 0 (st_law03_ordered_0 t2 t3 c1_0 c1_1 c1_2 c1_3) (k_law03_ordered_0 F Post)) := by kernel_rfl
theorem loop_law03_ordered_0 (F : Nat) (K : AEx → ASt UU → Prop) : ∀ (n r : Nat) (t2 : Bool) (t3 : Int) (c1_0 : List Rect) (c1_1 : List Rect) (c1_2 : List Rect) (c1_3 : List Bend), iter (exec C_flat_insert Try.f25.ntmps M_law03_ordered F 0 (cL (cB (cS (cF (cS (bo Try.f25))))))) (M_law03_ordered 0) n r (st_law03_ordered_0 t2 t3 c1_0 c1_1 c1_2 c1_3) K = w_law03_ordered_0 F  (fun t2 t3 c1_0 c1_1 c1_2 c1_3 => K .ret (st_law03_ordered_0 t2 t3 c1_0 c1_1 c1_2 c1_3)) (fun t2 t3 c1_0 c1_1 c1_2 c1_3 => K (.exit 0) (st_law03_ordered_0 t2 t3 c1_0 c1_1 c1_2 c1_3)) n t2 t3 c1_0 c1_1 c1_2 c1_3 := by
  intro n
  induction n with
  | zero => intros; rfl
  | succ n ih =>
    intro r t2 t3 c1_0 c1_1 c1_2 c1_3
    have e : (fun t2 t3 c1_0 c1_1 c1_2 c1_3 => iter (exec C_flat_insert Try.f25.ntmps M_law03_ordered F 0 (cL (cB (cS (cF (cS (bo Try.f25))))))) (M_law03_ordered 0) n (r + 1) (st_law03_ordered_0 t2 t3 c1_0 c1_1 c1_2 c1_3) K) = w_law03_ordered_0 F  (fun t2 t3 c1_0 c1_1 c1_2 c1_3 => K .ret (st_law03_ordered_0 t2 t3 c1_0 c1_1 c1_2 c1_3)) (fun t2 t3 c1_0 c1_1 c1_2 c1_3 => K (.exit 0) (st_law03_ordered_0 t2 t3 c1_0 c1_1 c1_2 c1_3)) n := by
      funext t2 t3 c1_0 c1_1 c1_2 c1_3
      exact ih (r + 1) t2 t3 c1_0 c1_1 c1_2 c1_3
    rw [step_law03_ordered_0, e]
    rfl
theorem nl_law03_ordered_0 (F : Nat) (Post : AVal UU → Prop) (t2 : Bool) (t3 : Int) (c1_0 : List Rect) (c1_1 : List Rect) (c1_2 : List Rect) (c1_3 : List Bend) : iter (exec C_flat_insert Try.f25.ntmps M_law03_ordered F 0 (cL (cB (cS (cF (cS (bo Try.f25))))))) (M_law03_ordered 0) F 0 (st_law03_ordered_0 t2 t3 c1_0 c1_1 c1_2 c1_3) (k_law03_ordered_0 F Post) = n_law03_ordered_0 F (fun r0 => Post (.bool r0)) t2 t3 c1_0 c1_1 c1_2 c1_3 := by
  rw [loop_law03_ordered_0]
  have h0 : (fun t2 t3 c1_0 c1_1 c1_2 c1_3 => k_law03_ordered_0 F Post .ret (st_law03_ordered_0 t2 t3 c1_0 c1_1 c1_2 c1_3)) = (fun t2 t3 c1_0 c1_1 c1_2 c1_3 => g_law03_ordered_c0_0 (fun r0 => Post (.bool r0)) t2 t3 c1_0 c1_1 c1_2 c1_3) := by
    funext t2 t3 c1_0 c1_1 c1_2 c1_3
    rw [cont_law03_ordered_0_0]
  have h1 : (fun t2 t3 c1_0 c1_1 c1_2 c1_3 => k_law03_ordered_0 F Post (.exit 0) (st_law03_ordered_0 t2 t3 c1_0 c1_1 c1_2 c1_3)) = (fun t2 t3 c1_0 c1_1 c1_2 c1_3 => g_law03_ordered_c0_1 (fun r0 => Post (.bool r0)) t2 t3 c1_0 c1_1 c1_2 c1_3) := by
    funext t2 t3 c1_0 c1_1 c1_2 c1_3
    rw [cont_law03_ordered_0_1]
  rw [h0, h1]
  rfl
theorem exec_law03_ordered (F : Nat) (Post : AVal UU → Prop) (a0_Rects : List Rect) (a0_Cuts : List Rect) (a0_Forms : List Rect) (a0_Bends : List Bend) : exec C_flat_insert Try.f25.ntmps M_law03_ordered F 0 (bo Try.f25) (initSt [.agg [.sl .rect a0_Rects, .sl .rect a0_Cuts, .sl .rect a0_Forms, .sl .bend a0_Bends]]) (AEnds C_flat_insert false Try.f25 Post) = w_law03_ordered F a0_Rects a0_Cuts a0_Forms a0_Bends (fun r0 => Post (.bool r0)) := by
  rw [entry_law03_ordered]
  have e0 : (fun t2 t3 c1_0 c1_1 c1_2 c1_3 => iter (exec C_flat_insert Try.f25.ntmps M_law03_ordered F 0 (cL (cB (cS (cF (cS (bo Try.f25))))))) (M_law03_ordered 0) F 0 (st_law03_ordered_0 t2 t3 c1_0 c1_1 c1_2 c1_3) (k_law03_ordered_0 F Post)) = (n_law03_ordered_0 F (fun r0 => Post (.bool r0))) := by
    funext t2 t3 c1_0 c1_1 c1_2 c1_3
    exact nl_law03_ordered_0 F Post t2 t3 c1_0 c1_1 c1_2 c1_3
  rw [e0]
  rfl
def m_law03_ordered : Model UU
  | [.agg [.sl .rect a0_Rects, .sl .rect a0_Cuts, .sl .rect a0_Forms, .sl .bend a0_Bends]] => some ([pre_law03_ordered a0_Rects a0_Cuts a0_Forms a0_Bends], .bool (sp_law03_ordered a0_Rects a0_Cuts a0_Forms a0_Bends))
  | _ => none
def C_law03_ordered : Cfg UU := C_flat_insert.add 25 m_law03_ordered
theorem s_law03_ordered : SumOK C_law03_ordered := by
  refine s_flat_insert.addD mixed (fn := Try.f25) (c := bo Try.f25) Try.func25 (by kernel_rfl) (by kernel_rfl) ?_
  intro xs cs r h hc
  unfold m_law03_ordered at h
  split at h
  · rename_i a0_Rects a0_Cuts a0_Forms a0_Bends
    cases h
    obtain ⟨F, hF⟩ := ok_law03_ordered a0_Rects a0_Cuts a0_Forms a0_Bends hc
    refine ⟨by kernel_rfl, M_law03_ordered, F, false, ⟨?_⟩⟩
    rw [exec_law03_ordered]
    refine hF _ ?_
    rfl
  · cases h
def k_geom_grid_covered_0 (F : Nat) (Post : AVal UU → Prop) : AEx → ASt UU → Prop := kBlock 0 (kSeq C_law03_ordered Try.f73.ntmps M_geom_grid_covered F 0 (cS (cS (cS (bo Try.f73)))) (AEnds C_law03_ordered true Try.f73 Post))
def k_geom_grid_covered_1 (F n r : Nat) (K : AEx → ASt UU → Prop) : AEx → ASt UU → Prop := kBlock 2 (kBlock 1 (kSeq C_law03_ordered Try.f73.ntmps M_geom_grid_covered F 0 (cS (cS (cS (cL (cB (cS (cF (cS (cS (bo Try.f73)))))))))) (kIter (exec C_law03_ordered Try.f73.ntmps M_geom_grid_covered F 0 (cL (cB (cS (cF (cS (cS (bo Try.f73)))))))) (M_geom_grid_covered 0) n r K)))
def k_geom_grid_covered_2 (F n r : Nat) (K : AEx → ASt UU → Prop) : AEx → ASt UU → Prop := kBlock 4 (kBlock 3 (kSeq C_law03_ordered Try.f73.ntmps M_geom_grid_covered F 2 (cS (cS (cS (cL (cB (cS (cS (cS (cB (cF (cS (cS (cL (cB (cS (cF (cS (cS (bo Try.f73))))))))))))))))))) (kIter (exec C_law03_ordered Try.f73.ntmps M_geom_grid_covered F 2 (cL (cB (cS (cS (cS (cB (cF (cS (cS (cL (cB (cS (cF (cS (cS (bo Try.f73))))))))))))))))) (M_geom_grid_covered 2) n r K)))
set_option maxRecDepth 100000 in
theorem step_geom_grid_covered_0 (F n r : Nat) (K : AEx → ASt UU → Prop) (t1 : List Rect) (t17 : Int) (t18 : Int) (c2_0 : List Int) (c2_1 : List Int) (l97 : List (List Bool)) : iter (exec C_law03_ordered Try.f73.ntmps M_geom_grid_covered F 0 (cL (cB (cS (cF (cS (cS (bo Try.f73)))))))) (M_geom_grid_covered 0) (n + 1) r (st_geom_grid_covered_0 t1 t17 t18 c2_0 c2_1 l97) K = g_geom_grid_covered_s0 (fun t1 t17 t18 c2_0 c2_1 l97 => iter (exec C_law03_ordered Try.f73.ntmps M_geom_grid_covered F 0 (cL (cB (cS (cF (cS (cS (bo Try.f73)))))))) (M_geom_grid_covered 0) n (r + 1) (st_geom_grid_covered_0 t1 t17 t18 c2_0 c2_1 l97) K) (fun t1 t17 t18 c2_0 c2_1 l97 => K (.exit 0) (st_geom_grid_covered_0 t1 t17 t18 c2_0 c2_1 l97)) t1 t17 t18 c2_0 c2_1 l97 (fun t1 t6 t17 t18 t33 t34 c2_0 c2_1 l27 l97 i97 => iter (exec C_law03_ordered Try.f73.ntmps M_geom_grid_covered F 2 (cL (cB (cS (cS (cS (cB (cF (cS (cS (cL (cB (cS (cF (cS (cS (bo Try.f73))))))))))))))))) (M_geom_grid_covered 2) F 0 (st_geom_grid_covered_1 t1 t6 t17 t18 t33 t34 c2_0 c2_1 l27 l97 i97) (k_geom_grid_covered_1 F n r K)) := by kernel_rfl
set_option maxRecDepth 100000 in
theorem cont_geom_grid_covered_0_0 (F : Nat) (Post : AVal UU → Prop) (t1 : List Rect) (t17 : Int) (t18 : Int) (c2_0 : List Int) (c2_1 : List Int) (l97 : List (List Bool)) : k_geom_grid_covered_0 F Post (.exit 0) (st_geom_grid_covered_0 t1 t17 t18 c2_0 c2_1 l97) = g_geom_grid_covered_c0_0 (fun r0 => Post (.new .bools r0)) t1 t17 t18 c2_0 c2_1 l97 := by kernel_rfl
set_option maxRecDepth 100000 in
theorem step_geom_grid_covered_1 (F n r : Nat) (K : AEx → ASt UU → Prop) (t1 : List Rect) (t6 : Int) (t17 : Int) (t18 : Int) (t33 : Int) (t34 : Int) (c2_0 : List Int) (c2_1 : List Int) (l27 : List Bool) (l97 : List (List Bool)) (i97 : Nat) : iter (exec C_law03_ordered Try.f73.ntmps M_geom_grid_covered F 2 (cL (cB (cS (cS (cS (cB (cF (cS (cS (cL (cB (cS (cF (cS (cS (bo Try.f73))))))))))))))))) (M_geom_grid_covered 2) (n + 1) r (st_geom_grid_covered_1 t1 t6 t17 t18 t33 t34 c2_0 c2_1 l27 l97 i97) K = g_geom_grid_covered_s1 (fun t1 t6 t17 t18 t33 t34 c2_0 c2_1 l27 l97 i97 => iter (exec C_law03_ordered Try.f73.ntmps M_geom_grid_covered F 2 (cL (cB (cS (cS (cS (cB (cF (cS (cS (cL (cB (cS (cF (cS (cS (bo Try.f73))))))))))))))))) (M_geom_grid_covered 2) n (r + 1) (st_geom_grid_covered_1 t1 t6 t17 t18 t33 t34 c2_0 c2_1 l27 l97 i97) K) (fun t1 t6 t17 t18 t33 t34 c2_0 c2_1 l27 l97 i97 => K (.exit 2) (st_geom_grid_covered_1 t1 t6 t17 t18 t33 t34 c2_0 c2_1 l27 l97 i97)) t1 t6 t17 t18 t33 t34 c2_0 c2_1 l27 l97 i97 (fun t1 t6 t7 t17 t18 t33 t34 t37 t38 t39 c2_0 c2_1 l27 l97 i97 => iter (exec C_law03_ordered Try.f73.ntmps M_geom_grid_covered F 4 (cL (cB (cS (cS (cB (cF (cS (cS (cL (cB (cS (cS (cS (cB (cF (cS (cS (cL (cB (cS (cF (cS (cS (bo Try.f73))))))))))))))))))))))))) (M_geom_grid_covered 4) F 0 (st_geom_grid_covered_2 t1 t6 t7 t17 t18 t33 t34 t37 t38 t39 c2_0 c2_1 l27 l97 i97) (k_geom_grid_covered_2 F n r K)) := by kernel_rfl
set_option maxRecDepth 100000 in
theorem cont_geom_grid_covered_1_0 (F n r : Nat) (K : AEx → ASt UU → Prop) (t1 : List Rect) (t6 : Int) (t17 : Int) (t18 : Int) (t33 : Int) (t34 : Int) (c2_0 : List Int) (c2_1 : List Int) (l27 : List Bool) (l97 : List (List Bool)) (i97 : Nat) : k_geom_grid_covered_1 F n r K (.exit 2) (st_geom_grid_covered_1 t1 t6 t17 t18 t33 t34 c2_0 c2_1 l27 l97 i97) = g_geom_grid_covered_c1_0 (fun t1 t17 t18 c2_0 c2_1 l97 => iter (exec C_law03_ordered Try.f73.ntmps M_geom_grid_covered F 0 (cL (cB (cS (cF (cS (cS (bo Try.f73)))))))) (M_geom_grid_covered 0) n (r + 1) (st_geom_grid_covered_0 t1 t17 t18 c2_0 c2_1 l97) K) (fun t1 t17 t18 c2_0 c2_1 l97 => K (.exit 0) (st_geom_grid_covered_0 t1 t17 t18 c2_0 c2_1 l97)) t1 t6 t17 t18 t33 t34 c2_0 c2_1 l27 l97 i97 := by kernel_rfl
set_option maxRecDepth 100000 in
theorem step_geom_grid_covered_2 (F n r : Nat) (K : AEx → ASt UU → Prop) (t1 : List Rect) (t6 : Int) (t7 : Int) (t17 : Int) (t18 : Int) (t33 : Int) (t34 : Int) (t37 : List Rect) (t38 : Int) (t39 : Int) (c2_0 : List Int) (c2_1 : List Int) (l27 : List Bool) (l97 : List (List Bool)) (i97 : Nat) : iter (exec C_law03_ordered Try.f73.ntmps M_geom_grid_covered F 4 (cL (cB (cS (cS (cB (cF (cS (cS (cL (cB (cS (cS (cS (cB (cF (cS (cS (cL (cB (cS (cF (cS (cS (bo Try.f73))))))))))))))))))))))))) (M_geom_grid_covered 4) (n + 1) r (st_geom_grid_covered_2 t1 t6 t7 t17 t18 t33 t34 t37 t38 t39 c2_0 c2_1 l27 l97 i97) K = g_geom_grid_covered_s2 (fun t1 t6 t7 t17 t18 t33 t34 t37 t38 t39 c2_0 c2_1 l27 l97 i97 => iter (exec C_law03_ordered Try.f73.ntmps M_geom_grid_covered F 4 (cL (cB (cS (cS (cB (cF (cS (cS (cL (cB (cS (cS (cS (cB (cF (cS (cS (cL (cB (cS (cF (cS (cS (bo Try.f73))))))))))))))))))))))))) (M_geom_grid_covered 4) n (r + 1) (st_geom_grid_covered_2 t1 t6 t7 t17 t18 t33 t34 t37 t38 t39 c2_0 c2_1 l27 l97 i97) K) (fun t1 t6 t7 t17 t18 t33 t34 t37 t38 t39 c2_0 c2_1 l27 l97 i97 => K (.exit 4) (st_geom_grid_covered_2 t1 t6 t7 t17 t18 t33 t34 t37 t38 t39 c2_0 c2_1 l27 l97 i97)) t1 t6 t7 t17 t18 t33 t34 t37 t38 t39 c2_0 c2_1 l27 l97 i97 := by kernel_rfl
set_option maxRecDepth 100000 in
theorem cont_geom_grid_covered_2_0 (F n r : Nat) (K : AEx → ASt UU → Prop) (t1 : List Rect) (t6 : Int) (t7 : Int) (t17 : Int) (t18 : Int) (t33 : Int) (t34 : Int) (t37 : List Rect) (t38 : Int) (t39 : Int) (c2_0 : List Int) (c2_1 : List Int) (l27 : List Bool) (l97 : List (List Bool)) (i97 : Nat) : k_geom_grid_covered_2 F n r K (.exit 4) (st_geom_grid_covered_2 t1 t6 t7 t17 t18 t33 t34 t37 t38 t39 c2_0 c2_1 l27 l97 i97) = g_geom_grid_covered_c2_0 (fun t1 t6 t17 t18 t33 t34 c2_0 c2_1 l27 l97 i97 => iter (exec C_law03_ordered Try.f73.ntmps M_geom_grid_covered F 2 (cL (cB (cS (cS (cS (cB (cF (cS (cS (cL (cB (cS (cF (cS (cS (bo Try.f73))))))))))))))))) (M_geom_grid_covered 2) n (r + 1) (st_geom_grid_covered_1 t1 t6 t17 t18 t33 t34 c2_0 c2_1 l27 l97 i97) K) (fun t1 t6 t17 t18 t33 t34 c2_0 c2_1 l27 l97 i97 => K (.exit 2) (st_geom_grid_covered_1 t1 t6 t17 t18 t33 t34 c2_0 c2_1 l27 l97 i97)) t1 t6 t7 t17 t18 t33 t34 t37 t38 t39 c2_0 c2_1 l27 l97 i97 := by kernel_rfl
set_option maxRecDepth 100000 in
theorem entry_geom_grid_covered (F : Nat) (Post : AVal UU → Prop) (a0_x : List Int) (a0_y : List Int) (a1 : List Rect) : exec C_law03_ordered Try.f73.ntmps M_geom_grid_covered F 0 (bo Try.f73) (initSt [.agg [.sl .int a0_x, .sl .int a0_y], .sl .rect a1]) (AEnds C_law03_ordered true Try.f73 Post) = g_geom_grid_covered_e a0_x a0_y a1 (fun r0 => Post (.new .bools r0)) (fun t1 t17 t18 c2_0 c2_1 l97 => iter (exec C_law03_ordered Try.f73.ntmps M_geom_grid_covered F 0 (cL (cB (cS (cF (cS (cS (bo Try.f73)))))))) (M_geom_grid_covered 0) F 0 (st_geom_grid_covered_0 t1 t17 t18 c2_0 c2_1 l97) (k_geom_grid_covered_0 F Post)) := by kernel_rfl
theorem loop_geom_grid_covered_2 (F : Nat) (K : AEx → ASt UU → Prop) : ∀ (n r : Nat) (t1 : List Rect) (t6 : Int) (t7 : Int) (t17 : Int) (t18 : Int) (t33 : Int) (t34 : Int) (t37 : List Rect) (t38 : Int) (t39 : Int) (c2_0 : List Int) (c2_1 : List Int) (l27 : List Bool) (l97 : List (List Bool)) (i97 : Nat), iter (exec C_law03_ordered Try.f73.ntmps M_geom_grid_covered F 4 (cL (cB (cS (cS (cB (cF (cS (cS (cL (cB (cS (cS (cS (cB (cF (cS (cS (cL (cB (cS (cF (cS (cS (bo Try.f73))))))))))))))))))))))))) (M_geom_grid_covered 4) n r (st_geom_grid_covered_2 t1 t6 t7 t17 t18 t33 t34 t37 t38 t39 c2_0 c2_1 l27 l97 i97) K = w_geom_grid_covered_2 F  (fun t1 t6 t7 t17 t18 t33 t34 t37 t38 t39 c2_0 c2_1 l27 l97 i97 => K (.exit 4) (st_geom_grid_covered_2 t1 t6 t7 t17 t18 t33 t34 t37 t38 t39 c2_0 c2_1 l27 l97 i97)) n t1 t6 t7 t17 t18 t33 t34 t37 t38 t39 c2_0 c2_1 l27 l97 i97 := by
  intro n
  induction n with
  | zero => intros; rfl
  | succ n ih =>
    intro r t1 t6 t7 t17 t18 t33 t34 t37 t38 t39 c2_0 c2_1 l27 l97 i97
    have e : (fun t1 t6 t7 t17 t18 t33 t34 t37 t38 t39 c2_0 c2_1 l27 l97 i97 => iter (exec C_law03_ordered Try.f73.ntmps M_geom_grid_covered F 4 (cL (cB (cS (cS (cB (cF (cS (cS (cL (cB (cS (cS (cS (cB (cF (cS (cS (cL (cB (cS (cF (cS (cS (bo Try.f73))))))))))))))))))))))))) (M_geom_grid_covered 4) n (r + 1) (st_geom_grid_covered_2 t1 t6 t7 t17 t18 t33 t34 t37 t38 t39 c2_0 c2_1 l27 l97 i97) K) = w_geom_grid_covered_2 F  (fun t1 t6 t7 t17 t18 t33 t34 t37 t38 t39 c2_0 c2_1 l27 l97 i97 => K (.exit 4) (st_geom_grid_covered_2 t1 t6 t7 t17 t18 t33 t34 t37 t38 t39 c2_0 c2_1 l27 l97 i97)) n := by
      funext t1 t6 t7 t17 t18 t33 t34 t37 t38 t39 c2_0 c2_1 l27 l97 i97
      exact ih (r + 1) t1 t6 t7 t17 t18 t33 t34 t37 t38 t39 c2_0 c2_1 l27 l97 i97
    rw [step_geom_grid_covered_2, e]
    rfl
theorem nl_geom_grid_covered_2 (F n r : Nat) (K : AEx → ASt UU → Prop) (t1 : List Rect) (t6 : Int) (t7 : Int) (t17 : Int) (t18 : Int) (t33 : Int) (t34 : Int) (t37 : List Rect) (t38 : Int) (t39 : Int) (c2_0 : List Int) (c2_1 : List Int) (l27 : List Bool) (l97 : List (List Bool)) (i97 : Nat) : iter (exec C_law03_ordered Try.f73.ntmps M_geom_grid_covered F 4 (cL (cB (cS (cS (cB (cF (cS (cS (cL (cB (cS (cS (cS (cB (cF (cS (cS (cL (cB (cS (cF (cS (cS (bo Try.f73))))))))))))))))))))))))) (M_geom_grid_covered 4) F 0 (st_geom_grid_covered_2 t1 t6 t7 t17 t18 t33 t34 t37 t38 t39 c2_0 c2_1 l27 l97 i97) (k_geom_grid_covered_2 F n r K) = n_geom_grid_covered_2 F (fun t1 t6 t17 t18 t33 t34 c2_0 c2_1 l27 l97 i97 => iter (exec C_law03_ordered Try.f73.ntmps M_geom_grid_covered F 2 (cL (cB (cS (cS (cS (cB (cF (cS (cS (cL (cB (cS (cF (cS (cS (bo Try.f73))))))))))))))))) (M_geom_grid_covered 2) n (r + 1) (st_geom_grid_covered_1 t1 t6 t17 t18 t33 t34 c2_0 c2_1 l27 l97 i97) K) (fun t1 t6 t17 t18 t33 t34 c2_0 c2_1 l27 l97 i97 => K (.exit 2) (st_geom_grid_covered_1 t1 t6 t17 t18 t33 t34 c2_0 c2_1 l27 l97 i97)) t1 t6 t7 t17 t18 t33 t34 t37 t38 t39 c2_0 c2_1 l27 l97 i97 := by
  rw [loop_geom_grid_covered_2]
  have h0 : (fun t1 t6 t7 t17 t18 t33 t34 t37 t38 t39 c2_0 c2_1 l27 l97 i97 => k_geom_grid_covered_2 F n r K (.exit 4) (st_geom_grid_covered_2 t1 t6 t7 t17 t18 t33 t34 t37 t38 t39 c2_0 c2_1 l27 l97 i97)) = (fun t1 t6 t7 t17 t18 t33 t34 t37 t38 t39 c2_0 c2_1 l27 l97 i97 => g_geom_grid_covered_c2_0 (fun t1 t6 t17 t18 t33 t34 c2_0 c2_1 l27 l97 i97 => iter (exec C_law03_ordered Try.f73.ntmps M_geom_grid_covered F 2 (cL (cB (cS (cS (cS (cB (cF (cS (cS (cL (cB (cS (cF (cS (cS (bo Try.f73))))))))))))))))) (M_geom_grid_covered 2) n (r + 1) (st_geom_grid_covered_1 t1 t6 t17 t18 t33 t34 c2_0 c2_1 l27 l97 i97) K) (fun t1 t6 t17 t18 t33 t34 c2_0 c2_1 l27 l97 i97 => K (.exit 2) (st_geom_grid_covered_1 t1 t6 t17 t18 t33 t34 c2_0 c2_1 l27 l97 i97)) t1 t6 t7 t17 t18 t33 t34 t37 t38 t39 c2_0 c2_1 l27 l97 i97) := by
    funext t1 t6 t7 t17 t18 t33 t34 t37 t38 t39 c2_0 c2_1 l27 l97 i97
    rw [cont_geom_grid_covered_2_0]
  rw [h0]
  rfl
theorem loop_geom_grid_covered_1 (F : Nat) (K : AEx → ASt UU → Prop) : ∀ (n r : Nat) (t1 : List Rect) (t6 : Int) (t17 : Int) (t18 : Int) (t33 : Int) (t34 : Int) (c2_0 : List Int) (c2_1 : List Int) (l27 : List Bool) (l97 : List (List Bool)) (i97 : Nat), iter (exec C_law03_ordered Try.f73.ntmps M_geom_grid_covered F 2 (cL (cB (cS (cS (cS (cB (cF (cS (cS (cL (cB (cS (cF (cS (cS (bo Try.f73))))))))))))))))) (M_geom_grid_covered 2) n r (st_geom_grid_covered_1 t1 t6 t17 t18 t33 t34 c2_0 c2_1 l27 l97 i97) K = w_geom_grid_covered_1 F  (fun t1 t6 t17 t18 t33 t34 c2_0 c2_1 l27 l97 i97 => K (.exit 2) (st_geom_grid_covered_1 t1 t6 t17 t18 t33 t34 c2_0 c2_1 l27 l97 i97)) n t1 t6 t17 t18 t33 t34 c2_0 c2_1 l27 l97 i97 := by
  intro n
  induction n with
  | zero => intros; rfl
  | succ n ih =>
    intro r t1 t6 t17 t18 t33 t34 c2_0 c2_1 l27 l97 i97
    have e : (fun t1 t6 t17 t18 t33 t34 c2_0 c2_1 l27 l97 i97 => iter (exec C_law03_ordered Try.f73.ntmps M_geom_grid_covered F 2 (cL (cB (cS (cS (cS (cB (cF (cS (cS (cL (cB (cS (cF (cS (cS (bo Try.f73))))))))))))))))) (M_geom_grid_covered 2) n (r + 1) (st_geom_grid_covered_1 t1 t6 t17 t18 t33 t34 c2_0 c2_1 l27 l97 i97) K) = w_geom_grid_covered_1 F  (fun t1 t6 t17 t18 t33 t34 c2_0 c2_1 l27 l97 i97 => K (.exit 2) (st_geom_grid_covered_1 t1 t6 t17 t18 t33 t34 c2_0 c2_1 l27 l97 i97)) n := by
      funext t1 t6 t17 t18 t33 t34 c2_0 c2_1 l27 l97 i97
      exact ih (r + 1) t1 t6 t17 t18 t33 t34 c2_0 c2_1 l27 l97 i97
    have e2 : (fun t1 t6 t7 t17 t18 t33 t34 t37 t38 t39 c2_0 c2_1 l27 l97 i97 => iter (exec C_law03_ordered Try.f73.ntmps M_geom_grid_covered F 4 (cL (cB (cS (cS (cB (cF (cS (cS (cL (cB (cS (cS (cS (cB (cF (cS (cS (cL (cB (cS (cF (cS (cS (bo Try.f73))))))))))))))))))))))))) (M_geom_grid_covered 4) F 0 (st_geom_grid_covered_2 t1 t6 t7 t17 t18 t33 t34 t37 t38 t39 c2_0 c2_1 l27 l97 i97) (k_geom_grid_covered_2 F n r K)) = (n_geom_grid_covered_2 F (fun t1 t6 t17 t18 t33 t34 c2_0 c2_1 l27 l97 i97 => iter (exec C_law03_ordered Try.f73.ntmps M_geom_grid_covered F 2 (cL (cB (cS (cS (cS (cB (cF (cS (cS (cL (cB (cS (cF (cS (cS (bo Try.f73))))))))))))))))) (M_geom_grid_covered 2) n (r + 1) (st_geom_grid_covered_1 t1 t6 t17 t18 t33 t34 c2_0 c2_1 l27 l97 i97) K) (fun t1 t6 t17 t18 t33 t34 c2_0 c2_1 l27 l97 i97 => K (.exit 2) (st_geom_grid_covered_1 t1 t6 t17 t18 t33 t34 c2_0 c2_1 l27 l97 i97))) := by
      funext t1 t6 t7 t17 t18 t33 t34 t37 t38 t39 c2_0 c2_1 l27 l97 i97
      exact nl_geom_grid_covered_2 F n r K t1 t6 t7 t17 t18 t33 t34 t37 t38 t39 c2_0 c2_1 l27 l97 i97
    rw [step_geom_grid_covered_1, e2, e]
    rfl
theorem nl_geom_grid_covered_1 (F n r : Nat) (K : AEx → ASt UU → Prop) (t1 : List Rect) (t6 : Int) (t17 : Int) (t18 : Int) (t33 : Int) (t34 : Int) (c2_0 : List Int) (c2_1 : List Int) (l27 : List Bool) (l97 : List (List Bool)) (i97 : Nat) : iter (exec C_law03_ordered Try.f73.ntmps M_geom_grid_covered F 2 (cL (cB (cS (cS (cS (cB (cF (cS (cS (cL (cB (cS (cF (cS (cS (bo Try.f73))))))))))))))))) (M_geom_grid_covered 2) F 0 (st_geom_grid_covered_1 t1 t6 t17 t18 t33 t34 c2_0 c2_1 l27 l97 i97) (k_geom_grid_covered_1 F n r K) = n_geom_grid_covered_1 F (fun t1 t17 t18 c2_0 c2_1 l97 => iter (exec C_law03_ordered Try.f73.ntmps M_geom_grid_covered F 0 (cL (cB (cS (cF (cS (cS (bo Try.f73)))))))) (M_geom_grid_covered 0) n (r + 1) (st_geom_grid_covered_0 t1 t17 t18 c2_0 c2_1 l97) K) (fun t1 t17 t18 c2_0 c2_1 l97 => K (.exit 0) (st_geom_grid_covered_0 t1 t17 t18 c2_0 c2_1 l97)) t1 t6 t17 t18 t33 t34 c2_0 c2_1 l27 l97 i97 := by
  rw [loop_geom_grid_covered_1]
  have h0 : (fun t1 t6 t17 t18 t33 t34 c2_0 c2_1 l27 l97 i97 => k_geom_grid_covered_1 F n r K (.exit 2) (st_geom_grid_covered_1 t1 t6 t17 t18 t33 t34 c2_0 c2_1 l27 l97 i97)) = (fun t1 t6 t17 t18 t33 t34 c2_0 c2_1 l27 l97 i97 => g_geom_grid_covered_c1_0 (fun t1 t17 t18 c2_0 c2_1 l97 => iter (exec C_law03_ordered Try.f73.ntmps M_geom_grid_covered F 0 (cL (cB (cS (cF (cS (cS (bo Try.f73)))))))) (M_geom_grid_covered 0) n (r + 1) (st_geom_grid_covered_0 t1 t17 t18 c2_0 c2_1 l97) K) (fun t1 t17 t18 c2_0 c2_1 l97 => K (.exit 0) (st_geom_grid_covered_0 t1 t17 t18 c2_0 c2_1 l97)) t1 t6 t17 t18 t33 t34 c2_0 c2_1 l27 l97 i97) := by
    funext t1 t6 t17 t18 t33 t34 c2_0 c2_1 l27 l97 i97
    rw [cont_geom_grid_covered_1_0]
  rw [h0]
  rfl
theorem loop_geom_grid_covered_0 (F : Nat) (K : AEx → ASt UU → Prop) : ∀ (n r : Nat) (t1 : List Rect) (t17 : Int) (t18 : Int) (c2_0 : List Int) (c2_1 : List Int) (l97 : List (List Bool)), iter (exec C_law03_ordered Try.f73.ntmps M_geom_grid_covered F 0 (cL (cB (cS (cF (cS (cS (bo Try.f73)))))))) (M_geom_grid_covered 0) n r (st_geom_grid_covered_0 t1 t17 t18 c2_0 c2_1 l97) K = w_geom_grid_covered_0 F  (fun t1 t17 t18 c2_0 c2_1 l97 => K (.exit 0) (st_geom_grid_covered_0 t1 t17 t18 c2_0 c2_1 l97)) n t1 t17 t18 c2_0 c2_1 l97 := by
  intro n
  induction n with
  | zero => intros; rfl
  | succ n ih =>
    intro r t1 t17 t18 c2_0 c2_1 l97
    have e : (fun t1 t17 t18 c2_0 c2_1 l97 => iter (exec C_law03_ordered Try.f73.ntmps M_geom_grid_covered F 0 (cL (cB (cS (cF (cS (cS (bo Try.f73)))))))) (M_geom_grid_covered 0) n (r + 1) (st_geom_grid_covered_0 t1 t17 t18 c2_0 c2_1 l97) K) = w_geom_grid_covered_0 F  (fun t1 t17 t18 c2_0 c2_1 l97 => K (.exit 0) (st_geom_grid_covered_0 t1 t17 t18 c2_0 c2_1 l97)) n := by
      funext t1 t17 t18 c2_0 c2_1 l97
      exact ih (r + 1) t1 t17 t18 c2_0 c2_1 l97
    have e1 : (fun t1 t6 t17 t18 t33 t34 c2_0 c2_1 l27 l97 i97 => iter (exec C_law03_ordered Try.f73.ntmps M_geom_grid_covered F 2 (cL (cB (cS (cS (cS (cB (cF (cS (cS (cL (cB (cS (cF (cS (cS (bo Try.f73))))))))))))))))) (M_geom_grid_covered 2) F 0 (st_geom_grid_covered_1 t1 t6 t17 t18 t33 t34 c2_0 c2_1 l27 l97 i97) (k_geom_grid_covered_1 F n r K)) = (n_geom_grid_covered_1 F (fun t1 t17 t18 c2_0 c2_1 l97 => iter (exec C_law03_ordered Try.f73.ntmps M_geom_grid_covered F 0 (cL (cB (cS (cF (cS (cS (bo Try.f73)))))))) (M_geom_grid_covered 0) n (r + 1) (st_geom_grid_covered_0 t1 t17 t18 c2_0 c2_1 l97) K) (fun t1 t17 t18 c2_0 c2_1 l97 => K (.exit 0) (st_geom_grid_covered_0 t1 t17 t18 c2_0 c2_1 l97))) := by
      funext t1 t6 t17 t18 t33 t34 c2_0 c2_1 l27 l97 i97
      exact nl_geom_grid_covered_1 F n r K t1 t6 t17 t18 t33 t34 c2_0 c2_1 l27 l97 i97
    rw [step_geom_grid_covered_0, e1, e]
    rfl
theorem nl_geom_grid_covered_0 (F : Nat) (Post : AVal UU → Prop) (t1 : List Rect) (t17 : Int) (t18 : Int) (c2_0 : List Int) (c2_1 : List Int) (l97 : List (List Bool)) : iter (exec C_law03_ordered Try.f73.ntmps M_geom_grid_covered F 0 (cL (cB (cS (cF (cS (cS (bo Try.f73)))))))) (M_geom_grid_covered 0) F 0 (st_geom_grid_covered_0 t1 t17 t18 c2_0 c2_1 l97) (k_geom_grid_covered_0 F Post) = n_geom_grid_covered_0 F (fun r0 => Post (.new .bools r0)) t1 t17 t18 c2_0 c2_1 l97 := by
  rw [loop_geom_grid_covered_0]
  have h0 : (fun t1 t17 t18 c2_0 c2_1 l97 => k_geom_grid_covered_0 F Post (.exit 0) (st_geom_grid_covered_0 t1 t17 t18 c2_0 c2_1 l97)) = (fun t1 t17 t18 c2_0 c2_1 l97 => g_geom_grid_covered_c0_0 (fun r0 => Post (.new .bools r0)) t1 t17 t18 c2_0 c2_1 l97) := by
    funext t1 t17 t18 c2_0 c2_1 l97
    rw [cont_geom_grid_covered_0_0]
  rw [h0]
  rfl
theorem exec_geom_grid_covered (F : Nat) (Post : AVal UU → Prop) (a0_x : List Int) (a0_y : List Int) (a1 : List Rect) : exec C_law03_ordered Try.f73.ntmps M_geom_grid_covered F 0 (bo Try.f73) (initSt [.agg [.sl .int a0_x, .sl .int a0_y], .sl .rect a1]) (AEnds C_law03_ordered true Try.f73 Post) = w_geom_grid_covered F a0_x a0_y a1 (fun r0 => Post (.new .bools r0)) := by
  rw [entry_geom_grid_covered]
  have e0 : (fun t1 t17 t18 c2_0 c2_1 l97 => iter (exec C_law03_ordered Try.f73.ntmps M_geom_grid_covered F 0 (cL (cB (cS (cF (cS (cS (bo Try.f73)))))))) (M_geom_grid_covered 0) F 0 (st_geom_grid_covered_0 t1 t17 t18 c2_0 c2_1 l97) (k_geom_grid_covered_0 F Post)) = (n_geom_grid_covered_0 F (fun r0 => Post (.new .bools r0))) := by
    funext t1 t17 t18 c2_0 c2_1 l97
    exact nl_geom_grid_covered_0 F Post t1 t17 t18 c2_0 c2_1 l97
  rw [e0]
  rfl
def m_geom_grid_covered : Model UU
  | [.agg [.sl .int a0_x, .sl .int a0_y], .sl .rect a1] => some ([pre_geom_grid_covered a0_x a0_y a1], .new .bools (sp_geom_grid_covered a0_x a0_y a1))
  | _ => none
def C_geom_grid_covered : Cfg UU := C_law03_ordered.add 73 m_geom_grid_covered
theorem s_geom_grid_covered : SumOK C_geom_grid_covered := by
  refine s_law03_ordered.addD mixed (fn := Try.f73) (c := bo Try.f73) Try.func73 (by kernel_rfl) (by kernel_rfl) ?_
  intro xs cs r h hc
  unfold m_geom_grid_covered at h
  split at h
  · rename_i a0_x a0_y a1
    cases h
    obtain ⟨F, hF⟩ := ok_geom_grid_covered a0_x a0_y a1 hc
    refine ⟨by kernel_rfl, M_geom_grid_covered, F, true, ⟨?_⟩⟩
    rw [exec_geom_grid_covered]
    refine hF _ ?_
    rfl
  · cases h
end
end Go.Proofs.Ytohecfbnmmgimaa

namespace Go.Proofs.Ytohecfbnmmgimaa
open Go.Vm Go.RowKit
set_option linter.unusedVariables false
noncomputable section
def k_geom_newGrid_0 (F : Nat) (Post : AVal UU → Prop) : AEx → ASt UU → Prop := kBlock 0 (kSeq C_geom_grid_covered Try.f72.ntmps M_geom_newGrid F 0 (cS (cS (cS (bo Try.f72)))) (AEnds C_geom_grid_covered false Try.f72 Post))
def k_geom_newGrid_1 (F n r : Nat) (K : AEx → ASt UU → Prop) : AEx → ASt UU → Prop := kBlock 2 (kBlock 1 (kSeq C_geom_grid_covered Try.f72.ntmps M_geom_newGrid F 0 (cS (cS (cS (cL (cB (cS (cF (cS (cS (bo Try.f72)))))))))) (kIter (exec C_geom_grid_covered Try.f72.ntmps M_geom_newGrid F 0 (cL (cB (cS (cF (cS (cS (bo Try.f72)))))))) (M_geom_newGrid 0) n r K)))
set_option maxRecDepth 100000 in
theorem step_geom_newGrid_0 (F n r : Nat) (K : AEx → ASt UU → Prop) (t8 : List (List Rect)) (t9 : Int) (t10 : Int) (l55 : List Int) (l56 : List Int) : iter (exec C_geom_grid_covered Try.f72.ntmps M_geom_newGrid F 0 (cL (cB (cS (cF (cS (cS (bo Try.f72)))))))) (M_geom_newGrid 0) (n + 1) r (st_geom_newGrid_0 t8 t9 t10 l55 l56) K = g_geom_newGrid_s0 (fun t8 t9 t10 l55 l56 => iter (exec C_geom_grid_covered Try.f72.ntmps M_geom_newGrid F 0 (cL (cB (cS (cF (cS (cS (bo Try.f72)))))))) (M_geom_newGrid 0) n (r + 1) (st_geom_newGrid_0 t8 t9 t10 l55 l56) K) (fun t8 t9 t10 l55 l56 => K (.exit 0) (st_geom_newGrid_0 t8 t9 t10 l55 l56)) t8 t9 t10 l55 l56 (fun t8 t9 t10 t14 t15 t16 l55 l56 => iter (exec C_geom_grid_covered Try.f72.ntmps M_geom_newGrid F 2 (cL (cB (cS (cS (cB (cF (cS (cS (cL (cB (cS (cF (cS (cS (bo Try.f72)))))))))))))))) (M_geom_newGrid 2) F 0 (st_geom_newGrid_1 t8 t9 t10 t14 t15 t16 l55 l56) (k_geom_newGrid_1 F n r K)) := by kernel_rfl
set_option maxRecDepth 100000 in
theorem cont_geom_newGrid_0_0 (F : Nat) (Post : AVal UU → Prop) (t8 : List (List Rect)) (t9 : Int) (t10 : Int) (l55 : List Int) (l56 : List Int) : k_geom_newGrid_0 F Post (.exit 0) (st_geom_newGrid_0 t8 t9 t10 l55 l56) = g_geom_newGrid_c0_0 (fun r0_x r0_y => Post (.agg [.sl .int r0_x, .sl .int r0_y])) t8 t9 t10 l55 l56 := by kernel_rfl
set_option maxRecDepth 100000 in
theorem step_geom_newGrid_1 (F n r : Nat) (K : AEx → ASt UU → Prop) (t8 : List (List Rect)) (t9 : Int) (t10 : Int) (t14 : List Rect) (t15 : Int) (t16 : Int) (l55 : List Int) (l56 : List Int) : iter (exec C_geom_grid_covered Try.f72.ntmps M_geom_newGrid F 2 (cL (cB (cS (cS (cB (cF (cS (cS (cL (cB (cS (cF (cS (cS (bo Try.f72)))))))))))))))) (M_geom_newGrid 2) (n + 1) r (st_geom_newGrid_1 t8 t9 t10 t14 t15 t16 l55 l56) K = g_geom_newGrid_s1 (fun t8 t9 t10 t14 t15 t16 l55 l56 => iter (exec C_geom_grid_covered Try.f72.ntmps M_geom_newGrid F 2 (cL (cB (cS (cS (cB (cF (cS (cS (cL (cB (cS (cF (cS (cS (bo Try.f72)))))))))))))))) (M_geom_newGrid 2) n (r + 1) (st_geom_newGrid_1 t8 t9 t10 t14 t15 t16 l55 l56) K) (fun t8 t9 t10 t14 t15 t16 l55 l56 => K (.exit 2) (st_geom_newGrid_1 t8 t9 t10 t14 t15 t16 l55 l56)) t8 t9 t10 t14 t15 t16 l55 l56 := by kernel_rfl
set_option maxRecDepth 100000 in
theorem cont_geom_newGrid_1_0 (F n r : Nat) (K : AEx → ASt UU → Prop) (t8 : List (List Rect)) (t9 : Int) (t10 : Int) (t14 : List Rect) (t15 : Int) (t16 : Int) (l55 : List Int) (l56 : List Int) : k_geom_newGrid_1 F n r K (.exit 2) (st_geom_newGrid_1 t8 t9 t10 t14 t15 t16 l55 l56) = g_geom_newGrid_c1_0 (fun t8 t9 t10 l55 l56 => iter (exec C_geom_grid_covered Try.f72.ntmps M_geom_newGrid F 0 (cL (cB (cS (cF (cS (cS (bo Try.f72)))))))) (M_geom_newGrid 0) n (r + 1) (st_geom_newGrid_0 t8 t9 t10 l55 l56) K) (fun t8 t9 t10 l55 l56 => K (.exit 0) (st_geom_newGrid_0 t8 t9 t10 l55 l56)) t8 t9 t10 t14 t15 t16 l55 l56 := by kernel_rfl
set_option maxRecDepth 100000 in
theorem entry_geom_newGrid (F : Nat) (Post : AVal UU → Prop) (a0 : List (List Rect)) : exec C_geom_grid_covered Try.f72.ntmps M_geom_newGrid F 0 (bo Try.f72) (initSt [.sl .rects a0]) (AEnds C_geom_grid_covered false Try.f72 Post) = g_geom_newGrid_e a0 (fun r0_x r0_y => Post (.agg [.sl .int r0_x, .sl .int r0_y])) (fun t8 t9 t10 l55 l56 => iter (exec C_geom_grid_covered Try.f72.ntmps M_geom_newGrid F 0 (cL (cB (cS (cF (cS (cS (bo Try.f72)))))))) (M_geom_newGrid 0) F 0 (st_geom_newGrid_0 t8 t9 t10 l55 l56) (k_geom_newGrid_0 F Post)) := by kernel_rfl
theorem loop_geom_newGrid_1 (F : Nat) (K : AEx → ASt UU → Prop) : ∀ (n r : Nat) (t8 : List (List Rect)) (t9 : Int) (t10 : Int) (t14 : List Rect) (t15 : Int) (t16 : Int) (l55 : List Int) (l56 : List Int), iter (exec C_geom_grid_covered Try.f72.ntmps M_geom_newGrid F 2 (cL (cB (cS (cS (cB (cF (cS (cS (cL (cB (cS (cF (cS (cS (bo Try.f72)))))))))))))))) (M_geom_newGrid 2) n r (st_geom_newGrid_1 t8 t9 t10 t14 t15 t16 l55 l56) K = w_geom_newGrid_1 F  (fun t8 t9 t10 t14 t15 t16 l55 l56 => K (.exit 2) (st_geom_newGrid_1 t8 t9 t10 t14 t15 t16 l55 l56)) n t8 t9 t10 t14 t15 t16 l55 l56 := by
  intro n
  induction n with
  | zero => intros; rfl
  | succ n ih =>
    intro r t8 t9 t10 t14 t15 t16 l55 l56
    have e : (fun t8 t9 t10 t14 t15 t16 l55 l56 => iter (exec C_geom_grid_covered Try.f72.ntmps M_geom_newGrid F 2 (cL (cB (cS (cS (cB (cF (cS (cS (cL (cB (cS (cF (cS (cS (bo Try.f72)))))))))))))))) (M_geom_newGrid 2) n (r + 1) (st_geom_newGrid_1 t8 t9 t10 t14 t15 t16 l55 l56) K) = w_geom_newGrid_1 F  (fun t8 t9 t10 t14 t15 t16 l55 l56 => K (.exit 2) (st_geom_newGrid_1 t8 t9 t10 t14 t15 t16 l55 l56)) n := by
      funext t8 t9 t10 t14 t15 t16 l55 l56
      exact ih (r + 1) t8 t9 t10 t14 t15 t16 l55 l56
    rw [step_geom_newGrid_1, e]
    rfl
theorem nl_geom_newGrid_1 (F n r : Nat) (K : AEx → ASt UU → Prop) (t8 : List (List Rect)) (t9 : Int) (t10 : Int) (t14 : List Rect) (t15 : Int) (t16 : Int) (l55 : List Int) (l56 : List Int) : iter (exec C_geom_grid_covered Try.f72.ntmps M_geom_newGrid F 2 (cL (cB (cS (cS (cB (cF (cS (cS (cL (cB (cS (cF (cS (cS (bo Try.f72)))))))))))))))) (M_geom_newGrid 2) F 0 (st_geom_newGrid_1 t8 t9 t10 t14 t15 t16 l55 l56) (k_geom_newGrid_1 F n r K) = n_geom_newGrid_1 F (fun t8 t9 t10 l55 l56 => iter (exec C_geom_grid_covered Try.f72.ntmps M_geom_newGrid F 0 (cL (cB (cS (cF (cS (cS (bo Try.f72)))))))) (M_geom_newGrid 0) n (r + 1) (st_geom_newGrid_0 t8 t9 t10 l55 l56) K) (fun t8 t9 t10 l55 l56 => K (.exit 0) (st_geom_newGrid_0 t8 t9 t10 l55 l56)) t8 t9 t10 t14 t15 t16 l55 l56 := by
  rw [loop_geom_newGrid_1]
  have h0 : (fun t8 t9 t10 t14 t15 t16 l55 l56 => k_geom_newGrid_1 F n r K (.exit 2) (st_geom_newGrid_1 t8 t9 t10 t14 t15 t16 l55 l56)) = (fun t8 t9 t10 t14 t15 t16 l55 l56 => g_geom_newGrid_c1_0 (fun t8 t9 t10 l55 l56 => iter (exec C_geom_grid_covered Try.f72.ntmps M_geom_newGrid F 0 (cL (cB (cS (cF (cS (cS (bo Try.f72)))))))) (M_geom_newGrid 0) n (r + 1) (st_geom_newGrid_0 t8 t9 t10 l55 l56) K) (fun t8 t9 t10 l55 l56 => K (.exit 0) (st_geom_newGrid_0 t8 t9 t10 l55 l56)) t8 t9 t10 t14 t15 t16 l55 l56) := by
    funext t8 t9 t10 t14 t15 t16 l55 l56
    rw [cont_geom_newGrid_1_0]
  rw [h0]
  rfl
theorem loop_geom_newGrid_0 (F : Nat) (K : AEx → ASt UU → Prop) : ∀ (n r : Nat) (t8 : List (List Rect)) (t9 : Int) (t10 : Int) (l55 : List Int) (l56 : List Int), iter (exec C_geom_grid_covered Try.f72.ntmps M_geom_newGrid F 0 (cL (cB (cS (cF (cS (cS (bo Try.f72)))))))) (M_geom_newGrid 0) n r (st_geom_newGrid_0 t8 t9 t10 l55 l56) K = w_geom_newGrid_0 F  (fun t8 t9 t10 l55 l56 => K (.exit 0) (st_geom_newGrid_0 t8 t9 t10 l55 l56)) n t8 t9 t10 l55 l56 := by
  intro n
  induction n with
  | zero => intros; rfl
  | succ n ih =>
    intro r t8 t9 t10 l55 l56
    have e : (fun t8 t9 t10 l55 l56 => iter (exec C_geom_grid_covered Try.f72.ntmps M_geom_newGrid F 0 (cL (cB (cS (cF (cS (cS (bo Try.f72)))))))) (M_geom_newGrid 0) n (r + 1) (st_geom_newGrid_0 t8 t9 t10 l55 l56) K) = w_geom_newGrid_0 F  (fun t8 t9 t10 l55 l56 => K (.exit 0) (st_geom_newGrid_0 t8 t9 t10 l55 l56)) n := by
      funext t8 t9 t10 l55 l56
      exact ih (r + 1) t8 t9 t10 l55 l56
    have e1 : (fun t8 t9 t10 t14 t15 t16 l55 l56 => iter (exec C_geom_grid_covered Try.f72.ntmps M_geom_newGrid F 2 (cL (cB (cS (cS (cB (cF (cS (cS (cL (cB (cS (cF (cS (cS (bo Try.f72)))))))))))))))) (M_geom_newGrid 2) F 0 (st_geom_newGrid_1 t8 t9 t10 t14 t15 t16 l55 l56) (k_geom_newGrid_1 F n r K)) = (n_geom_newGrid_1 F (fun t8 t9 t10 l55 l56 => iter (exec C_geom_grid_covered Try.f72.ntmps M_geom_newGrid F 0 (cL (cB (cS (cF (cS (cS (bo Try.f72)))))))) (M_geom_newGrid 0) n (r + 1) (st_geom_newGrid_0 t8 t9 t10 l55 l56) K) (fun t8 t9 t10 l55 l56 => K (.exit 0) (st_geom_newGrid_0 t8 t9 t10 l55 l56))) := by
      funext t8 t9 t10 t14 t15 t16 l55 l56
      exact nl_geom_newGrid_1 F n r K t8 t9 t10 t14 t15 t16 l55 l56
    rw [step_geom_newGrid_0, e1, e]
    rfl
theorem nl_geom_newGrid_0 (F : Nat) (Post : AVal UU → Prop) (t8 : List (List Rect)) (t9 : Int) (t10 : Int) (l55 : List Int) (l56 : List Int) : iter (exec C_geom_grid_covered Try.f72.ntmps M_geom_newGrid F 0 (cL (cB (cS (cF (cS (cS (bo Try.f72)))))))) (M_geom_newGrid 0) F 0 (st_geom_newGrid_0 t8 t9 t10 l55 l56) (k_geom_newGrid_0 F Post) = n_geom_newGrid_0 F (fun r0_x r0_y => Post (.agg [.sl .int r0_x, .sl .int r0_y])) t8 t9 t10 l55 l56 := by
  rw [loop_geom_newGrid_0]
  have h0 : (fun t8 t9 t10 l55 l56 => k_geom_newGrid_0 F Post (.exit 0) (st_geom_newGrid_0 t8 t9 t10 l55 l56)) = (fun t8 t9 t10 l55 l56 => g_geom_newGrid_c0_0 (fun r0_x r0_y => Post (.agg [.sl .int r0_x, .sl .int r0_y])) t8 t9 t10 l55 l56) := by
    funext t8 t9 t10 l55 l56
    rw [cont_geom_newGrid_0_0]
  rw [h0]
  rfl
theorem exec_geom_newGrid (F : Nat) (Post : AVal UU → Prop) (a0 : List (List Rect)) : exec C_geom_grid_covered Try.f72.ntmps M_geom_newGrid F 0 (bo Try.f72) (initSt [.sl .rects a0]) (AEnds C_geom_grid_covered false Try.f72 Post) = w_geom_newGrid F a0 (fun r0_x r0_y => Post (.agg [.sl .int r0_x, .sl .int r0_y])) := by
  rw [entry_geom_newGrid]
  have e0 : (fun t8 t9 t10 l55 l56 => iter (exec C_geom_grid_covered Try.f72.ntmps M_geom_newGrid F 0 (cL (cB (cS (cF (cS (cS (bo Try.f72)))))))) (M_geom_newGrid 0) F 0 (st_geom_newGrid_0 t8 t9 t10 l55 l56) (k_geom_newGrid_0 F Post)) = (n_geom_newGrid_0 F (fun r0_x r0_y => Post (.agg [.sl .int r0_x, .sl .int r0_y]))) := by
    funext t8 t9 t10 l55 l56
    exact nl_geom_newGrid_0 F Post t8 t9 t10 l55 l56
  rw [e0]
  rfl
def m_geom_newGrid : Model UU
  | [.sl .rects a0] => some ([pre_geom_newGrid a0], .agg [.sl .int ((sp_geom_newGrid a0).1), .sl .int ((sp_geom_newGrid a0).2)])
  | _ => none
def C_geom_newGrid : Cfg UU := C_geom_grid_covered.add 72 m_geom_newGrid
theorem s_geom_newGrid : SumOK C_geom_newGrid := by
  refine s_geom_grid_covered.addD mixed (fn := Try.f72) (c := bo Try.f72) Try.func72 (by kernel_rfl) (by kernel_rfl) ?_
  intro xs cs r h hc
  unfold m_geom_newGrid at h
  split at h
  · rename_i a0
    cases h
    obtain ⟨F, hF⟩ := ok_geom_newGrid a0 hc
    refine ⟨by kernel_rfl, M_geom_newGrid, F, false, ⟨?_⟩⟩
    rw [exec_geom_newGrid]
    refine hF _ ?_
    rfl
  · cases h
def k_flat_width_0 (F : Nat) (Post : AVal UU → Prop) : AEx → ASt UU → Prop := kBlock 0 (kSeq C_geom_newGrid Try.f87.ntmps M_flat_width F 0 (cS (cS (cS (bo Try.f87)))) (AEnds C_geom_newGrid false Try.f87 Post))
def k_flat_width_1 (F : Nat) (Post : AVal UU → Prop) : AEx → ASt UU → Prop := kBlock 2 (kSeq C_geom_newGrid Try.f87.ntmps M_flat_width F 0 (cS (cS (cS (cS (cS (bo Try.f87)))))) (AEnds C_geom_newGrid false Try.f87 Post))
def k_flat_width_2 (F n r : Nat) (K : AEx → ASt UU → Prop) : AEx → ASt UU → Prop := kBlock 4 (kBlock 3 (kSeq C_geom_newGrid Try.f87.ntmps M_flat_width F 2 (cS (cS (cL (cB (cS (cF (cS (cS (cS (cS (bo Try.f87))))))))))) (kIter (exec C_geom_newGrid Try.f87.ntmps M_flat_width F 2 (cL (cB (cS (cF (cS (cS (cS (cS (bo Try.f87)))))))))) (M_flat_width 2) n r K)))
set_option maxRecDepth 100000 in
theorem step_flat_width_0 (F n r : Nat) (K : AEx → ASt UU → Prop) (t0 : List Rect) (t1 : Int) (t5 : List Int) (t12 : List Rect) (t13 : Int) (t14 : Int) : iter (exec C_geom_newGrid Try.f87.ntmps M_flat_width F 0 (cL (cB (cS (cF (cS (cS (bo Try.f87)))))))) (M_flat_width 0) (n + 1) r (st_flat_width_0 t0 t1 t5 t12 t13 t14) K = g_flat_width_s0 (fun t0 t1 t5 t12 t13 t14 => iter (exec C_geom_newGrid Try.f87.ntmps M_flat_width F 0 (cL (cB (cS (cF (cS (cS (bo Try.f87)))))))) (M_flat_width 0) n (r + 1) (st_flat_width_0 t0 t1 t5 t12 t13 t14) K) (fun t0 t1 t5 t12 t13 t14 => K (.exit 0) (st_flat_width_0 t0 t1 t5 t12 t13 t14)) t0 t1 t5 t12 t13 t14 := by kernel_rfl
set_option maxRecDepth 100000 in
theorem cont_flat_width_0_0 (F : Nat) (Post : AVal UU → Prop) (t0 : List Rect) (t1 : Int) (t5 : List Int) (t12 : List Rect) (t13 : Int) (t14 : Int) : k_flat_width_0 F Post (.exit 0) (st_flat_width_0 t0 t1 t5 t12 t13 t14) = g_flat_width_c0_0 (fun r0 => Post (.int .i64 r0)) t0 t1 t5 t12 t13 t14 (fun t0 t1 t5 t8 t9 => iter (exec C_geom_newGrid Try.f87.ntmps M_flat_width F 2 (cL (cB (cS (cF (cS (cS (cS (cS (bo Try.f87)))))))))) (M_flat_width 2) F 0 (st_flat_width_1 t0 t1 t5 t8 t9) (k_flat_width_1 F Post)) := by kernel_rfl
set_option maxRecDepth 100000 in
theorem step_flat_width_1 (F n r : Nat) (K : AEx → ASt UU → Prop) (t0 : List Rect) (t1 : Int) (t5 : List Int) (t8 : Int) (t9 : Int) : iter (exec C_geom_newGrid Try.f87.ntmps M_flat_width F 2 (cL (cB (cS (cF (cS (cS (cS (cS (bo Try.f87)))))))))) (M_flat_width 2) (n + 1) r (st_flat_width_1 t0 t1 t5 t8 t9) K = g_flat_width_s1 (fun t0 t1 t5 t8 t9 => iter (exec C_geom_newGrid Try.f87.ntmps M_flat_width F 2 (cL (cB (cS (cF (cS (cS (cS (cS (bo Try.f87)))))))))) (M_flat_width 2) n (r + 1) (st_flat_width_1 t0 t1 t5 t8 t9) K) (fun t0 t1 t5 t8 t9 => K (.exit 2) (st_flat_width_1 t0 t1 t5 t8 t9)) t0 t1 t5 t8 t9 (fun t0 t1 t5 t8 t9 t48 t49 t50 => iter (exec C_geom_newGrid Try.f87.ntmps M_flat_width F 4 (cL (cB (cS (cB (cF (cS (cL (cB (cS (cF (cS (cS (cS (cS (bo Try.f87)))))))))))))))) (M_flat_width 4) F 0 (st_flat_width_2 t0 t1 t5 t8 t9 t48 t49 t50) (k_flat_width_2 F n r K)) := by kernel_rfl
set_option maxRecDepth 100000 in
theorem cont_flat_width_1_0 (F : Nat) (Post : AVal UU → Prop) (t0 : List Rect) (t1 : Int) (t5 : List Int) (t8 : Int) (t9 : Int) : k_flat_width_1 F Post (.exit 2) (st_flat_width_1 t0 t1 t5 t8 t9) = g_flat_width_c1_0 (fun r0 => Post (.int .i64 r0)) t0 t1 t5 t8 t9 := by kernel_rfl
set_option maxRecDepth 100000 in
theorem step_flat_width_2 (F n r : Nat) (K : AEx → ASt UU → Prop) (t0 : List Rect) (t1 : Int) (t5 : List Int) (t8 : Int) (t9 : Int) (t48 : List Rect) (t49 : Int) (t50 : Int) : iter (exec C_geom_newGrid Try.f87.ntmps M_flat_width F 4 (cL (cB (cS (cB (cF (cS (cL (cB (cS (cF (cS (cS (cS (cS (bo Try.f87)))))))))))))))) (M_flat_width 4) (n + 1) r (st_flat_width_2 t0 t1 t5 t8 t9 t48 t49 t50) K = g_flat_width_s2 (fun t0 t1 t5 t8 t9 t48 t49 t50 => iter (exec C_geom_newGrid Try.f87.ntmps M_flat_width F 4 (cL (cB (cS (cB (cF (cS (cL (cB (cS (cF (cS (cS (cS (cS (bo Try.f87)))))))))))))))) (M_flat_width 4) n (r + 1) (st_flat_width_2 t0 t1 t5 t8 t9 t48 t49 t50) K) (fun t0 t1 t5 t8 t9 t48 t49 t50 => K (.exit 4) (st_flat_width_2 t0 t1 t5 t8 t9 t48 t49 t50)) t0 t1 t5 t8 t9 t48 t49 t50 := by kernel_rfl
set_option maxRecDepth 100000 in
theorem cont_flat_width_2_0 (F n r : Nat) (K : AEx → ASt UU → Prop) (t0 : List Rect) (t1 : Int) (t5 : List Int) (t8 : Int) (t9 : Int) (t48 : List Rect) (t49 : Int) (t50 : Int) : k_flat_width_2 F n r K (.exit 4) (st_flat_width_2 t0 t1 t5 t8 t9 t48 t49 t50) = g_flat_width_c2_0 (fun t0 t1 t5 t8 t9 => iter (exec C_geom_newGrid Try.f87.ntmps M_flat_width F 2 (cL (cB (cS (cF (cS (cS (cS (cS (bo Try.f87)))))))))) (M_flat_width 2) n (r + 1) (st_flat_width_1 t0 t1 t5 t8 t9) K) (fun t0 t1 t5 t8 t9 => K (.exit 2) (st_flat_width_1 t0 t1 t5 t8 t9)) t0 t1 t5 t8 t9 t48 t49 t50 := by kernel_rfl
set_option maxRecDepth 100000 in
theorem entry_flat_width (F : Nat) (Post : AVal UU → Prop) (a0 : List Rect) (a1 : Int) : exec C_geom_newGrid Try.f87.ntmps M_flat_width F 0 (bo Try.f87) (initSt [.sl .rect a0, .int .i64 a1]) (AEnds C_geom_newGrid false Try.f87 Post) = g_flat_width_e a0 a1 (fun r0 => Post (.int .i64 r0)) (fun t0 t1 t5 t12 t13 t14 => iter (exec C_geom_newGrid Try.f87.ntmps M_flat_width F 0 (cL (cB (cS (cF (cS (cS (bo Try.f87)))))))) (M_flat_width 0) F 0 (st_flat_width_0 t0 t1 t5 t12 t13 t14) (k_flat_width_0 F Post)) := by kernel_rfl
theorem loop_flat_width_2 (F : Nat) (K : AEx → ASt UU → Prop) : ∀ (n r : Nat) (t0 : List Rect) (t1 : Int) (t5 : List Int) (t8 : Int) (t9 : Int) (t48 : List Rect) (t49 : Int) (t50 : Int), iter (exec C_geom_newGrid Try.f87.ntmps M_flat_width F 4 (cL (cB (cS (cB (cF (cS (cL (cB (cS (cF (cS (cS (cS (cS (bo Try.f87)))))))))))))))) (M_flat_width 4) n r (st_flat_width_2 t0 t1 t5 t8 t9 t48 t49 t50) K = w_flat_width_2 F  (fun t0 t1 t5 t8 t9 t48 t49 t50 => K (.exit 4) (st_flat_width_2 t0 t1 t5 t8 t9 t48 t49 t50)) n t0 t1 t5 t8 t9 t48 t49 t50 := by
  intro n
  induction n with
  | zero => intros; rfl
  | succ n ih =>
    intro r t0 t1 t5 t8 t9 t48 t49 t50
    have e : (fun t0 t1 t5 t8 t9 t48 t49 t50 => iter (exec C_geom_newGrid Try.f87.ntmps M_flat_width F 4 (cL (cB (cS (cB (cF (cS (cL (cB (cS (cF (cS (cS (cS (cS (bo Try.f87)))))))))))))))) (M_flat_width 4) n (r + 1) (st_flat_width_2 t0 t1 t5 t8 t9 t48 t49 t50) K) = w_flat_width_2 F  (fun t0 t1 t5 t8 t9 t48 t49 t50 => K (.exit 4) (st_flat_width_2 t0 t1 t5 t8 t9 t48 t49 t50)) n := by
      funext t0 t1 t5 t8 t9 t48 t49 t50
      exact ih (r + 1) t0 t1 t5 t8 t9 t48 t49 t50
    rw [step_flat_width_2, e]
    rfl
theorem nl_flat_width_2 (F n r : Nat) (K : AEx → ASt UU → Prop) (t0 : List Rect) (t1 : Int) (t5 : List Int) (t8 : Int) (t9 : Int) (t48 : List Rect) (t49 : Int) (t50 : Int) : iter (exec C_geom_newGrid Try.f87.ntmps M_flat_width F 4 (cL (cB (cS (cB (cF (cS (cL (cB (cS (cF (cS (cS (cS (cS (bo Try.f87)))))))))))))))) (M_flat_width 4) F 0 (st_flat_width_2 t0 t1 t5 t8 t9 t48 t49 t50) (k_flat_width_2 F n r K) = n_flat_width_2 F (fun t0 t1 t5 t8 t9 => iter (exec C_geom_newGrid Try.f87.ntmps M_flat_width F 2 (cL (cB (cS (cF (cS (cS (cS (cS (bo Try.f87)))))))))) (M_flat_width 2) n (r + 1) (st_flat_width_1 t0 t1 t5 t8 t9) K) (fun t0 t1 t5 t8 t9 => K (.exit 2) (st_flat_width_1 t0 t1 t5 t8 t9)) t0 t1 t5 t8 t9 t48 t49 t50 := by
  rw [loop_flat_width_2]
  have h0 : (fun t0 t1 t5 t8 t9 t48 t49 t50 => k_flat_width_2 F n r K (.exit 4) (st_flat_width_2 t0 t1 t5 t8 t9 t48 t49 t50)) = (fun t0 t1 t5 t8 t9 t48 t49 t50 => g_flat_width_c2_0 (fun t0 t1 t5 t8 t9 => iter (exec C_geom_newGrid Try.f87.ntmps M_flat_width F 2 (cL (cB (cS (cF (cS (cS (cS (cS (bo Try.f87)))))))))) (M_flat_width 2) n (r + 1) (st_flat_width_1 t0 t1 t5 t8 t9) K) (fun t0 t1 t5 t8 t9 => K (.exit 2) (st_flat_width_1 t0 t1 t5 t8 t9)) t0 t1 t5 t8 t9 t48 t49 t50) := by
    funext t0 t1 t5 t8 t9 t48 t49 t50
    rw [cont_flat_width_2_0]
  rw [h0]
  rfl
theorem loop_flat_width_1 (F : Nat) (K : AEx → ASt UU → Prop) : ∀ (n r : Nat) (t0 : List Rect) (t1 : Int) (t5 : List Int) (t8 : Int) (t9 : Int), iter (exec C_geom_newGrid Try.f87.ntmps M_flat_width F 2 (cL (cB (cS (cF (cS (cS (cS (cS (bo Try.f87)))))))))) (M_flat_width 2) n r (st_flat_width_1 t0 t1 t5 t8 t9) K = w_flat_width_1 F  (fun t0 t1 t5 t8 t9 => K (.exit 2) (st_flat_width_1 t0 t1 t5 t8 t9)) n t0 t1 t5 t8 t9 := by
  intro n
  induction n with
  | zero => intros; rfl
  | succ n ih =>
    intro r t0 t1 t5 t8 t9
    have e : (fun t0 t1 t5 t8 t9 => iter (exec C_geom_newGrid Try.f87.ntmps M_flat_width F 2 (cL (cB (cS (cF (cS (cS (cS (cS (bo Try.f87)))))))))) (M_flat_width 2) n (r + 1) (st_flat_width_1 t0 t1 t5 t8 t9) K) = w_flat_width_1 F  (fun t0 t1 t5 t8 t9 => K (.exit 2) (st_flat_width_1 t0 t1 t5 t8 t9)) n := by
      funext t0 t1 t5 t8 t9
      exact ih (r + 1) t0 t1 t5 t8 t9
    have e2 : (fun t0 t1 t5 t8 t9 t48 t49 t50 => iter (exec C_geom_newGrid Try.f87.ntmps M_flat_width F 4 (cL (cB (cS (cB (cF (cS (cL (cB (cS (cF (cS (cS (cS (cS (bo Try.f87)))))))))))))))) (M_flat_width 4) F 0 (st_flat_width_2 t0 t1 t5 t8 t9 t48 t49 t50) (k_flat_width_2 F n r K)) = (n_flat_width_2 F (fun t0 t1 t5 t8 t9 => iter (exec C_geom_newGrid Try.f87.ntmps M_flat_width F 2 (cL (cB (cS (cF (cS (cS (cS (cS (bo Try.f87)))))))))) (M_flat_width 2) n (r + 1) (st_flat_width_1 t0 t1 t5 t8 t9) K) (fun t0 t1 t5 t8 t9 => K (.exit 2) (st_flat_width_1 t0 t1 t5 t8 t9))) := by
      funext t0 t1 t5 t8 t9 t48 t49 t50
      exact nl_flat_width_2 F n r K t0 t1 t5 t8 t9 t48 t49 t50
    rw [step_flat_width_1, e2, e]
    rfl
theorem nl_flat_width_1 (F : Nat) (Post : AVal UU → Prop) (t0 : List Rect) (t1 : Int) (t5 : List Int) (t8 : Int) (t9 : Int) : iter (exec C_geom_newGrid Try.f87.ntmps M_flat_width F 2 (cL (cB (cS (cF (cS (cS (cS (cS (bo Try.f87)))))))))) (M_flat_width 2) F 0 (st_flat_width_1 t0 t1 t5 t8 t9) (k_flat_width_1 F Post) = n_flat_width_1 F (fun r0 => Post (.int .i64 r0)) t0 t1 t5 t8 t9 := by
  rw [loop_flat_width_1]
  have h0 : (fun t0 t1 t5 t8 t9 => k_flat_width_1 F Post (.exit 2) (st_flat_width_1 t0 t1 t5 t8 t9)) = (fun t0 t1 t5 t8 t9 => g_flat_width_c1_0 (fun r0 => Post (.int .i64 r0)) t0 t1 t5 t8 t9) := by
    funext t0 t1 t5 t8 t9
    rw [cont_flat_width_1_0]
  rw [h0]
  rfl
theorem loop_flat_width_0 (F : Nat) (K : AEx → ASt UU → Prop) : ∀ (n r : Nat) (t0 : List Rect) (t1 : Int) (t5 : List Int) (t12 : List Rect) (t13 : Int) (t14 : Int), iter (exec C_geom_newGrid Try.f87.ntmps M_flat_width F 0 (cL (cB (cS (cF (cS (cS (bo Try.f87)))))))) (M_flat_width 0) n r (st_flat_width_0 t0 t1 t5 t12 t13 t14) K = w_flat_width_0 F  (fun t0 t1 t5 t12 t13 t14 => K (.exit 0) (st_flat_width_0 t0 t1 t5 t12 t13 t14)) n t0 t1 t5 t12 t13 t14 := by
  intro n
  induction n with
  | zero => intros; rfl
  | succ n ih =>
    intro r t0 t1 t5 t12 t13 t14
    have e : (fun t0 t1 t5 t12 t13 t14 => iter (exec C_geom_newGrid Try.f87.ntmps M_flat_width F 0 (cL (cB (cS (cF (cS (cS (bo Try.f87)))))))) (M_flat_width 0) n (r + 1) (st_flat_width_0 t0 t1 t5 t12 t13 t14) K) = w_flat_width_0 F  (fun t0 t1 t5 t12 t13 t14 => K (.exit 0) (st_flat_width_0 t0 t1 t5 t12 t13 t14)) n := by
      funext t0 t1 t5 t12 t13 t14
      exact ih (r + 1) t0 t1 t5 t12 t13 t14
    rw [step_flat_width_0, e]
    rfl
theorem nl_flat_width_0 (F : Nat) (Post : AVal UU → Prop) (t0 : List Rect) (t1 : Int) (t5 : List Int) (t12 : List Rect) (t13 : Int) (t14 : Int) : iter (exec C_geom_newGrid Try.f87.ntmps M_flat_width F 0 (cL (cB (cS (cF (cS (cS (bo Try.f87)))))))) (M_flat_width 0) F 0 (st_flat_width_0 t0 t1 t5 t12 t13 t14) (k_flat_width_0 F Post) = n_flat_width_0 F (fun r0 => Post (.int .i64 r0)) t0 t1 t5 t12 t13 t14 := by
  rw [loop_flat_width_0]
  have e1 : (fun t0 t1 t5 t8 t9 => iter (exec C_geom_newGrid Try.f87.ntmps M_flat_width F 2 (cL (cB (cS (cF (cS (cS (cS (cS (bo Try.f87)))))))))) (M_flat_width 2) F 0 (st_flat_width_1 t0 t1 t5 t8 t9) (k_flat_width_1 F Post)) = (n_flat_width_1 F (fun r0 => Post (.int .i64 r0))) := by
    funext t0 t1 t5 t8 t9
    exact nl_flat_width_1 F Post t0 t1 t5 t8 t9
  have h0 : (fun t0 t1 t5 t12 t13 t14 => k_flat_width_0 F Post (.exit 0) (st_flat_width_0 t0 t1 t5 t12 t13 t14)) = (fun t0 t1 t5 t12 t13 t14 => g_flat_width_c0_0 (fun r0 => Post (.int .i64 r0)) t0 t1 t5 t12 t13 t14 (n_flat_width_1 F (fun r0 => Post (.int .i64 r0)))) := by
    funext t0 t1 t5 t12 t13 t14
    rw [cont_flat_width_0_0, e1]
  rw [h0]
  rfl
theorem exec_flat_width (F : Nat) (Post : AVal UU → Prop) (a0 : List Rect) (a1 : Int) : exec C_geom_newGrid Try.f87.ntmps M_flat_width F 0 (bo Try.f87) (initSt [.sl .rect a0, .int .i64 a1]) (AEnds C_geom_newGrid false Try.f87 Post) = w_flat_width F a0 a1 (fun r0 => Post (.int .i64 r0)) := by
  rw [entry_flat_width]
  have e0 : (fun t0 t1 t5 t12 t13 t14 => iter (exec C_geom_newGrid Try.f87.ntmps M_flat_width F 0 (cL (cB (cS (cF (cS (cS (bo Try.f87)))))))) (M_flat_width 0) F 0 (st_flat_width_0 t0 t1 t5 t12 t13 t14) (k_flat_width_0 F Post)) = (n_flat_width_0 F (fun r0 => Post (.int .i64 r0))) := by
    funext t0 t1 t5 t12 t13 t14
    exact nl_flat_width_0 F Post t0 t1 t5 t12 t13 t14
  rw [e0]
  rfl
def m_flat_width : Model UU
  | [.sl .rect a0, .int .i64 a1] => some ([pre_flat_width a0 a1], .int .i64 (sp_flat_width a0 a1))
  | _ => none
def C_flat_width : Cfg UU := C_geom_newGrid.add 87 m_flat_width
theorem s_flat_width : SumOK C_flat_width := by
  refine s_geom_newGrid.addD mixed (fn := Try.f87) (c := bo Try.f87) Try.func87 (by kernel_rfl) (by kernel_rfl) ?_
  intro xs cs r h hc
  unfold m_flat_width at h
  split at h
  · rename_i a0 a1
    cases h
    obtain ⟨F, hF⟩ := ok_flat_width a0 a1 hc
    refine ⟨by kernel_rfl, M_flat_width, F, false, ⟨?_⟩⟩
    rw [exec_flat_width]
    refine hF _ ?_
    rfl
  · cases h
end
end Go.Proofs.Ytohecfbnmmgimaa

namespace Go.Proofs.Ytohecfbnmmgimaa
open Go.Vm Go.RowKit
set_option linter.unusedVariables false
noncomputable section
def k_geom_Area_0 (F : Nat) (Post : AVal UU → Prop) : AEx → ASt UU → Prop := kBlock 0 (kSeq C_flat_width Try.f48.ntmps M_geom_Area F 0 (cS (cS (cS (cS (cS (bo Try.f48)))))) (AEnds C_flat_width false Try.f48 Post))
def k_geom_Area_1 (F n r : Nat) (K : AEx → ASt UU → Prop) : AEx → ASt UU → Prop := kBlock 2 (kBlock 1 (kSeq C_flat_width Try.f48.ntmps M_geom_Area F 0 (cS (cS (cS (cL (cB (cS (cF (cS (cS (cS (cS (bo Try.f48)))))))))))) (kIter (exec C_flat_width Try.f48.ntmps M_geom_Area F 0 (cL (cB (cS (cF (cS (cS (cS (cS (bo Try.f48)))))))))) (M_geom_Area 0) n r K)))
set_option maxRecDepth 100000 in
theorem step_geom_Area_0 (F n r : Nat) (K : AEx → ASt UU → Prop) (t6 : Int) (t23 : Int) (t24 : Int) (c5_0 : List Int) (c5_1 : List Int) (l67 : List (List Bool)) : iter (exec C_flat_width Try.f48.ntmps M_geom_Area F 0 (cL (cB (cS (cF (cS (cS (cS (cS (bo Try.f48)))))))))) (M_geom_Area 0) (n + 1) r (st_geom_Area_0 t6 t23 t24 c5_0 c5_1 l67) K = g_geom_Area_s0 (fun t6 t23 t24 c5_0 c5_1 l67 => iter (exec C_flat_width Try.f48.ntmps M_geom_Area F 0 (cL (cB (cS (cF (cS (cS (cS (cS (bo Try.f48)))))))))) (M_geom_Area 0) n (r + 1) (st_geom_Area_0 t6 t23 t24 c5_0 c5_1 l67) K) (fun t6 t23 t24 c5_0 c5_1 l67 => K (.exit 0) (st_geom_Area_0 t6 t23 t24 c5_0 c5_1 l67)) t6 t23 t24 c5_0 c5_1 l67 (fun t6 t7 t23 t24 t29 t30 t31 c5_0 c5_1 l67 => iter (exec C_flat_width Try.f48.ntmps M_geom_Area F 2 (cL (cB (cS (cS (cB (cF (cS (cS (cL (cB (cS (cF (cS (cS (cS (cS (bo Try.f48)))))))))))))))))) (M_geom_Area 2) F 0 (st_geom_Area_1 t6 t7 t23 t24 t29 t30 t31 c5_0 c5_1 l67) (k_geom_Area_1 F n r K)) := by kernel_rfl
set_option maxRecDepth 100000 in
theorem cont_geom_Area_0_0 (F : Nat) (Post : AVal UU → Prop) (t6 : Int) (t23 : Int) (t24 : Int) (c5_0 : List Int) (c5_1 : List Int) (l67 : List (List Bool)) : k_geom_Area_0 F Post (.exit 0) (st_geom_Area_0 t6 t23 t24 c5_0 c5_1 l67) = g_geom_Area_c0_0 (fun r0 r1 => Post (.tup [.int .i64 r0, .int .i64 r1])) t6 t23 t24 c5_0 c5_1 l67 := by kernel_rfl
set_option maxRecDepth 100000 in
theorem step_geom_Area_1 (F n r : Nat) (K : AEx → ASt UU → Prop) (t6 : Int) (t7 : Int) (t23 : Int) (t24 : Int) (t29 : List Bool) (t30 : Int) (t31 : Int) (c5_0 : List Int) (c5_1 : List Int) (l67 : List (List Bool)) : iter (exec C_flat_width Try.f48.ntmps M_geom_Area F 2 (cL (cB (cS (cS (cB (cF (cS (cS (cL (cB (cS (cF (cS (cS (cS (cS (bo Try.f48)))))))))))))))))) (M_geom_Area 2) (n + 1) r (st_geom_Area_1 t6 t7 t23 t24 t29 t30 t31 c5_0 c5_1 l67) K = g_geom_Area_s1 (fun t6 t7 t23 t24 t29 t30 t31 c5_0 c5_1 l67 => iter (exec C_flat_width Try.f48.ntmps M_geom_Area F 2 (cL (cB (cS (cS (cB (cF (cS (cS (cL (cB (cS (cF (cS (cS (cS (cS (bo Try.f48)))))))))))))))))) (M_geom_Area 2) n (r + 1) (st_geom_Area_1 t6 t7 t23 t24 t29 t30 t31 c5_0 c5_1 l67) K) (fun t6 t7 t23 t24 t29 t30 t31 c5_0 c5_1 l67 => K (.exit 2) (st_geom_Area_1 t6 t7 t23 t24 t29 t30 t31 c5_0 c5_1 l67)) t6 t7 t23 t24 t29 t30 t31 c5_0 c5_1 l67 := by kernel_rfl
set_option maxRecDepth 100000 in
theorem cont_geom_Area_1_0 (F n r : Nat) (K : AEx → ASt UU → Prop) (t6 : Int) (t7 : Int) (t23 : Int) (t24 : Int) (t29 : List Bool) (t30 : Int) (t31 : Int) (c5_0 : List Int) (c5_1 : List Int) (l67 : List (List Bool)) : k_geom_Area_1 F n r K (.exit 2) (st_geom_Area_1 t6 t7 t23 t24 t29 t30 t31 c5_0 c5_1 l67) = g_geom_Area_c1_0 (fun t6 t23 t24 c5_0 c5_1 l67 => iter (exec C_flat_width Try.f48.ntmps M_geom_Area F 0 (cL (cB (cS (cF (cS (cS (cS (cS (bo Try.f48)))))))))) (M_geom_Area 0) n (r + 1) (st_geom_Area_0 t6 t23 t24 c5_0 c5_1 l67) K) (fun t6 t23 t24 c5_0 c5_1 l67 => K (.exit 0) (st_geom_Area_0 t6 t23 t24 c5_0 c5_1 l67)) t6 t7 t23 t24 t29 t30 t31 c5_0 c5_1 l67 := by kernel_rfl
set_option maxRecDepth 100000 in
theorem entry_geom_Area (F : Nat) (Post : AVal UU → Prop) (a0 : List Rect) : exec C_flat_width Try.f48.ntmps M_geom_Area F 0 (bo Try.f48) (initSt [.sl .rect a0]) (AEnds C_flat_width false Try.f48 Post) = g_geom_Area_e a0 (fun r0 r1 => Post (.tup [.int .i64 r0, .int .i64 r1])) (fun t6 t23 t24 c5_0 c5_1 l67 => iter (exec C_flat_width Try.f48.ntmps M_geom_Area F 0 (cL (cB (cS (cF (cS (cS (cS (cS (bo Try.f48)))))))))) (M_geom_Area 0) F 0 (st_geom_Area_0 t6 t23 t24 c5_0 c5_1 l67) (k_geom_Area_0 F Post)) := by kernel_rfl
theorem loop_geom_Area_1 (F : Nat) (K : AEx → ASt UU → Prop) : ∀ (n r : Nat) (t6 : Int) (t7 : Int) (t23 : Int) (t24 : Int) (t29 : List Bool) (t30 : Int) (t31 : Int) (c5_0 : List Int) (c5_1 : List Int) (l67 : List (List Bool)), iter (exec C_flat_width Try.f48.ntmps M_geom_Area F 2 (cL (cB (cS (cS (cB (cF (cS (cS (cL (cB (cS (cF (cS (cS (cS (cS (bo Try.f48)))))))))))))))))) (M_geom_Area 2) n r (st_geom_Area_1 t6 t7 t23 t24 t29 t30 t31 c5_0 c5_1 l67) K = w_geom_Area_1 F  (fun t6 t7 t23 t24 t29 t30 t31 c5_0 c5_1 l67 => K (.exit 2) (st_geom_Area_1 t6 t7 t23 t24 t29 t30 t31 c5_0 c5_1 l67)) n t6 t7 t23 t24 t29 t30 t31 c5_0 c5_1 l67 := by
  intro n
  induction n with
  | zero => intros; rfl
  | succ n ih =>
    intro r t6 t7 t23 t24 t29 t30 t31 c5_0 c5_1 l67
    have e : (fun t6 t7 t23 t24 t29 t30 t31 c5_0 c5_1 l67 => iter (exec C_flat_width Try.f48.ntmps M_geom_Area F 2 (cL (cB (cS (cS (cB (cF (cS (cS (cL (cB (cS (cF (cS (cS (cS (cS (bo Try.f48)))))))))))))))))) (M_geom_Area 2) n (r + 1) (st_geom_Area_1 t6 t7 t23 t24 t29 t30 t31 c5_0 c5_1 l67) K) = w_geom_Area_1 F  (fun t6 t7 t23 t24 t29 t30 t31 c5_0 c5_1 l67 => K (.exit 2) (st_geom_Area_1 t6 t7 t23 t24 t29 t30 t31 c5_0 c5_1 l67)) n := by
      funext t6 t7 t23 t24 t29 t30 t31 c5_0 c5_1 l67
      exact ih (r + 1) t6 t7 t23 t24 t29 t30 t31 c5_0 c5_1 l67
    rw [step_geom_Area_1, e]
    rfl
theorem nl_geom_Area_1 (F n r : Nat) (K : AEx → ASt UU → Prop) (t6 : Int) (t7 : Int) (t23 : Int) (t24 : Int) (t29 : List Bool) (t30 : Int) (t31 : Int) (c5_0 : List Int) (c5_1 : List Int) (l67 : List (List Bool)) : iter (exec C_flat_width Try.f48.ntmps M_geom_Area F 2 (cL (cB (cS (cS (cB (cF (cS (cS (cL (cB (cS (cF (cS (cS (cS (cS (bo Try.f48)))))))))))))))))) (M_geom_Area 2) F 0 (st_geom_Area_1 t6 t7 t23 t24 t29 t30 t31 c5_0 c5_1 l67) (k_geom_Area_1 F n r K) = n_geom_Area_1 F (fun t6 t23 t24 c5_0 c5_1 l67 => iter (exec C_flat_width Try.f48.ntmps M_geom_Area F 0 (cL (cB (cS (cF (cS (cS (cS (cS (bo Try.f48)))))))))) (M_geom_Area 0) n (r + 1) (st_geom_Area_0 t6 t23 t24 c5_0 c5_1 l67) K) (fun t6 t23 t24 c5_0 c5_1 l67 => K (.exit 0) (st_geom_Area_0 t6 t23 t24 c5_0 c5_1 l67)) t6 t7 t23 t24 t29 t30 t31 c5_0 c5_1 l67 := by
  rw [loop_geom_Area_1]
  have h0 : (fun t6 t7 t23 t24 t29 t30 t31 c5_0 c5_1 l67 => k_geom_Area_1 F n r K (.exit 2) (st_geom_Area_1 t6 t7 t23 t24 t29 t30 t31 c5_0 c5_1 l67)) = (fun t6 t7 t23 t24 t29 t30 t31 c5_0 c5_1 l67 => g_geom_Area_c1_0 (fun t6 t23 t24 c5_0 c5_1 l67 => iter (exec C_flat_width Try.f48.ntmps M_geom_Area F 0 (cL (cB (cS (cF (cS (cS (cS (cS (bo Try.f48)))))))))) (M_geom_Area 0) n (r + 1) (st_geom_Area_0 t6 t23 t24 c5_0 c5_1 l67) K) (fun t6 t23 t24 c5_0 c5_1 l67 => K (.exit 0) (st_geom_Area_0 t6 t23 t24 c5_0 c5_1 l67)) t6 t7 t23 t24 t29 t30 t31 c5_0 c5_1 l67) := by
    funext t6 t7 t23 t24 t29 t30 t31 c5_0 c5_1 l67
    rw [cont_geom_Area_1_0]
  rw [h0]
  rfl
theorem loop_geom_Area_0 (F : Nat) (K : AEx → ASt UU → Prop) : ∀ (n r : Nat) (t6 : Int) (t23 : Int) (t24 : Int) (c5_0 : List Int) (c5_1 : List Int) (l67 : List (List Bool)), iter (exec C_flat_width Try.f48.ntmps M_geom_Area F 0 (cL (cB (cS (cF (cS (cS (cS (cS (bo Try.f48)))))))))) (M_geom_Area 0) n r (st_geom_Area_0 t6 t23 t24 c5_0 c5_1 l67) K = w_geom_Area_0 F  (fun t6 t23 t24 c5_0 c5_1 l67 => K (.exit 0) (st_geom_Area_0 t6 t23 t24 c5_0 c5_1 l67)) n t6 t23 t24 c5_0 c5_1 l67 := by
  intro n
  induction n with
  | zero => intros; rfl
  | succ n ih =>
    intro r t6 t23 t24 c5_0 c5_1 l67
    have e : (fun t6 t23 t24 c5_0 c5_1 l67 => iter (exec C_flat_width Try.f48.ntmps M_geom_Area F 0 (cL (cB (cS (cF (cS (cS (cS (cS (bo Try.f48)))))))))) (M_geom_Area 0) n (r + 1) (st_geom_Area_0 t6 t23 t24 c5_0 c5_1 l67) K) = w_geom_Area_0 F  (fun t6 t23 t24 c5_0 c5_1 l67 => K (.exit 0) (st_geom_Area_0 t6 t23 t24 c5_0 c5_1 l67)) n := by
      funext t6 t23 t24 c5_0 c5_1 l67
      exact ih (r + 1) t6 t23 t24 c5_0 c5_1 l67
    have e1 : (fun t6 t7 t23 t24 t29 t30 t31 c5_0 c5_1 l67 => iter (exec C_flat_width Try.f48.ntmps M_geom_Area F 2 (cL (cB (cS (cS (cB (cF (cS (cS (cL (cB (cS (cF (cS (cS (cS (cS (bo Try.f48)))))))))))))))))) (M_geom_Area 2) F 0 (st_geom_Area_1 t6 t7 t23 t24 t29 t30 t31 c5_0 c5_1 l67) (k_geom_Area_1 F n r K)) = (n_geom_Area_1 F (fun t6 t23 t24 c5_0 c5_1 l67 => iter (exec C_flat_width Try.f48.ntmps M_geom_Area F 0 (cL (cB (cS (cF (cS (cS (cS (cS (bo Try.f48)))))))))) (M_geom_Area 0) n (r + 1) (st_geom_Area_0 t6 t23 t24 c5_0 c5_1 l67) K) (fun t6 t23 t24 c5_0 c5_1 l67 => K (.exit 0) (st_geom_Area_0 t6 t23 t24 c5_0 c5_1 l67))) := by
      funext t6 t7 t23 t24 t29 t30 t31 c5_0 c5_1 l67
      exact nl_geom_Area_1 F n r K t6 t7 t23 t24 t29 t30 t31 c5_0 c5_1 l67
    rw [step_geom_Area_0, e1, e]
    rfl
theorem nl_geom_Area_0 (F : Nat) (Post : AVal UU → Prop) (t6 : Int) (t23 : Int) (t24 : Int) (c5_0 : List Int) (c5_1 : List Int) (l67 : List (List Bool)) : iter (exec C_flat_width Try.f48.ntmps M_geom_Area F 0 (cL (cB (cS (cF (cS (cS (cS (cS (bo Try.f48)))))))))) (M_geom_Area 0) F 0 (st_geom_Area_0 t6 t23 t24 c5_0 c5_1 l67) (k_geom_Area_0 F Post) = n_geom_Area_0 F (fun r0 r1 => Post (.tup [.int .i64 r0, .int .i64 r1])) t6 t23 t24 c5_0 c5_1 l67 := by
  rw [loop_geom_Area_0]
  have h0 : (fun t6 t23 t24 c5_0 c5_1 l67 => k_geom_Area_0 F Post (.exit 0) (st_geom_Area_0 t6 t23 t24 c5_0 c5_1 l67)) = (fun t6 t23 t24 c5_0 c5_1 l67 => g_geom_Area_c0_0 (fun r0 r1 => Post (.tup [.int .i64 r0, .int .i64 r1])) t6 t23 t24 c5_0 c5_1 l67) := by
    funext t6 t23 t24 c5_0 c5_1 l67
    rw [cont_geom_Area_0_0]
  rw [h0]
  rfl
theorem exec_geom_Area (F : Nat) (Post : AVal UU → Prop) (a0 : List Rect) : exec C_flat_width Try.f48.ntmps M_geom_Area F 0 (bo Try.f48) (initSt [.sl .rect a0]) (AEnds C_flat_width false Try.f48 Post) = w_geom_Area F a0 (fun r0 r1 => Post (.tup [.int .i64 r0, .int .i64 r1])) := by
  rw [entry_geom_Area]
  have e0 : (fun t6 t23 t24 c5_0 c5_1 l67 => iter (exec C_flat_width Try.f48.ntmps M_geom_Area F 0 (cL (cB (cS (cF (cS (cS (cS (cS (bo Try.f48)))))))))) (M_geom_Area 0) F 0 (st_geom_Area_0 t6 t23 t24 c5_0 c5_1 l67) (k_geom_Area_0 F Post)) = (n_geom_Area_0 F (fun r0 r1 => Post (.tup [.int .i64 r0, .int .i64 r1]))) := by
    funext t6 t23 t24 c5_0 c5_1 l67
    exact nl_geom_Area_0 F Post t6 t23 t24 c5_0 c5_1 l67
  rw [e0]
  rfl
def m_geom_Area : Model UU
  | [.sl .rect a0] => some ([pre_geom_Area a0], .tup [.int .i64 ((sp_geom_Area a0).1), .int .i64 ((sp_geom_Area a0).2)])
  | _ => none
def C_geom_Area : Cfg UU := C_flat_width.add 48 m_geom_Area
theorem s_geom_Area : SumOK C_geom_Area := by
  refine s_flat_width.addD mixed (fn := Try.f48) (c := bo Try.f48) Try.func48 (by kernel_rfl) (by kernel_rfl) ?_
  intro xs cs r h hc
  unfold m_geom_Area at h
  split at h
  · rename_i a0
    cases h
    obtain ⟨F, hF⟩ := ok_geom_Area a0 hc
    refine ⟨by kernel_rfl, M_geom_Area, F, false, ⟨?_⟩⟩
    rw [exec_geom_Area]
    refine hF _ ?_
    rfl
  · cases h
def k_flat_area_0 (F : Nat) (Post : AVal UU → Prop) : AEx → ASt UU → Prop := kBlock 0 (kSeq C_geom_Area Try.f75.ntmps M_flat_area F 0 (cS (cS (cS (bo Try.f75)))) (AEnds C_geom_Area false Try.f75 Post))
def k_flat_area_1 (F : Nat) (Post : AVal UU → Prop) : AEx → ASt UU → Prop := kBlock 2 (kSeq C_geom_Area Try.f75.ntmps M_flat_area F 0 (cS (cS (cS (cS (cS (bo Try.f75)))))) (AEnds C_geom_Area false Try.f75 Post))
set_option maxRecDepth 100000 in
theorem step_flat_area_0 (F n r : Nat) (K : AEx → ASt UU → Prop) (t0 : List Rect) (t3 : List Int) (t8 : List Rect) (t9 : Int) (t10 : Int) : iter (exec C_geom_Area Try.f75.ntmps M_flat_area F 0 (cL (cB (cS (cF (cS (cS (bo Try.f75)))))))) (M_flat_area 0) (n + 1) r (st_flat_area_0 t0 t3 t8 t9 t10) K = g_flat_area_s0 (fun t0 t3 t8 t9 t10 => iter (exec C_geom_Area Try.f75.ntmps M_flat_area F 0 (cL (cB (cS (cF (cS (cS (bo Try.f75)))))))) (M_flat_area 0) n (r + 1) (st_flat_area_0 t0 t3 t8 t9 t10) K) (fun t0 t3 t8 t9 t10 => K (.exit 0) (st_flat_area_0 t0 t3 t8 t9 t10)) t0 t3 t8 t9 t10 := by kernel_rfl
set_option maxRecDepth 100000 in
theorem cont_flat_area_0_0 (F : Nat) (Post : AVal UU → Prop) (t0 : List Rect) (t3 : List Int) (t8 : List Rect) (t9 : Int) (t10 : Int) : k_flat_area_0 F Post (.exit 0) (st_flat_area_0 t0 t3 t8 t9 t10) = g_flat_area_c0_0 (fun r0 => Post (.int .i64 r0)) t0 t3 t8 t9 t10 (fun t0 t3 t6 t7 => iter (exec C_geom_Area Try.f75.ntmps M_flat_area F 2 (cL (cB (cS (cF (cS (cS (cS (cS (bo Try.f75)))))))))) (M_flat_area 2) F 0 (st_flat_area_1 t0 t3 t6 t7) (k_flat_area_1 F Post)) := by kernel_rfl
set_option maxRecDepth 100000 in
theorem step_flat_area_1 (F n r : Nat) (K : AEx → ASt UU → Prop) (t0 : List Rect) (t3 : List Int) (t6 : Int) (t7 : Int) : iter (exec C_geom_Area Try.f75.ntmps M_flat_area F 2 (cL (cB (cS (cF (cS (cS (cS (cS (bo Try.f75)))))))))) (M_flat_area 2) (n + 1) r (st_flat_area_1 t0 t3 t6 t7) K = g_flat_area_s1 (fun t0 t3 t6 t7 => iter (exec C_geom_Area Try.f75.ntmps M_flat_area F 2 (cL (cB (cS (cF (cS (cS (cS (cS (bo Try.f75)))))))))) (M_flat_area 2) n (r + 1) (st_flat_area_1 t0 t3 t6 t7) K) (fun t0 t3 t6 t7 => K (.exit 2) (st_flat_area_1 t0 t3 t6 t7)) t0 t3 t6 t7 := by kernel_rfl
set_option maxRecDepth 100000 in
theorem cont_flat_area_1_0 (F : Nat) (Post : AVal UU → Prop) (t0 : List Rect) (t3 : List Int) (t6 : Int) (t7 : Int) : k_flat_area_1 F Post (.exit 2) (st_flat_area_1 t0 t3 t6 t7) = g_flat_area_c1_0 (fun r0 => Post (.int .i64 r0)) t0 t3 t6 t7 := by kernel_rfl
set_option maxRecDepth 100000 in
theorem entry_flat_area (F : Nat) (Post : AVal UU → Prop) (a0 : List Rect) : exec C_geom_Area Try.f75.ntmps M_flat_area F 0 (bo Try.f75) (initSt [.sl .rect a0]) (AEnds C_geom_Area false Try.f75 Post) = g_flat_area_e a0 (fun r0 => Post (.int .i64 r0)) (fun t0 t3 t8 t9 t10 => iter (exec C_geom_Area Try.f75.ntmps M_flat_area F 0 (cL (cB (cS (cF (cS (cS (bo Try.f75)))))))) (M_flat_area 0) F 0 (st_flat_area_0 t0 t3 t8 t9 t10) (k_flat_area_0 F Post)) := by kernel_rfl
theorem loop_flat_area_1 (F : Nat) (K : AEx → ASt UU → Prop) : ∀ (n r : Nat) (t0 : List Rect) (t3 : List Int) (t6 : Int) (t7 : Int), iter (exec C_geom_Area Try.f75.ntmps M_flat_area F 2 (cL (cB (cS (cF (cS (cS (cS (cS (bo Try.f75)))))))))) (M_flat_area 2) n r (st_flat_area_1 t0 t3 t6 t7) K = w_flat_area_1 F  (fun t0 t3 t6 t7 => K (.exit 2) (st_flat_area_1 t0 t3 t6 t7)) n t0 t3 t6 t7 := by
  intro n
  induction n with
  | zero => intros; rfl
  | succ n ih =>
    intro r t0 t3 t6 t7
    have e : (fun t0 t3 t6 t7 => iter (exec C_geom_Area Try.f75.ntmps M_flat_area F 2 (cL (cB (cS (cF (cS (cS (cS (cS (bo Try.f75)))))))))) (M_flat_area 2) n (r + 1) (st_flat_area_1 t0 t3 t6 t7) K) = w_flat_area_1 F  (fun t0 t3 t6 t7 => K (.exit 2) (st_flat_area_1 t0 t3 t6 t7)) n := by
      funext t0 t3 t6 t7
      exact ih (r + 1) t0 t3 t6 t7
    rw [step_flat_area_1, e]
    rfl
theorem nl_flat_area_1 (F : Nat) (Post : AVal UU → Prop) (t0 : List Rect) (t3 : List Int) (t6 : Int) (t7 : Int) : iter (exec C_geom_Area Try.f75.ntmps M_flat_area F 2 (cL (cB (cS (cF (cS (cS (cS (cS (bo Try.f75)))))))))) (M_flat_area 2) F 0 (st_flat_area_1 t0 t3 t6 t7) (k_flat_area_1 F Post) = n_flat_area_1 F (fun r0 => Post (.int .i64 r0)) t0 t3 t6 t7 := by
  rw [loop_flat_area_1]
  have h0 : (fun t0 t3 t6 t7 => k_flat_area_1 F Post (.exit 2) (st_flat_area_1 t0 t3 t6 t7)) = (fun t0 t3 t6 t7 => g_flat_area_c1_0 (fun r0 => Post (.int .i64 r0)) t0 t3 t6 t7) := by
    funext t0 t3 t6 t7
    rw [cont_flat_area_1_0]
  rw [h0]
  rfl
theorem loop_flat_area_0 (F : Nat) (K : AEx → ASt UU → Prop) : ∀ (n r : Nat) (t0 : List Rect) (t3 : List Int) (t8 : List Rect) (t9 : Int) (t10 : Int), iter (exec C_geom_Area Try.f75.ntmps M_flat_area F 0 (cL (cB (cS (cF (cS (cS (bo Try.f75)))))))) (M_flat_area 0) n r (st_flat_area_0 t0 t3 t8 t9 t10) K = w_flat_area_0 F  (fun t0 t3 t8 t9 t10 => K (.exit 0) (st_flat_area_0 t0 t3 t8 t9 t10)) n t0 t3 t8 t9 t10 := by
  intro n
  induction n with
  | zero => intros; rfl
  | succ n ih =>
    intro r t0 t3 t8 t9 t10
    have e : (fun t0 t3 t8 t9 t10 => iter (exec C_geom_Area Try.f75.ntmps M_flat_area F 0 (cL (cB (cS (cF (cS (cS (bo Try.f75)))))))) (M_flat_area 0) n (r + 1) (st_flat_area_0 t0 t3 t8 t9 t10) K) = w_flat_area_0 F  (fun t0 t3 t8 t9 t10 => K (.exit 0) (st_flat_area_0 t0 t3 t8 t9 t10)) n := by
      funext t0 t3 t8 t9 t10
      exact ih (r + 1) t0 t3 t8 t9 t10
    rw [step_flat_area_0, e]
    rfl
theorem nl_flat_area_0 (F : Nat) (Post : AVal UU → Prop) (t0 : List Rect) (t3 : List Int) (t8 : List Rect) (t9 : Int) (t10 : Int) : iter (exec C_geom_Area Try.f75.ntmps M_flat_area F 0 (cL (cB (cS (cF (cS (cS (bo Try.f75)))))))) (M_flat_area 0) F 0 (st_flat_area_0 t0 t3 t8 t9 t10) (k_flat_area_0 F Post) = n_flat_area_0 F (fun r0 => Post (.int .i64 r0)) t0 t3 t8 t9 t10 := by
  rw [loop_flat_area_0]
  have e1 : (fun t0 t3 t6 t7 => iter (exec C_geom_Area Try.f75.ntmps M_flat_area F 2 (cL (cB (cS (cF (cS (cS (cS (cS (bo Try.f75)))))))))) (M_flat_area 2) F 0 (st_flat_area_1 t0 t3 t6 t7) (k_flat_area_1 F Post)) = (n_flat_area_1 F (fun r0 => Post (.int .i64 r0))) := by
    funext t0 t3 t6 t7
    exact nl_flat_area_1 F Post t0 t3 t6 t7
  have h0 : (fun t0 t3 t8 t9 t10 => k_flat_area_0 F Post (.exit 0) (st_flat_area_0 t0 t3 t8 t9 t10)) = (fun t0 t3 t8 t9 t10 => g_flat_area_c0_0 (fun r0 => Post (.int .i64 r0)) t0 t3 t8 t9 t10 (n_flat_area_1 F (fun r0 => Post (.int .i64 r0)))) := by
    funext t0 t3 t8 t9 t10
    rw [cont_flat_area_0_0, e1]
  rw [h0]
  rfl
theorem exec_flat_area (F : Nat) (Post : AVal UU → Prop) (a0 : List Rect) : exec C_geom_Area Try.f75.ntmps M_flat_area F 0 (bo Try.f75) (initSt [.sl .rect a0]) (AEnds C_geom_Area false Try.f75 Post) = w_flat_area F a0 (fun r0 => Post (.int .i64 r0)) := by
  rw [entry_flat_area]
  have e0 : (fun t0 t3 t8 t9 t10 => iter (exec C_geom_Area Try.f75.ntmps M_flat_area F 0 (cL (cB (cS (cF (cS (cS (bo Try.f75)))))))) (M_flat_area 0) F 0 (st_flat_area_0 t0 t3 t8 t9 t10) (k_flat_area_0 F Post)) = (n_flat_area_0 F (fun r0 => Post (.int .i64 r0))) := by
    funext t0 t3 t8 t9 t10
    exact nl_flat_area_0 F Post t0 t3 t8 t9 t10
  rw [e0]
  rfl
def m_flat_area : Model UU
  | [.sl .rect a0] => some ([pre_flat_area a0], .int .i64 (sp_flat_area a0))
  | _ => none
def C_flat_area : Cfg UU := C_geom_Area.add 75 m_flat_area
theorem s_flat_area : SumOK C_flat_area := by
  refine s_geom_Area.addD mixed (fn := Try.f75) (c := bo Try.f75) Try.func75 (by kernel_rfl) (by kernel_rfl) ?_
  intro xs cs r h hc
  unfold m_flat_area at h
  split at h
  · rename_i a0
    cases h
    obtain ⟨F, hF⟩ := ok_flat_area a0 hc
    refine ⟨by kernel_rfl, M_flat_area, F, false, ⟨?_⟩⟩
    rw [exec_flat_area]
    refine hF _ ?_
    rfl
  · cases h
end
end Go.Proofs.Ytohecfbnmmgimaa
