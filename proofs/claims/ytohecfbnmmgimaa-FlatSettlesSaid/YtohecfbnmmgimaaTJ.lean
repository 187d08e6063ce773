/- That the code says what the printed pieces say, by the kernel; printed by gen.py. Conditions: none. -/
import Derived.Test.YtohecfbnmmgimaaHJ
import Derived.Test.YtohecfbnmmgimaaTI
namespace Go.Proofs.Ytohecfbnmmgimaa
open Go.Vm Go.RowKit
set_option linter.unusedVariables false
noncomputable section
def k_flat_inRange_0 (F : Nat) (Post : AVal UU → Prop) : AEx → ASt UU → Prop := kBlock 0 (kSeq C_flat_quarter_2 Try.f55.ntmps M_flat_inRange F 0 (cS (cS (bo Try.f55))) (AEnds C_flat_quarter_2 false Try.f55 Post))
set_option maxRecDepth 100000 in
theorem step_flat_inRange_0 (F n r : Nat) (K : AEx → ASt UU → Prop) (t2 : Bool) (t14 : Int) (t15 : Int) (l26 : List Int) : iter (exec C_flat_quarter_2 Try.f55.ntmps M_flat_inRange F 0 (cL (cB (cS (cF (cS (bo Try.f55))))))) (M_flat_inRange 0) (n + 1) r (st_flat_inRange_0 t2 t14 t15 l26) K = g_flat_inRange_s0 (fun t2 t14 t15 l26 => iter (exec C_flat_quarter_2 Try.f55.ntmps M_flat_inRange F 0 (cL (cB (cS (cF (cS (bo Try.f55))))))) (M_flat_inRange 0) n (r + 1) (st_flat_inRange_0 t2 t14 t15 l26) K) (fun t2 t14 t15 l26 => K .ret (st_flat_inRange_0 t2 t14 t15 l26)) (fun t2 t14 t15 l26 => K (.exit 0) (st_flat_inRange_0 t2 t14 t15 l26)) t2 t14 t15 l26 := by kernel_rfl
set_option maxRecDepth 100000 in
theorem cont_flat_inRange_0_0 (F : Nat) (Post : AVal UU → Prop) (t2 : Bool) (t14 : Int) (t15 : Int) (l26 : List Int) : k_flat_inRange_0 F Post .ret (st_flat_inRange_0 t2 t14 t15 l26) = g_flat_inRange_c0_0 (fun r0 => Post (.bool r0)) t2 t14 t15 l26 := by kernel_rfl
set_option maxRecDepth 100000 in
theorem cont_flat_inRange_0_1 (F : Nat) (Post : AVal UU → Prop) (t2 : Bool) (t14 : Int) (t15 : Int) (l26 : List Int) : k_flat_inRange_0 F Post (.exit 0) (st_flat_inRange_0 t2 t14 t15 l26) = g_flat_inRange_c0_1 (fun r0 => Post (.bool r0)) t2 t14 t15 l26 := by kernel_rfl
set_option maxRecDepth 100000 in
theorem entry_flat_inRange (F : Nat) (Post : AVal UU → Prop) (a0_X1 : Int) (a0_Y1 : Int) (a0_X2 : Int) (a0_Y2 : Int) : exec C_flat_quarter_2 Try.f55.ntmps M_flat_inRange F 0 (bo Try.f55) (initSt [.agg [.int .i64 a0_X1, .int .i64 a0_Y1, .int .i64 a0_X2, .int .i64 a0_Y2]]) (AEnds C_flat_quarter_2 false Try.f55 Post) = g_flat_inRange_e a0_X1 a0_Y1 a0_X2 a0_Y2 (fun r0 => Post (.bool r0)) (fun t2 t14 t15 l26 => iter (exec C_flat_quarter_2 Try.f55.ntmps M_flat_inRange F 0 (cL (cB (cS (cF (cS (bo Try.f55))))))) (M_flat_inRange 0) F 0 (st_flat_inRange_0 t2 t14 t15 l26) (k_flat_inRange_0 F Post)) := by kernel_rfl
theorem loop_flat_inRange_0 (F : Nat) (K : AEx → ASt UU → Prop) : ∀ (n r : Nat) (t2 : Bool) (t14 : Int) (t15 : Int) (l26 : List Int), iter (exec C_flat_quarter_2 Try.f55.ntmps M_flat_inRange F 0 (cL (cB (cS (cF (cS (bo Try.f55))))))) (M_flat_inRange 0) n r (st_flat_inRange_0 t2 t14 t15 l26) K = w_flat_inRange_0 F  (fun t2 t14 t15 l26 => K .ret (st_flat_inRange_0 t2 t14 t15 l26)) (fun t2 t14 t15 l26 => K (.exit 0) (st_flat_inRange_0 t2 t14 t15 l26)) n t2 t14 t15 l26 := by
  intro n
  induction n with
  | zero => intros; rfl
  | succ n ih =>
    intro r t2 t14 t15 l26
    have e : (fun t2 t14 t15 l26 => iter (exec C_flat_quarter_2 Try.f55.ntmps M_flat_inRange F 0 (cL (cB (cS (cF (cS (bo Try.f55))))))) (M_flat_inRange 0) n (r + 1) (st_flat_inRange_0 t2 t14 t15 l26) K) = w_flat_inRange_0 F  (fun t2 t14 t15 l26 => K .ret (st_flat_inRange_0 t2 t14 t15 l26)) (fun t2 t14 t15 l26 => K (.exit 0) (st_flat_inRange_0 t2 t14 t15 l26)) n := by
      funext t2 t14 t15 l26
      exact ih (r + 1) t2 t14 t15 l26
    rw [step_flat_inRange_0, e]
    rfl
theorem nl_flat_inRange_0 (F : Nat) (Post : AVal UU → Prop) (t2 : Bool) (t14 : Int) (t15 : Int) (l26 : List Int) : iter (exec C_flat_quarter_2 Try.f55.ntmps M_flat_inRange F 0 (cL (cB (cS (cF (cS (bo Try.f55))))))) (M_flat_inRange 0) F 0 (st_flat_inRange_0 t2 t14 t15 l26) (k_flat_inRange_0 F Post) = n_flat_inRange_0 F (fun r0 => Post (.bool r0)) t2 t14 t15 l26 := by
  rw [loop_flat_inRange_0]
  have h0 : (fun t2 t14 t15 l26 => k_flat_inRange_0 F Post .ret (st_flat_inRange_0 t2 t14 t15 l26)) = (fun t2 t14 t15 l26 => g_flat_inRange_c0_0 (fun r0 => Post (.bool r0)) t2 t14 t15 l26) := by
    funext t2 t14 t15 l26
    rw [cont_flat_inRange_0_0]
  have h1 : (fun t2 t14 t15 l26 => k_flat_inRange_0 F Post (.exit 0) (st_flat_inRange_0 t2 t14 t15 l26)) = (fun t2 t14 t15 l26 => g_flat_inRange_c0_1 (fun r0 => Post (.bool r0)) t2 t14 t15 l26) := by
    funext t2 t14 t15 l26
    rw [cont_flat_inRange_0_1]
  rw [h0, h1]
  rfl
theorem exec_flat_inRange (F : Nat) (Post : AVal UU → Prop) (a0_X1 : Int) (a0_Y1 : Int) (a0_X2 : Int) (a0_Y2 : Int) : exec C_flat_quarter_2 Try.f55.ntmps M_flat_inRange F 0 (bo Try.f55) (initSt [.agg [.int .i64 a0_X1, .int .i64 a0_Y1, .int .i64 a0_X2, .int .i64 a0_Y2]]) (AEnds C_flat_quarter_2 false Try.f55 Post) = w_flat_inRange F a0_X1 a0_Y1 a0_X2 a0_Y2 (fun r0 => Post (.bool r0)) := by
  rw [entry_flat_inRange]
  have e0 : (fun t2 t14 t15 l26 => iter (exec C_flat_quarter_2 Try.f55.ntmps M_flat_inRange F 0 (cL (cB (cS (cF (cS (bo Try.f55))))))) (M_flat_inRange 0) F 0 (st_flat_inRange_0 t2 t14 t15 l26) (k_flat_inRange_0 F Post)) = (n_flat_inRange_0 F (fun r0 => Post (.bool r0))) := by
    funext t2 t14 t15 l26
    exact nl_flat_inRange_0 F Post t2 t14 t15 l26
  rw [e0]
  rfl
def m_flat_inRange : Model UU
  | [.agg [.int .i64 a0_X1, .int .i64 a0_Y1, .int .i64 a0_X2, .int .i64 a0_Y2]] => some ([], .bool (sp_flat_inRange a0_X1 a0_Y1 a0_X2 a0_Y2))
  | _ => none
def C_flat_inRange : Cfg UU := C_flat_quarter_2.add 55 m_flat_inRange
theorem s_flat_inRange : SumOK C_flat_inRange := by
  refine s_flat_quarter_2.addD mixed (fn := Try.f55) (c := bo Try.f55) Try.func55 (by kernel_rfl) (by kernel_rfl) ?_
  intro xs cs r h hc
  unfold m_flat_inRange at h
  split at h
  · rename_i a0_X1 a0_Y1 a0_X2 a0_Y2
    cases h
    obtain ⟨F, hF⟩ := ok_flat_inRange a0_X1 a0_Y1 a0_X2 a0_Y2
    refine ⟨by kernel_rfl, M_flat_inRange, F, false, ⟨?_⟩⟩
    rw [exec_flat_inRange]
    refine hF _ ?_
    rfl
  · cases h
def k_ref01_CheckRects_0 (F : Nat) (Post : AVal UU → Prop) : AEx → ASt UU → Prop := kBlock 0 (kSeq C_flat_inRange Try.f80.ntmps M_ref01_CheckRects F 0 (cS (cS (cS (bo Try.f80)))) (AEnds C_flat_inRange false Try.f80 Post))
set_option maxRecDepth 100000 in
theorem step_ref01_CheckRects_0 (F n r : Nat) (K : AEx → ASt UU → Prop) (t0 : List Rect) (t2 : Int) (t3 : Int) : iter (exec C_flat_inRange Try.f80.ntmps M_ref01_CheckRects F 0 (cL (cB (cS (cF (cS (cS (bo Try.f80)))))))) (M_ref01_CheckRects 0) (n + 1) r (st_ref01_CheckRects_0 t0 t2 t3) K = g_ref01_CheckRects_s0 (fun t0 t2 t3 => iter (exec C_flat_inRange Try.f80.ntmps M_ref01_CheckRects F 0 (cL (cB (cS (cF (cS (cS (bo Try.f80)))))))) (M_ref01_CheckRects 0) n (r + 1) (st_ref01_CheckRects_0 t0 t2 t3) K) (fun t0 t2 t3 => K .ret (st_ref01_CheckRects_0 t0 t2 t3)) (fun t0 t2 t3 => K (.exit 0) (st_ref01_CheckRects_0 t0 t2 t3)) t0 t2 t3 := by kernel_rfl
set_option maxRecDepth 100000 in
theorem cont_ref01_CheckRects_0_0 (F : Nat) (Post : AVal UU → Prop) (t0 : List Rect) (t2 : Int) (t3 : Int) : k_ref01_CheckRects_0 F Post .ret (st_ref01_CheckRects_0 t0 t2 t3) = g_ref01_CheckRects_c0_0 (fun r0 => Post (.int .i64 r0)) t0 t2 t3 := by kernel_rfl
set_option maxRecDepth 100000 in
theorem cont_ref01_CheckRects_0_1 (F : Nat) (Post : AVal UU → Prop) (t0 : List Rect) (t2 : Int) (t3 : Int) : k_ref01_CheckRects_0 F Post (.exit 0) (st_ref01_CheckRects_0 t0 t2 t3) = g_ref01_CheckRects_c0_1 (fun r0 => Post (.int .i64 r0)) t0 t2 t3 := by kernel_rfl
set_option maxRecDepth 100000 in
theorem entry_ref01_CheckRects (F : Nat) (Post : AVal UU → Prop) (a0 : List Rect) : exec C_flat_inRange Try.f80.ntmps M_ref01_CheckRects F 0 (bo Try.f80) (initSt [.sl .rect a0]) (AEnds C_flat_inRange false Try.f80 Post) = g_ref01_CheckRects_e a0 (fun r0 => Post (.int .i64 r0)) (fun t0 t2 t3 => iter (exec C_flat_inRange Try.f80.ntmps M_ref01_CheckRects F 0 (cL (cB (cS (cF (cS (cS (bo Try.f80)))))))) (M_ref01_CheckRects 0) F 0 (st_ref01_CheckRects_0 t0 t2 t3) (k_ref01_CheckRects_0 F Post)) := by kernel_rfl
theorem loop_ref01_CheckRects_0 (F : Nat) (K : AEx → ASt UU → Prop) : ∀ (n r : Nat) (t0 : List Rect) (t2 : Int) (t3 : Int), iter (exec C_flat_inRange Try.f80.ntmps M_ref01_CheckRects F 0 (cL (cB (cS (cF (cS (cS (bo Try.f80)))))))) (M_ref01_CheckRects 0) n r (st_ref01_CheckRects_0 t0 t2 t3) K = w_ref01_CheckRects_0 F  (fun t0 t2 t3 => K .ret (st_ref01_CheckRects_0 t0 t2 t3)) (fun t0 t2 t3 => K (.exit 0) (st_ref01_CheckRects_0 t0 t2 t3)) n t0 t2 t3 := by
  intro n
  induction n with
  | zero => intros; rfl
  | succ n ih =>
    intro r t0 t2 t3
    have e : (fun t0 t2 t3 => iter (exec C_flat_inRange Try.f80.ntmps M_ref01_CheckRects F 0 (cL (cB (cS (cF (cS (cS (bo Try.f80)))))))) (M_ref01_CheckRects 0) n (r + 1) (st_ref01_CheckRects_0 t0 t2 t3) K) = w_ref01_CheckRects_0 F  (fun t0 t2 t3 => K .ret (st_ref01_CheckRects_0 t0 t2 t3)) (fun t0 t2 t3 => K (.exit 0) (st_ref01_CheckRects_0 t0 t2 t3)) n := by
      funext t0 t2 t3
      exact ih (r + 1) t0 t2 t3
    rw [step_ref01_CheckRects_0, e]
    rfl
theorem nl_ref01_CheckRects_0 (F : Nat) (Post : AVal UU → Prop) (t0 : List Rect) (t2 : Int) (t3 : Int) : iter (exec C_flat_inRange Try.f80.ntmps M_ref01_CheckRects F 0 (cL (cB (cS (cF (cS (cS (bo Try.f80)))))))) (M_ref01_CheckRects 0) F 0 (st_ref01_CheckRects_0 t0 t2 t3) (k_ref01_CheckRects_0 F Post) = n_ref01_CheckRects_0 F (fun r0 => Post (.int .i64 r0)) t0 t2 t3 := by
  rw [loop_ref01_CheckRects_0]
  have h0 : (fun t0 t2 t3 => k_ref01_CheckRects_0 F Post .ret (st_ref01_CheckRects_0 t0 t2 t3)) = (fun t0 t2 t3 => g_ref01_CheckRects_c0_0 (fun r0 => Post (.int .i64 r0)) t0 t2 t3) := by
    funext t0 t2 t3
    rw [cont_ref01_CheckRects_0_0]
  have h1 : (fun t0 t2 t3 => k_ref01_CheckRects_0 F Post (.exit 0) (st_ref01_CheckRects_0 t0 t2 t3)) = (fun t0 t2 t3 => g_ref01_CheckRects_c0_1 (fun r0 => Post (.int .i64 r0)) t0 t2 t3) := by
    funext t0 t2 t3
    rw [cont_ref01_CheckRects_0_1]
  rw [h0, h1]
  rfl
theorem exec_ref01_CheckRects (F : Nat) (Post : AVal UU → Prop) (a0 : List Rect) : exec C_flat_inRange Try.f80.ntmps M_ref01_CheckRects F 0 (bo Try.f80) (initSt [.sl .rect a0]) (AEnds C_flat_inRange false Try.f80 Post) = w_ref01_CheckRects F a0 (fun r0 => Post (.int .i64 r0)) := by
  rw [entry_ref01_CheckRects]
  have e0 : (fun t0 t2 t3 => iter (exec C_flat_inRange Try.f80.ntmps M_ref01_CheckRects F 0 (cL (cB (cS (cF (cS (cS (bo Try.f80)))))))) (M_ref01_CheckRects 0) F 0 (st_ref01_CheckRects_0 t0 t2 t3) (k_ref01_CheckRects_0 F Post)) = (n_ref01_CheckRects_0 F (fun r0 => Post (.int .i64 r0))) := by
    funext t0 t2 t3
    exact nl_ref01_CheckRects_0 F Post t0 t2 t3
  rw [e0]
  rfl
def m_ref01_CheckRects : Model UU
  | [.sl .rect a0] => some ([], .int .i64 (sp_ref01_CheckRects a0))
  | _ => none
def C_ref01_CheckRects : Cfg UU := C_flat_inRange.add 80 m_ref01_CheckRects
theorem s_ref01_CheckRects : SumOK C_ref01_CheckRects := by
  refine s_flat_inRange.addD mixed (fn := Try.f80) (c := bo Try.f80) Try.func80 (by kernel_rfl) (by kernel_rfl) ?_
  intro xs cs r h hc
  unfold m_ref01_CheckRects at h
  split at h
  · rename_i a0
    cases h
    obtain ⟨F, hF⟩ := ok_ref01_CheckRects a0
    refine ⟨by kernel_rfl, M_ref01_CheckRects, F, false, ⟨?_⟩⟩
    rw [exec_ref01_CheckRects]
    refine hF _ ?_
    rfl
  · cases h
def k_flat_bounds_0 (F : Nat) (Post : AVal UU → Prop) : AEx → ASt UU → Prop := kBlock 0 (kSeq C_ref01_CheckRects Try.f29.ntmps M_flat_bounds F 0 (cS (cS (cS (bo Try.f29)))) (AEnds C_ref01_CheckRects false Try.f29 Post))
set_option maxRecDepth 100000 in
theorem step_flat_bounds_0 (F n r : Nat) (K : AEx → ASt UU → Prop) (t12 : List Rect) (t13 : Int) (t14 : Int) (c2_0 : Int) (c2_1 : Int) (c2_2 : Int) (c2_3 : Int) (c3_0 : Int) (c3_1 : Int) (c3_2 : Int) (c3_3 : Int) : iter (exec C_ref01_CheckRects Try.f29.ntmps M_flat_bounds F 0 (cL (cB (cS (cF (cS (cS (bo Try.f29)))))))) (M_flat_bounds 0) (n + 1) r (st_flat_bounds_0 t12 t13 t14 c2_0 c2_1 c2_2 c2_3 c3_0 c3_1 c3_2 c3_3) K = g_flat_bounds_s0 (fun t12 t13 t14 c2_0 c2_1 c2_2 c2_3 c3_0 c3_1 c3_2 c3_3 => iter (exec C_ref01_CheckRects Try.f29.ntmps M_flat_bounds F 0 (cL (cB (cS (cF (cS (cS (bo Try.f29)))))))) (M_flat_bounds 0) n (r + 1) (st_flat_bounds_0 t12 t13 t14 c2_0 c2_1 c2_2 c2_3 c3_0 c3_1 c3_2 c3_3) K) (fun t12 t13 t14 c2_0 c2_1 c2_2 c2_3 c3_0 c3_1 c3_2 c3_3 => K (.exit 0) (st_flat_bounds_0 t12 t13 t14 c2_0 c2_1 c2_2 c2_3 c3_0 c3_1 c3_2 c3_3)) t12 t13 t14 c2_0 c2_1 c2_2 c2_3 c3_0 c3_1 c3_2 c3_3 := by kernel_rfl
set_option maxRecDepth 100000 in
theorem cont_flat_bounds_0_0 (F : Nat) (Post : AVal UU → Prop) (t12 : List Rect) (t13 : Int) (t14 : Int) (c2_0 : Int) (c2_1 : Int) (c2_2 : Int) (c2_3 : Int) (c3_0 : Int) (c3_1 : Int) (c3_2 : Int) (c3_3 : Int) : k_flat_bounds_0 F Post (.exit 0) (st_flat_bounds_0 t12 t13 t14 c2_0 c2_1 c2_2 c2_3 c3_0 c3_1 c3_2 c3_3) = g_flat_bounds_c0_0 (fun r0_X r0_Y r0_W r0_H => Post (.agg [.int .i64 r0_X, .int .i64 r0_Y, .int .i64 r0_W, .int .i64 r0_H])) t12 t13 t14 c2_0 c2_1 c2_2 c2_3 c3_0 c3_1 c3_2 c3_3 := by kernel_rfl
set_option maxRecDepth 100000 in
theorem entry_flat_bounds (F : Nat) (Post : AVal UU → Prop) (a0 : List Rect) : exec C_ref01_CheckRects Try.f29.ntmps M_flat_bounds F 0 (bo Try.f29) (initSt [.sl .rect a0]) (AEnds C_ref01_CheckRects false Try.f29 Post) = g_flat_bounds_e a0 (fun r0_X r0_Y r0_W r0_H => Post (.agg [.int .i64 r0_X, .int .i64 r0_Y, .int .i64 r0_W, .int .i64 r0_H])) (fun t12 t13 t14 c2_0 c2_1 c2_2 c2_3 c3_0 c3_1 c3_2 c3_3 => iter (exec C_ref01_CheckRects Try.f29.ntmps M_flat_bounds F 0 (cL (cB (cS (cF (cS (cS (bo Try.f29)))))))) (M_flat_bounds 0) F 0 (st_flat_bounds_0 t12 t13 t14 c2_0 c2_1 c2_2 c2_3 c3_0 c3_1 c3_2 c3_3) (k_flat_bounds_0 F Post)) := by kernel_rfl
theorem loop_flat_bounds_0 (F : Nat) (K : AEx → ASt UU → Prop) : ∀ (n r : Nat) (t12 : List Rect) (t13 : Int) (t14 : Int) (c2_0 : Int) (c2_1 : Int) (c2_2 : Int) (c2_3 : Int) (c3_0 : Int) (c3_1 : Int) (c3_2 : Int) (c3_3 : Int), iter (exec C_ref01_CheckRects Try.f29.ntmps M_flat_bounds F 0 (cL (cB (cS (cF (cS (cS (bo Try.f29)))))))) (M_flat_bounds 0) n r (st_flat_bounds_0 t12 t13 t14 c2_0 c2_1 c2_2 c2_3 c3_0 c3_1 c3_2 c3_3) K = w_flat_bounds_0 F  (fun t12 t13 t14 c2_0 c2_1 c2_2 c2_3 c3_0 c3_1 c3_2 c3_3 => K (.exit 0) (st_flat_bounds_0 t12 t13 t14 c2_0 c2_1 c2_2 c2_3 c3_0 c3_1 c3_2 c3_3)) n t12 t13 t14 c2_0 c2_1 c2_2 c2_3 c3_0 c3_1 c3_2 c3_3 := by
  intro n
  induction n with
  | zero => intros; rfl
  | succ n ih =>
    intro r t12 t13 t14 c2_0 c2_1 c2_2 c2_3 c3_0 c3_1 c3_2 c3_3
    have e : (fun t12 t13 t14 c2_0 c2_1 c2_2 c2_3 c3_0 c3_1 c3_2 c3_3 => iter (exec C_ref01_CheckRects Try.f29.ntmps M_flat_bounds F 0 (cL (cB (cS (cF (cS (cS (bo Try.f29)))))))) (M_flat_bounds 0) n (r + 1) (st_flat_bounds_0 t12 t13 t14 c2_0 c2_1 c2_2 c2_3 c3_0 c3_1 c3_2 c3_3) K) = w_flat_bounds_0 F  (fun t12 t13 t14 c2_0 c2_1 c2_2 c2_3 c3_0 c3_1 c3_2 c3_3 => K (.exit 0) (st_flat_bounds_0 t12 t13 t14 c2_0 c2_1 c2_2 c2_3 c3_0 c3_1 c3_2 c3_3)) n := by
      funext t12 t13 t14 c2_0 c2_1 c2_2 c2_3 c3_0 c3_1 c3_2 c3_3
      exact ih (r + 1) t12 t13 t14 c2_0 c2_1 c2_2 c2_3 c3_0 c3_1 c3_2 c3_3
    rw [step_flat_bounds_0, e]
    rfl
theorem nl_flat_bounds_0 (F : Nat) (Post : AVal UU → Prop) (t12 : List Rect) (t13 : Int) (t14 : Int) (c2_0 : Int) (c2_1 : Int) (c2_2 : Int) (c2_3 : Int) (c3_0 : Int) (c3_1 : Int) (c3_2 : Int) (c3_3 : Int) : iter (exec C_ref01_CheckRects Try.f29.ntmps M_flat_bounds F 0 (cL (cB (cS (cF (cS (cS (bo Try.f29)))))))) (M_flat_bounds 0) F 0 (st_flat_bounds_0 t12 t13 t14 c2_0 c2_1 c2_2 c2_3 c3_0 c3_1 c3_2 c3_3) (k_flat_bounds_0 F Post) = n_flat_bounds_0 F (fun r0_X r0_Y r0_W r0_H => Post (.agg [.int .i64 r0_X, .int .i64 r0_Y, .int .i64 r0_W, .int .i64 r0_H])) t12 t13 t14 c2_0 c2_1 c2_2 c2_3 c3_0 c3_1 c3_2 c3_3 := by
  rw [loop_flat_bounds_0]
  have h0 : (fun t12 t13 t14 c2_0 c2_1 c2_2 c2_3 c3_0 c3_1 c3_2 c3_3 => k_flat_bounds_0 F Post (.exit 0) (st_flat_bounds_0 t12 t13 t14 c2_0 c2_1 c2_2 c2_3 c3_0 c3_1 c3_2 c3_3)) = (fun t12 t13 t14 c2_0 c2_1 c2_2 c2_3 c3_0 c3_1 c3_2 c3_3 => g_flat_bounds_c0_0 (fun r0_X r0_Y r0_W r0_H => Post (.agg [.int .i64 r0_X, .int .i64 r0_Y, .int .i64 r0_W, .int .i64 r0_H])) t12 t13 t14 c2_0 c2_1 c2_2 c2_3 c3_0 c3_1 c3_2 c3_3) := by
    funext t12 t13 t14 c2_0 c2_1 c2_2 c2_3 c3_0 c3_1 c3_2 c3_3
    rw [cont_flat_bounds_0_0]
  rw [h0]
  rfl
theorem exec_flat_bounds (F : Nat) (Post : AVal UU → Prop) (a0 : List Rect) : exec C_ref01_CheckRects Try.f29.ntmps M_flat_bounds F 0 (bo Try.f29) (initSt [.sl .rect a0]) (AEnds C_ref01_CheckRects false Try.f29 Post) = w_flat_bounds F a0 (fun r0_X r0_Y r0_W r0_H => Post (.agg [.int .i64 r0_X, .int .i64 r0_Y, .int .i64 r0_W, .int .i64 r0_H])) := by
  rw [entry_flat_bounds]
  have e0 : (fun t12 t13 t14 c2_0 c2_1 c2_2 c2_3 c3_0 c3_1 c3_2 c3_3 => iter (exec C_ref01_CheckRects Try.f29.ntmps M_flat_bounds F 0 (cL (cB (cS (cF (cS (cS (bo Try.f29)))))))) (M_flat_bounds 0) F 0 (st_flat_bounds_0 t12 t13 t14 c2_0 c2_1 c2_2 c2_3 c3_0 c3_1 c3_2 c3_3) (k_flat_bounds_0 F Post)) = (n_flat_bounds_0 F (fun r0_X r0_Y r0_W r0_H => Post (.agg [.int .i64 r0_X, .int .i64 r0_Y, .int .i64 r0_W, .int .i64 r0_H]))) := by
    funext t12 t13 t14 c2_0 c2_1 c2_2 c2_3 c3_0 c3_1 c3_2 c3_3
    exact nl_flat_bounds_0 F Post t12 t13 t14 c2_0 c2_1 c2_2 c2_3 c3_0 c3_1 c3_2 c3_3
  rw [e0]
  rfl
def m_flat_bounds : Model UU
  | [.sl .rect a0] => some ([pre_flat_bounds a0], .agg [.int .i64 ((sp_flat_bounds a0).1), .int .i64 ((sp_flat_bounds a0).2.1), .int .i64 ((sp_flat_bounds a0).2.2.1), .int .i64 ((sp_flat_bounds a0).2.2.2)])
  | _ => none
def C_flat_bounds : Cfg UU := C_ref01_CheckRects.add 29 m_flat_bounds
theorem s_flat_bounds : SumOK C_flat_bounds := by
  refine s_ref01_CheckRects.addD mixed (fn := Try.f29) (c := bo Try.f29) Try.func29 (by kernel_rfl) (by kernel_rfl) ?_
  intro xs cs r h hc
  unfold m_flat_bounds at h
  split at h
  · rename_i a0
    cases h
    obtain ⟨F, hF⟩ := ok_flat_bounds a0 hc
    refine ⟨by kernel_rfl, M_flat_bounds, F, false, ⟨?_⟩⟩
    rw [exec_flat_bounds]
    refine hF _ ?_
    rfl
  · cases h
def k_ref03_bounds_0 (F : Nat) (Post : AVal UU → Prop) : AEx → ASt UU → Prop := kBlock 0 (kSeq C_flat_bounds Try.f31.ntmps M_ref03_bounds F 0 (cS (cS (cS (bo Try.f31)))) (AEnds C_flat_bounds false Try.f31 Post))
set_option maxRecDepth 100000 in
theorem step_ref03_bounds_0 (F n r : Nat) (K : AEx → ASt UU → Prop) (t0 : List Rect) (t3 : Int) (t4 : Int) (t5 : Int) (t6 : Int) (t7 : Int) (c2_0 : Int) (c2_1 : Int) (c2_2 : Int) (c2_3 : Int) : iter (exec C_flat_bounds Try.f31.ntmps M_ref03_bounds F 0 (cL (cB (cS (cF (cS (cS (bo Try.f31)))))))) (M_ref03_bounds 0) (n + 1) r (st_ref03_bounds_0 t0 t3 t4 t5 t6 t7 c2_0 c2_1 c2_2 c2_3) K = g_ref03_bounds_s0 (fun t0 t3 t4 t5 t6 t7 c2_0 c2_1 c2_2 c2_3 => iter (exec C_flat_bounds Try.f31.ntmps M_ref03_bounds F 0 (cL (cB (cS (cF (cS (cS (bo Try.f31)))))))) (M_ref03_bounds 0) n (r + 1) (st_ref03_bounds_0 t0 t3 t4 t5 t6 t7 c2_0 c2_1 c2_2 c2_3) K) (fun t0 t3 t4 t5 t6 t7 c2_0 c2_1 c2_2 c2_3 => K (.exit 0) (st_ref03_bounds_0 t0 t3 t4 t5 t6 t7 c2_0 c2_1 c2_2 c2_3)) t0 t3 t4 t5 t6 t7 c2_0 c2_1 c2_2 c2_3 := by kernel_rfl
set_option maxRecDepth 100000 in
theorem cont_ref03_bounds_0_0 (F : Nat) (Post : AVal UU → Prop) (t0 : List Rect) (t3 : Int) (t4 : Int) (t5 : Int) (t6 : Int) (t7 : Int) (c2_0 : Int) (c2_1 : Int) (c2_2 : Int) (c2_3 : Int) : k_ref03_bounds_0 F Post (.exit 0) (st_ref03_bounds_0 t0 t3 t4 t5 t6 t7 c2_0 c2_1 c2_2 c2_3) = g_ref03_bounds_c0_0 (fun r0_X r0_Y r0_W r0_H => Post (.agg [.int .i64 r0_X, .int .i64 r0_Y, .int .i64 r0_W, .int .i64 r0_H])) t0 t3 t4 t5 t6 t7 c2_0 c2_1 c2_2 c2_3 := by kernel_rfl
set_option maxRecDepth 100000 in
theorem entry_ref03_bounds (F : Nat) (Post : AVal UU → Prop) (a0 : List Rect) : exec C_flat_bounds Try.f31.ntmps M_ref03_bounds F 0 (bo Try.f31) (initSt [.sl .rect a0]) (AEnds C_flat_bounds false Try.f31 Post) = g_ref03_bounds_e a0 (fun r0_X r0_Y r0_W r0_H => Post (.agg [.int .i64 r0_X, .int .i64 r0_Y, .int .i64 r0_W, .int .i64 r0_H])) (fun t0 t3 t4 t5 t6 t7 c2_0 c2_1 c2_2 c2_3 => iter (exec C_flat_bounds Try.f31.ntmps M_ref03_bounds F 0 (cL (cB (cS (cF (cS (cS (bo Try.f31)))))))) (M_ref03_bounds 0) F 0 (st_ref03_bounds_0 t0 t3 t4 t5 t6 t7 c2_0 c2_1 c2_2 c2_3) (k_ref03_bounds_0 F Post)) := by kernel_rfl
theorem loop_ref03_bounds_0 (F : Nat) (K : AEx → ASt UU → Prop) : ∀ (n r : Nat) (t0 : List Rect) (t3 : Int) (t4 : Int) (t5 : Int) (t6 : Int) (t7 : Int) (c2_0 : Int) (c2_1 : Int) (c2_2 : Int) (c2_3 : Int), iter (exec C_flat_bounds Try.f31.ntmps M_ref03_bounds F 0 (cL (cB (cS (cF (cS (cS (bo Try.f31)))))))) (M_ref03_bounds 0) n r (st_ref03_bounds_0 t0 t3 t4 t5 t6 t7 c2_0 c2_1 c2_2 c2_3) K = w_ref03_bounds_0 F  (fun t0 t3 t4 t5 t6 t7 c2_0 c2_1 c2_2 c2_3 => K (.exit 0) (st_ref03_bounds_0 t0 t3 t4 t5 t6 t7 c2_0 c2_1 c2_2 c2_3)) n t0 t3 t4 t5 t6 t7 c2_0 c2_1 c2_2 c2_3 := by
  intro n
  induction n with
  | zero => intros; rfl
  | succ n ih =>
    intro r t0 t3 t4 t5 t6 t7 c2_0 c2_1 c2_2 c2_3
    have e : (fun t0 t3 t4 t5 t6 t7 c2_0 c2_1 c2_2 c2_3 => iter (exec C_flat_bounds Try.f31.ntmps M_ref03_bounds F 0 (cL (cB (cS (cF (cS (cS (bo Try.f31)))))))) (M_ref03_bounds 0) n (r + 1) (st_ref03_bounds_0 t0 t3 t4 t5 t6 t7 c2_0 c2_1 c2_2 c2_3) K) = w_ref03_bounds_0 F  (fun t0 t3 t4 t5 t6 t7 c2_0 c2_1 c2_2 c2_3 => K (.exit 0) (st_ref03_bounds_0 t0 t3 t4 t5 t6 t7 c2_0 c2_1 c2_2 c2_3)) n := by
      funext t0 t3 t4 t5 t6 t7 c2_0 c2_1 c2_2 c2_3
      exact ih (r + 1) t0 t3 t4 t5 t6 t7 c2_0 c2_1 c2_2 c2_3
    rw [step_ref03_bounds_0, e]
    rfl
theorem nl_ref03_bounds_0 (F : Nat) (Post : AVal UU → Prop) (t0 : List Rect) (t3 : Int) (t4 : Int) (t5 : Int) (t6 : Int) (t7 : Int) (c2_0 : Int) (c2_1 : Int) (c2_2 : Int) (c2_3 : Int) : iter (exec C_flat_bounds Try.f31.ntmps M_ref03_bounds F 0 (cL (cB (cS (cF (cS (cS (bo Try.f31)))))))) (M_ref03_bounds 0) F 0 (st_ref03_bounds_0 t0 t3 t4 t5 t6 t7 c2_0 c2_1 c2_2 c2_3) (k_ref03_bounds_0 F Post) = n_ref03_bounds_0 F (fun r0_X r0_Y r0_W r0_H => Post (.agg [.int .i64 r0_X, .int .i64 r0_Y, .int .i64 r0_W, .int .i64 r0_H])) t0 t3 t4 t5 t6 t7 c2_0 c2_1 c2_2 c2_3 := by
  rw [loop_ref03_bounds_0]
  have h0 : (fun t0 t3 t4 t5 t6 t7 c2_0 c2_1 c2_2 c2_3 => k_ref03_bounds_0 F Post (.exit 0) (st_ref03_bounds_0 t0 t3 t4 t5 t6 t7 c2_0 c2_1 c2_2 c2_3)) = (fun t0 t3 t4 t5 t6 t7 c2_0 c2_1 c2_2 c2_3 => g_ref03_bounds_c0_0 (fun r0_X r0_Y r0_W r0_H => Post (.agg [.int .i64 r0_X, .int .i64 r0_Y, .int .i64 r0_W, .int .i64 r0_H])) t0 t3 t4 t5 t6 t7 c2_0 c2_1 c2_2 c2_3) := by
    funext t0 t3 t4 t5 t6 t7 c2_0 c2_1 c2_2 c2_3
    rw [cont_ref03_bounds_0_0]
  rw [h0]
  rfl
theorem exec_ref03_bounds (F : Nat) (Post : AVal UU → Prop) (a0 : List Rect) : exec C_flat_bounds Try.f31.ntmps M_ref03_bounds F 0 (bo Try.f31) (initSt [.sl .rect a0]) (AEnds C_flat_bounds false Try.f31 Post) = w_ref03_bounds F a0 (fun r0_X r0_Y r0_W r0_H => Post (.agg [.int .i64 r0_X, .int .i64 r0_Y, .int .i64 r0_W, .int .i64 r0_H])) := by
  rw [entry_ref03_bounds]
  have e0 : (fun t0 t3 t4 t5 t6 t7 c2_0 c2_1 c2_2 c2_3 => iter (exec C_flat_bounds Try.f31.ntmps M_ref03_bounds F 0 (cL (cB (cS (cF (cS (cS (bo Try.f31)))))))) (M_ref03_bounds 0) F 0 (st_ref03_bounds_0 t0 t3 t4 t5 t6 t7 c2_0 c2_1 c2_2 c2_3) (k_ref03_bounds_0 F Post)) = (n_ref03_bounds_0 F (fun r0_X r0_Y r0_W r0_H => Post (.agg [.int .i64 r0_X, .int .i64 r0_Y, .int .i64 r0_W, .int .i64 r0_H]))) := by
    funext t0 t3 t4 t5 t6 t7 c2_0 c2_1 c2_2 c2_3
    exact nl_ref03_bounds_0 F Post t0 t3 t4 t5 t6 t7 c2_0 c2_1 c2_2 c2_3
  rw [e0]
  rfl
def m_ref03_bounds : Model UU
  | [.sl .rect a0] => some ([pre_ref03_bounds a0], .agg [.int .i64 ((sp_ref03_bounds a0).1), .int .i64 ((sp_ref03_bounds a0).2.1), .int .i64 ((sp_ref03_bounds a0).2.2.1), .int .i64 ((sp_ref03_bounds a0).2.2.2)])
  | _ => none
def C_ref03_bounds : Cfg UU := C_flat_bounds.add 31 m_ref03_bounds
theorem s_ref03_bounds : SumOK C_ref03_bounds := by
  refine s_flat_bounds.addD mixed (fn := Try.f31) (c := bo Try.f31) Try.func31 (by kernel_rfl) (by kernel_rfl) ?_
  intro xs cs r h hc
  unfold m_ref03_bounds at h
  split at h
  · rename_i a0
    cases h
    obtain ⟨F, hF⟩ := ok_ref03_bounds a0 hc
    refine ⟨by kernel_rfl, M_ref03_bounds, F, false, ⟨?_⟩⟩
    rw [exec_ref03_bounds]
    refine hF _ ?_
    rfl
  · cases h
def k_ref01_CopyRects_0 (F : Nat) (Post : AVal UU → Prop) : AEx → ASt UU → Prop := kBlock 0 (kSeq C_ref03_bounds Try.f27.ntmps M_ref01_CopyRects F 0 (cS (cS (cS (bo Try.f27)))) (AEnds C_ref03_bounds true Try.f27 Post))
set_option maxRecDepth 100000 in
theorem step_ref01_CopyRects_0 (F n r : Nat) (K : AEx → ASt UU → Prop) (t0 : List Rect) (t4 : Int) (l19 : List Rect) : iter (exec C_ref03_bounds Try.f27.ntmps M_ref01_CopyRects F 0 (cL (cB (cS (cF (cS (cS (bo Try.f27)))))))) (M_ref01_CopyRects 0) (n + 1) r (st_ref01_CopyRects_0 t0 t4 l19) K = g_ref01_CopyRects_s0 (fun t0 t4 l19 => iter (exec C_ref03_bounds Try.f27.ntmps M_ref01_CopyRects F 0 (cL (cB (cS (cF (cS (cS (bo Try.f27)))))))) (M_ref01_CopyRects 0) n (r + 1) (st_ref01_CopyRects_0 t0 t4 l19) K) (fun t0 t4 l19 => K (.exit 0) (st_ref01_CopyRects_0 t0 t4 l19)) t0 t4 l19 := by kernel_rfl
set_option maxRecDepth 100000 in
theorem cont_ref01_CopyRects_0_0 (F : Nat) (Post : AVal UU → Prop) (t0 : List Rect) (t4 : Int) (l19 : List Rect) : k_ref01_CopyRects_0 F Post (.exit 0) (st_ref01_CopyRects_0 t0 t4 l19) = g_ref01_CopyRects_c0_0 (fun r0 => Post (.new .rect r0)) t0 t4 l19 := by kernel_rfl
set_option maxRecDepth 100000 in
theorem entry_ref01_CopyRects (F : Nat) (Post : AVal UU → Prop) (a0 : List Rect) : exec C_ref03_bounds Try.f27.ntmps M_ref01_CopyRects F 0 (bo Try.f27) (initSt [.sl .rect a0]) (AEnds C_ref03_bounds true Try.f27 Post) = g_ref01_CopyRects_e a0 (fun r0 => Post (.new .rect r0)) (fun t0 t4 l19 => iter (exec C_ref03_bounds Try.f27.ntmps M_ref01_CopyRects F 0 (cL (cB (cS (cF (cS (cS (bo Try.f27)))))))) (M_ref01_CopyRects 0) F 0 (st_ref01_CopyRects_0 t0 t4 l19) (k_ref01_CopyRects_0 F Post)) := by kernel_rfl
theorem loop_ref01_CopyRects_0 (F : Nat) (K : AEx → ASt UU → Prop) : ∀ (n r : Nat) (t0 : List Rect) (t4 : Int) (l19 : List Rect), iter (exec C_ref03_bounds Try.f27.ntmps M_ref01_CopyRects F 0 (cL (cB (cS (cF (cS (cS (bo Try.f27)))))))) (M_ref01_CopyRects 0) n r (st_ref01_CopyRects_0 t0 t4 l19) K = w_ref01_CopyRects_0 F  (fun t0 t4 l19 => K (.exit 0) (st_ref01_CopyRects_0 t0 t4 l19)) n t0 t4 l19 := by
  intro n
  induction n with
  | zero => intros; rfl
  | succ n ih =>
    intro r t0 t4 l19
    have e : (fun t0 t4 l19 => iter (exec C_ref03_bounds Try.f27.ntmps M_ref01_CopyRects F 0 (cL (cB (cS (cF (cS (cS (bo Try.f27)))))))) (M_ref01_CopyRects 0) n (r + 1) (st_ref01_CopyRects_0 t0 t4 l19) K) = w_ref01_CopyRects_0 F  (fun t0 t4 l19 => K (.exit 0) (st_ref01_CopyRects_0 t0 t4 l19)) n := by
      funext t0 t4 l19
      exact ih (r + 1) t0 t4 l19
    rw [step_ref01_CopyRects_0, e]
    rfl
theorem nl_ref01_CopyRects_0 (F : Nat) (Post : AVal UU → Prop) (t0 : List Rect) (t4 : Int) (l19 : List Rect) : iter (exec C_ref03_bounds Try.f27.ntmps M_ref01_CopyRects F 0 (cL (cB (cS (cF (cS (cS (bo Try.f27)))))))) (M_ref01_CopyRects 0) F 0 (st_ref01_CopyRects_0 t0 t4 l19) (k_ref01_CopyRects_0 F Post) = n_ref01_CopyRects_0 F (fun r0 => Post (.new .rect r0)) t0 t4 l19 := by
  rw [loop_ref01_CopyRects_0]
  have h0 : (fun t0 t4 l19 => k_ref01_CopyRects_0 F Post (.exit 0) (st_ref01_CopyRects_0 t0 t4 l19)) = (fun t0 t4 l19 => g_ref01_CopyRects_c0_0 (fun r0 => Post (.new .rect r0)) t0 t4 l19) := by
    funext t0 t4 l19
    rw [cont_ref01_CopyRects_0_0]
  rw [h0]
  rfl
theorem exec_ref01_CopyRects (F : Nat) (Post : AVal UU → Prop) (a0 : List Rect) : exec C_ref03_bounds Try.f27.ntmps M_ref01_CopyRects F 0 (bo Try.f27) (initSt [.sl .rect a0]) (AEnds C_ref03_bounds true Try.f27 Post) = w_ref01_CopyRects F a0 (fun r0 => Post (.new .rect r0)) := by
  rw [entry_ref01_CopyRects]
  have e0 : (fun t0 t4 l19 => iter (exec C_ref03_bounds Try.f27.ntmps M_ref01_CopyRects F 0 (cL (cB (cS (cF (cS (cS (bo Try.f27)))))))) (M_ref01_CopyRects 0) F 0 (st_ref01_CopyRects_0 t0 t4 l19) (k_ref01_CopyRects_0 F Post)) = (n_ref01_CopyRects_0 F (fun r0 => Post (.new .rect r0))) := by
    funext t0 t4 l19
    exact nl_ref01_CopyRects_0 F Post t0 t4 l19
  rw [e0]
  rfl
def m_ref01_CopyRects : Model UU
  | [.sl .rect a0] => some ([pre_ref01_CopyRects a0], .new .rect (sp_ref01_CopyRects a0))
  | _ => none
def C_ref01_CopyRects : Cfg UU := C_ref03_bounds.add 27 m_ref01_CopyRects
theorem s_ref01_CopyRects : SumOK C_ref01_CopyRects := by
  refine s_ref03_bounds.addD mixed (fn := Try.f27) (c := bo Try.f27) Try.func27 (by kernel_rfl) (by kernel_rfl) ?_
  intro xs cs r h hc
  unfold m_ref01_CopyRects at h
  split at h
  · rename_i a0
    cases h
    obtain ⟨F, hF⟩ := ok_ref01_CopyRects a0 hc
    refine ⟨by kernel_rfl, M_ref01_CopyRects, F, true, ⟨?_⟩⟩
    rw [exec_ref01_CopyRects]
    refine hF _ ?_
    rfl
  · cases h
def k_ref01_SameRects_0 (F : Nat) (Post : AVal UU → Prop) : AEx → ASt UU → Prop := kBlock 0 (kSeq C_ref01_CopyRects Try.f37.ntmps M_ref01_SameRects F 0 (cS (cS (cS (bo Try.f37)))) (AEnds C_ref01_CopyRects false Try.f37 Post))
set_option maxRecDepth 100000 in
theorem step_ref01_SameRects_0 (F n r : Nat) (K : AEx → ASt UU → Prop) (t0 : List Rect) (t1 : List Rect) (t4 : Bool) (t5 : Int) : iter (exec C_ref01_CopyRects Try.f37.ntmps M_ref01_SameRects F 0 (cL (cB (cS (cF (cS (cS (bo Try.f37)))))))) (M_ref01_SameRects 0) (n + 1) r (st_ref01_SameRects_0 t0 t1 t4 t5) K = g_ref01_SameRects_s0 (fun t0 t1 t4 t5 => iter (exec C_ref01_CopyRects Try.f37.ntmps M_ref01_SameRects F 0 (cL (cB (cS (cF (cS (cS (bo Try.f37)))))))) (M_ref01_SameRects 0) n (r + 1) (st_ref01_SameRects_0 t0 t1 t4 t5) K) (fun t0 t1 t4 t5 => K .ret (st_ref01_SameRects_0 t0 t1 t4 t5)) (fun t0 t1 t4 t5 => K (.exit 0) (st_ref01_SameRects_0 t0 t1 t4 t5)) t0 t1 t4 t5 := by kernel_rfl
set_option maxRecDepth 100000 in
theorem cont_ref01_SameRects_0_0 (F : Nat) (Post : AVal UU → Prop) (t0 : List Rect) (t1 : List Rect) (t4 : Bool) (t5 : Int) : k_ref01_SameRects_0 F Post .ret (st_ref01_SameRects_0 t0 t1 t4 t5) = g_ref01_SameRects_c0_0 (fun r0 => Post (.bool r0)) t0 t1 t4 t5 := by kernel_rfl
set_option maxRecDepth 100000 in
theorem cont_ref01_SameRects_0_1 (F : Nat) (Post : AVal UU → Prop) (t0 : List Rect) (t1 : List Rect) (t4 : Bool) (t5 : Int) : k_ref01_SameRects_0 F Post (.exit 0) (st_ref01_SameRects_0 t0 t1 t4 t5) = g_ref01_SameRects_c0_1 (fun r0 => Post (.bool r0)) t0 t1 t4 t5 := by kernel_rfl
set_option maxRecDepth 100000 in
theorem entry_ref01_SameRects (F : Nat) (Post : AVal UU → Prop) (a0 : List Rect) (a1 : List Rect) : exec C_ref01_CopyRects Try.f37.ntmps M_ref01_SameRects F 0 (bo Try.f37) (initSt [.sl .rect a0, .sl .rect a1]) (AEnds C_ref01_CopyRects false Try.f37 Post) = g_ref01_SameRects_e a0 a1 (fun r0 => Post (.bool r0)) (fun t0 t1 t4 t5 => iter (exec C_ref01_CopyRects Try.f37.ntmps M_ref01_SameRects F 0 (cL (cB (cS (cF (cS (cS (bo Try.f37)))))))) (M_ref01_SameRects 0) F 0 (st_ref01_SameRects_0 t0 t1 t4 t5) (k_ref01_SameRects_0 F Post)) := by kernel_rfl
theorem loop_ref01_SameRects_0 (F : Nat) (K : AEx → ASt UU → Prop) : ∀ (n r : Nat) (t0 : List Rect) (t1 : List Rect) (t4 : Bool) (t5 : Int), iter (exec C_ref01_CopyRects Try.f37.ntmps M_ref01_SameRects F 0 (cL (cB (cS (cF (cS (cS (bo Try.f37)))))))) (M_ref01_SameRects 0) n r (st_ref01_SameRects_0 t0 t1 t4 t5) K = w_ref01_SameRects_0 F  (fun t0 t1 t4 t5 => K .ret (st_ref01_SameRects_0 t0 t1 t4 t5)) (fun t0 t1 t4 t5 => K (.exit 0) (st_ref01_SameRects_0 t0 t1 t4 t5)) n t0 t1 t4 t5 := by
  intro n
  induction n with
  | zero => intros; rfl
  | succ n ih =>
    intro r t0 t1 t4 t5
    have e : (fun t0 t1 t4 t5 => iter (exec C_ref01_CopyRects Try.f37.ntmps M_ref01_SameRects F 0 (cL (cB (cS (cF (cS (cS (bo Try.f37)))))))) (M_ref01_SameRects 0) n (r + 1) (st_ref01_SameRects_0 t0 t1 t4 t5) K) = w_ref01_SameRects_0 F  (fun t0 t1 t4 t5 => K .ret (st_ref01_SameRects_0 t0 t1 t4 t5)) (fun t0 t1 t4 t5 => K (.exit 0) (st_ref01_SameRects_0 t0 t1 t4 t5)) n := by
      funext t0 t1 t4 t5
      exact ih (r + 1) t0 t1 t4 t5
    rw [step_ref01_SameRects_0, e]
    rfl
theorem nl_ref01_SameRects_0 (F : Nat) (Post : AVal UU → Prop) (t0 : List Rect) (t1 : List Rect) (t4 : Bool) (t5 : Int) : iter (exec C_ref01_CopyRects Try.f37.ntmps M_ref01_SameRects F 0 (cL (cB (cS (cF (cS (cS (bo Try.f37)))))))) (M_ref01_SameRects 0) F 0 (st_ref01_SameRects_0 t0 t1 t4 t5) (k_ref01_SameRects_0 F Post) = n_ref01_SameRects_0 F (fun r0 => Post (.bool r0)) t0 t1 t4 t5 := by
  rw [loop_ref01_SameRects_0]
  have h0 : (fun t0 t1 t4 t5 => k_ref01_SameRects_0 F Post .ret (st_ref01_SameRects_0 t0 t1 t4 t5)) = (fun t0 t1 t4 t5 => g_ref01_SameRects_c0_0 (fun r0 => Post (.bool r0)) t0 t1 t4 t5) := by
    funext t0 t1 t4 t5
    rw [cont_ref01_SameRects_0_0]
  have h1 : (fun t0 t1 t4 t5 => k_ref01_SameRects_0 F Post (.exit 0) (st_ref01_SameRects_0 t0 t1 t4 t5)) = (fun t0 t1 t4 t5 => g_ref01_SameRects_c0_1 (fun r0 => Post (.bool r0)) t0 t1 t4 t5) := by
    funext t0 t1 t4 t5
    rw [cont_ref01_SameRects_0_1]
  rw [h0, h1]
  rfl
theorem exec_ref01_SameRects (F : Nat) (Post : AVal UU → Prop) (a0 : List Rect) (a1 : List Rect) : exec C_ref01_CopyRects Try.f37.ntmps M_ref01_SameRects F 0 (bo Try.f37) (initSt [.sl .rect a0, .sl .rect a1]) (AEnds C_ref01_CopyRects false Try.f37 Post) = w_ref01_SameRects F a0 a1 (fun r0 => Post (.bool r0)) := by
  rw [entry_ref01_SameRects]
  have e0 : (fun t0 t1 t4 t5 => iter (exec C_ref01_CopyRects Try.f37.ntmps M_ref01_SameRects F 0 (cL (cB (cS (cF (cS (cS (bo Try.f37)))))))) (M_ref01_SameRects 0) F 0 (st_ref01_SameRects_0 t0 t1 t4 t5) (k_ref01_SameRects_0 F Post)) = (n_ref01_SameRects_0 F (fun r0 => Post (.bool r0))) := by
    funext t0 t1 t4 t5
    exact nl_ref01_SameRects_0 F Post t0 t1 t4 t5
  rw [e0]
  rfl
def m_ref01_SameRects : Model UU
  | [.sl .rect a0, .sl .rect a1] => some ([pre_ref01_SameRects a0 a1], .bool (sp_ref01_SameRects a0 a1))
  | _ => none
def C_ref01_SameRects : Cfg UU := C_ref01_CopyRects.add 37 m_ref01_SameRects
theorem s_ref01_SameRects : SumOK C_ref01_SameRects := by
  refine s_ref01_CopyRects.addD mixed (fn := Try.f37) (c := bo Try.f37) Try.func37 (by kernel_rfl) (by kernel_rfl) ?_
  intro xs cs r h hc
  unfold m_ref01_SameRects at h
  split at h
  · rename_i a0 a1
    cases h
    obtain ⟨F, hF⟩ := ok_ref01_SameRects a0 a1 hc
    refine ⟨by kernel_rfl, M_ref01_SameRects, F, false, ⟨?_⟩⟩
    rw [exec_ref01_SameRects]
    refine hF _ ?_
    rfl
  · cases h
end
end Go.Proofs.Ytohecfbnmmgimaa
